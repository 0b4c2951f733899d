/- Several texts as one: StG, StH, StI, StJ, StD, StM, StN. Conditions: those of each lemma. -/
import Derived.Test.YtohcoidbncbijaaDoorStR
import Derived.Test.YtohcoidbncbijaaDoorStT
import Derived.Test.YtohcoidbncbijaaDoorGrX
import Derived.Test.YtohcoidbncbijaaDoorFlyB
import Derived.Test.YtohcoidbncbijaaDoorGrC
import Derived.Test.YtohcoidbncbijaaDoorFac3
import Derived.Test.YtohcoidbncbijaaDoorRound3
/- The groups of a step, plainly: which places go together; each place comes out in one group; what a group's words come to. Under no condition beside those of each lemma. -/
namespace Go.Proofs.YtohcoidbncbijaaDoor.P
open Go.RowKit
set_option linter.unusedVariables false
abbrev Grp := List Int × List Int × List Int
/-- The group of a place (a twist's); that of numbers a, b of line j (a stage's). -/
def grpT (l : List Int) (k : Nat) (i : Nat) : Grp := ([(i : Int)], [P.xv l k i], [(i : Int)])
def grpS (l : List Int) (k R L M j a b : Nat) : Grp :=
  (gatL (lineL l k j) (rowL (b + L * a) (L * M) R), rowL (a * R) 1 R, gatL (lineL l k j) (rowL (b + L * R * a) L R))
def grpG (l : List Int) (k : Nat) (t : Bool) (R L M g : Nat) : Grp := if t then grpT l k g else grpS l k R L M (g / L / M) (g / L % M) (g % L)
def grpC (l : List Int) (k : Nat) (t : Bool) (L M : Nat) : Nat := if t then (prodL l).toNat else (prodL l / l.getD k 1).toNat * M * L
/-- The number of the line in which a place is. -/
def lno (l : List Int) (k : Nat) (v : Int) : Nat := (kOf (prodL (l.drop (k + 1))) (l.getD k 1) v).toNat
/-- The number of the group in which a place comes out. -/
def gNo (l : List Int) (k : Nat) (t : Bool) (R L M v : Nat) : Nat := if t then v else (lno l k v * M + (P.xv l k v).toNat / L / R) * L + (P.xv l k v).toNat % L
/-- The place of number q of line j. -/
def plc (l : List Int) (k j q : Nat) : Int := vOf (prodL (l.drop (k + 1))) (l.getD k 1) j q
theorem rowL_at (f m n : Nat) {t : Nat} (h : t < n) (d : Int) : (rowL f m n).getD t d = ((f + m * t : Nat) : Int) := by
  rw [List.getD_eq_getElem?_getD]; simp [rowL, h]
theorem gatL_at (x L : List Int) {t : Nat} (h : t < L.length) (d : Int) : (gatL x L).getD t d = x.getD (L.getD t 0).toNat 0 := by
  rw [List.getD_eq_getElem?_getD, List.getD_eq_getElem?_getD (l := L)]; simp [gatL, h]
theorem gat_line (l : List Int) (k j : Nat) (f m n : Nat) {t : Nat} (ht : t < n) (hq : f + m * t < (l.getD k 1).toNat) (d : Int) : (gatL (lineL l k j) (rowL f m n)).getD t d = plc l k j (f + m * t) := by
  rw [gatL_at _ _ (by rw [rowL_length]; exact ht), rowL_at f m n ht, Int.toNat_natCast, lineL_at l k j hq]; rfl
theorem dig_last {L j b : Nat} (hb : b < L) : (j * L + b) % L = b ∧ (j * L + b) / L = j := by
  rw [Nat.add_comm, Nat.mul_comm]; exact dig_lo hb
theorem grpG_stage (l : List Int) (k R : Nat) {L M j a b : Nat} (ha : a < M) (hb : b < L) : grpG l k false R L M ((j * M + a) * L + b) = grpS l k R L M j a b := by
  unfold grpG
  rw [if_neg (by decide), (dig_last hb).1, (dig_last hb).2, (dig_last ha).1, (dig_last ha).2]
theorem grpG_twist (l : List Int) (k R L M g : Nat) : grpG l k true R L M g = grpT l k g := by unfold grpG; rw [if_pos rfl]
theorem digit_lt {A B a b : Nat} (ha : a < A) (hb : b < B) : b + B * a < B * A := by
  have h1 : B * (a + 1) ≤ B * A := Nat.mul_le_mul_left _ ha
  rw [Nat.mul_succ] at h1
  omega
theorem digit_lt2 {A B a b : Nat} (ha : a < A) (hb : b < B) : a * B + b < A * B := by
  have h1 := digit_lt ha hb
  rw [Nat.mul_comm B a, Nat.mul_comm B A] at h1
  omega
/-- What is known of an axis and a stage of it. -/
structure AxSt (l : List Int) (k R L M N : Nat) : Prop where
  ax : AxAt l k
  dim : l.getD k 1 = (N : Int)
  st : StageK N R L M
theorem AxAt.plc_in {l : List Int} {k N : Nat} (h : AxAt l k) (hD : l.getD k 1 = (N : Int)) {j q : Nat} (hj : (j : Int) < prodL l / (N : Int)) (hq : q < N) : 0 ≤ plc l k j q ∧ plc l k j q < prodL l :=
  h.line_in (by rw [hD]; exact hj) (by rw [hD]; omega)
theorem AxAt.plc_xv {l : List Int} {k N : Nat} (h : AxAt l k) (hD : l.getD k 1 = (N : Int)) (j : Nat) {q : Nat} (hq : q < N) : P.xv l k (plc l k j q) = (q : Int) :=
  xOf_vOf h.I1 (by omega) (by rw [hD]; omega)
theorem AxAt.plc_lno {l : List Int} {k N : Nat} (h : AxAt l k) (hD : l.getD k 1 = (N : Int)) (j : Nat) {q : Nat} (hq : q < N) : lno l k (plc l k j q) = j := by
  unfold lno plc
  rw [kOf_vOf h.I1 (by omega) (by rw [hD]; omega), Int.toNat_natCast]
theorem AxAt.plc_sv {l : List Int} {k N : Nat} (h : AxAt l k) (hD : l.getD k 1 = (N : Int)) (j : Nat) {q : Nat} (hq : q < N) (c : Nat) : sv l k (plc l k j q) c = plc l k j c := by
  unfold sv plc
  rw [kOf_vOf h.I1 (by omega) (by rw [hD]; omega)]
/-- Each place is one of a line. -/
theorem AxAt.plc_of {l : List Int} {k N : Nat} (h : AxAt l k) (hD : l.getD k 1 = (N : Int)) {v : Nat} (hv : (v : Int) < prodL l) :
    plc l k (lno l k v) (P.xv l k v).toNat = (v : Int) ∧ ((lno l k v : Nat) : Int) < prodL l / (N : Int) ∧ (P.xv l k v).toNat < N := by
  have h0 := h.xv (v : Int)
  have hI := h.I1
  have hd := h.D1
  have hb := kOf_bound (I := prodL (l.drop (k + 1))) (d := l.getD k 1) (O := prodL (l.take k)) (v := (v : Int)) hI hd (by omega) (by rw [← h.prod]; exact hv)
  have e : prodL l / (N : Int) = prodL (l.take k) * prodL (l.drop (k + 1)) := by rw [← hD]; exact h.rows
  refine ⟨?_, ?_, by omega⟩
  · unfold plc lno
    rw [Int.toNat_of_nonneg hb.1, Int.toNat_of_nonneg h0.1]
    exact vOf_of hI
  · rw [e]; unfold lno; rw [Int.toNat_of_nonneg hb.1]; exact hb.2
theorem AxSt.q_in {l : List Int} {k R L M N : Nat} (h : AxSt l k R L M N) {a b t : Nat} (ha : a < M) (hb : b < L) (ht : t < R) : b + L * a + L * M * t < N := by
  have h1 := digit_lt ht ha
  have h2 := digit_lt h1 hb
  have e := h.st.all
  rw [show b + L * a + L * M * t = b + L * (a + M * t) by rw [Nat.mul_add, ← Nat.mul_assoc]; omega]
  omega
theorem AxSt.q_out {l : List Int} {k R L M N : Nat} (h : AxSt l k R L M N) {a b t : Nat} (ha : a < M) (hb : b < L) (ht : t < R) : b + L * R * a + L * t < N := by
  have h1 := digit_lt ha ht
  have h2 := digit_lt h1 hb
  have e := h.st.all
  rw [show b + L * R * a + L * t = b + L * (t + R * a) by rw [Nat.mul_add, ← Nat.mul_assoc]; omega]
  rw [Nat.mul_comm R M] at h2
  omega
theorem q_form (L M a b t : Nat) : b + L * a + L * M * t = b + L * (a + M * t) := by rw [Nat.mul_add, ← Nat.mul_assoc]; omega
theorem q_form2 (L R a b t : Nat) : b + L * R * a + L * t = b + L * (t + R * a) := by rw [Nat.mul_add, ← Nat.mul_assoc]; omega
/-- What stands in a group of a stage. -/
theorem AxSt.in_at {l : List Int} {k R L M N : Nat} (h : AxSt l k R L M N) (j : Nat) {a b t : Nat} (ha : a < M) (hb : b < L) (ht : t < R) (d : Int) : (grpS l k R L M j a b).1.getD t d = plc l k j (b + L * (a + M * t)) := by
  have h1 := h.q_in ha hb ht
  unfold grpS
  dsimp only
  rw [gat_line l k j _ _ _ ht (by rw [h.dim, Int.toNat_natCast]; exact h1), q_form]
theorem AxSt.out_at {l : List Int} {k R L M N : Nat} (h : AxSt l k R L M N) (j : Nat) {a b t : Nat} (ha : a < M) (hb : b < L) (ht : t < R) (d : Int) : (grpS l k R L M j a b).2.2.getD t d = plc l k j (b + L * (t + R * a)) := by
  have h1 := h.q_out ha hb ht
  unfold grpS
  dsimp only
  rw [gat_line l k j _ _ _ ht (by rw [h.dim, Int.toNat_natCast]; exact h1), q_form2]
theorem fac_at (l : List Int) (k R L M j a b : Nat) {t : Nat} (ht : t < R) (d : Int) : (grpS l k R L M j a b).2.1.getD t d = ((a * R + t : Nat) : Int) := by
  unfold grpS
  dsimp only
  rw [rowL_at _ _ _ ht, Nat.one_mul]
theorem grpS_len (l : List Int) (k R L M j a b : Nat) : (grpS l k R L M j a b).1.length = R ∧ (grpS l k R L M j a b).2.1.length = R ∧ (grpS l k R L M j a b).2.2.length = R := by
  unfold grpS
  exact ⟨by rw [gatL_length, rowL_length], by rw [rowL_length], by rw [gatL_length, rowL_length]⟩
/-- How many words a group has. -/
def grpR (t : Bool) (R : Nat) : Nat := if t then 1 else R
/-- What a group's words come to. -/
def grpY (p : Int) (t : Bool) (R : Nat) (inv : Bool) (w : List Int) : List Int := if t then w else doL p (rtS p (R : Int) inv) w
/-- Words so far, after g groups. -/
def outN (y : List Int) (G : Nat → Nat) (g : Nat) : List Int := (List.range y.length).map fun v => if G v < g then y.getD v 0 else 0
theorem outN_length (y : List Int) (G : Nat → Nat) (g : Nat) : (outN y G g).length = y.length := by simp [outN]
theorem outN_at (y : List Int) (G : Nat → Nat) (g : Nat) {v : Nat} (h : v < y.length) (d : Int) : (outN y G g).getD v d = if G v < g then y.getD v 0 else 0 := by
  rw [List.getD_eq_getElem?_getD]; simp [outN, h]
theorem outN_zero (y : List Int) (G : Nat → Nat) : outN y G 0 = List.replicate y.length 0 := by
  apply List.ext_getElem
  · simp [outN]
  · intro i h1 h2; simp [outN]
theorem outN_all (y : List Int) (G : Nat → Nat) {g : Nat} (h : ∀ v, v < y.length → G v < g) : outN y G g = y := by
  refine list_ext_getD (outN_length y G g) fun v hv => ?_
  rw [outN_length] at hv
  rw [outN_at y G g hv, if_pos (h v hv)]
theorem putN_at (o L Y : List Int) (y : List Int) (hy : ∀ u, u < L.length → (L.getD u 0).toNat < o.length ∧ Y.getD u 0 = y.getD (L.getD u 0).toNat 0) : ∀ (k : Nat), k ≤ L.length → ∀ v, v < o.length →
    (putN o L Y k).getD v 0 = if ∃ u, u < k ∧ (L.getD u 0).toNat = v then y.getD v 0 else o.getD v 0
  | 0, _, v, hv => by rw [if_neg (by rintro ⟨u, h, _⟩; omega)]; rfl
  | k + 1, hk, v, hv => by
    have ih := putN_at o L Y y hy k (by omega) v hv
    obtain ⟨h1, h2⟩ := hy k (by omega)
    show ((putN o L Y k).set (L.getD k 0).toNat (Y.getD k 0)).getD v 0 = _
    rw [List.getD_eq_getElem?_getD, List.getElem?_set]
    by_cases e : (L.getD k 0).toNat = v
    · rw [if_pos e, if_pos (by rw [putN_length]; omega), if_pos ⟨k, by omega, e⟩, ← e]
      exact h2
    · rw [if_neg e, ← List.getD_eq_getElem?_getD, ih]
      by_cases h3 : ∃ u, u < k ∧ (L.getD u 0).toNat = v
      · rw [if_pos h3]
        obtain ⟨u, hu, h4⟩ := h3
        rw [if_pos ⟨u, by omega, h4⟩]
      · rw [if_neg h3, if_neg]
        rintro ⟨u, hu, h4⟩
        by_cases e2 : u = k
        · subst e2; exact e h4
        · exact h3 ⟨u, by omega, h4⟩
/-- A group's words, put at their places. -/
structure GrpOk (y : List Int) (G : Nat → Nat) (g : Nat) (O Y : List Int) : Prop where
  at' : ∀ u, u < O.length → (O.getD u 0).toNat < y.length ∧ Y.getD u 0 = y.getD (O.getD u 0).toNat 0
  mem : ∀ v, v < y.length → (G v = g ↔ ∃ u, u < O.length ∧ (O.getD u 0).toNat = v)
theorem GrpOk.put {y : List Int} {G : Nat → Nat} {g : Nat} {O Y : List Int} (h : GrpOk y G g O Y) : putN (outN y G g) O Y O.length = outN y G (g + 1) := by
  refine list_ext_getD (by rw [putN_length, outN_length, outN_length]) fun v hv => ?_
  rw [putN_length, outN_length] at hv
  rw [putN_at (outN y G g) O Y y (fun u hu => by rw [outN_length]; exact h.at' u hu) O.length (Nat.le_refl _) v (by rw [outN_length]; exact hv), outN_at _ _ _ hv, outN_at _ _ _ hv]
  by_cases e : ∃ u, u < O.length ∧ (O.getD u 0).toNat = v
  · rw [if_pos e, if_pos (by rw [(h.mem v hv).2 e]; omega)]
  · rw [if_neg e]
    have h1 : G v ≠ g := fun h2 => e ((h.mem v hv).1 h2)
    by_cases h3 : G v < g
    · rw [if_pos h3, if_pos (by omega)]
    · rw [if_neg h3, if_neg (by omega)]
/-- A place that comes out in a group, and one of a group that comes out. -/
theorem AxSt.gNo_out {l : List Int} {k R L M N : Nat} (h : AxSt l k R L M N) (j : Nat) {a b u : Nat} (ha : a < M) (hb : b < L) (hu : u < R) {v : Nat} (hv : (v : Int) = plc l k j (b + L * (u + R * a))) : gNo l k false R L M v = (j * M + a) * L + b := by
  have hq : b + L * (u + R * a) < N := by have := h.q_out ha hb hu; rw [q_form2] at this; exact this
  unfold gNo
  rw [if_neg (by decide), hv, h.ax.plc_lno h.dim j hq, h.ax.plc_xv h.dim j hq, Int.toNat_natCast, (dig_lo hb).1, (dig_lo hb).2, (dig_lo hu).2]
theorem AxSt.grp_mem {l : List Int} {k R L M N : Nat} (h : AxSt l k R L M N) {j a b v : Nat} (ha : a < M) (hb : b < L) (hj : (j : Int) < prodL l / (N : Int)) (hv : (v : Int) < prodL l) :
    gNo l k false R L M v = (j * M + a) * L + b ↔ ∃ u, u < (grpS l k R L M j a b).2.2.length ∧ ((grpS l k R L M j a b).2.2.getD u 0).toNat = v := by
  have hs := h.st
  have hr := hs.r2; have hl := hs.l1
  rw [(grpS_len l k R L M j a b).2.2]
  constructor
  · intro e
    obtain ⟨h1, h2, h3⟩ := h.ax.plc_of h.dim hv
    generalize hq : (P.xv l k v).toNat = q at *
    have d1 : q % L < L := Nat.mod_lt _ (by omega)
    have d2 : q / L % R < R := Nat.mod_lt _ (by omega)
    have e0 := hs.all
    have d3 : q / L / R < M := by
      rw [Nat.div_lt_iff_lt_mul (by omega), Nat.div_lt_iff_lt_mul (by omega), Nat.mul_comm (M * R) L]; omega
    unfold gNo at e
    rw [if_neg (by decide), hq] at e
    have f1 := dig_last (j := lno l k v * M + q / L / R) d1
    have f2 := dig_last (j := j * M + a) hb
    rw [e] at f1
    have g1 : b = q % L := f2.1.symm.trans f1.1
    have g2 : j * M + a = lno l k v * M + q / L / R := f2.2.symm.trans f1.2
    have f3 := dig_last (j := lno l k v) d3
    have f4 := dig_last (j := j) ha
    rw [g2] at f4
    have g3 : a = q / L / R := f4.1.symm.trans f3.1
    have g4 : j = lno l k v := f4.2.symm.trans f3.2
    refine ⟨q / L % R, d2, ?_⟩
    rw [h.out_at j ha hb d2]
    have g5 : b + L * (q / L % R + R * a) = q := by
      rw [g1, g3, Nat.mod_add_div, Nat.mod_add_div]
    rw [g5, g4, h1, Int.toNat_natCast]
  · rintro ⟨u, hu, e⟩
    rw [h.out_at j ha hb hu] at e
    have hq : b + L * (u + R * a) < N := by have := h.q_out ha hb hu; rw [q_form2] at this; exact this
    have hin := h.ax.plc_in h.dim hj hq
    exact h.gNo_out j ha hb hu (by omega)
end Go.Proofs.YtohcoidbncbijaaDoor.P
/- What a group of a step comes to, plainly: its words are those of the step. Under no condition beside those of each lemma. -/
namespace Go.Proofs.YtohcoidbncbijaaDoor.P
open Go.RowKit
set_option linter.unusedVariables false
/-- A group's words, times the table's factors. -/
def grpV (p : Int) (Y tab F : List Int) : List Int := (List.range F.length).map fun u => mulS p (Y.getD u 0) (tab.getD (F.getD u 0).toNat 0)
theorem grpV_length (p : Int) (Y tab F : List Int) : (grpV p Y tab F).length = F.length := by simp [grpV]
theorem grpV_at (p : Int) (Y tab F : List Int) {u : Nat} (h : u < F.length) (d : Int) : (grpV p Y tab F).getD u d = mulS p (Y.getD u 0) (tab.getD (F.getD u 0).toNat 0) := by
  rw [List.getD_eq_getElem?_getD]; simp [grpV, h]
theorem tabR_at (p W : Int) {r m a u : Nat} (ha : a < m) (hu : u < r) (d : Int) : (tabR p W r m).getD (a * r + u) d = powS p W (a * u) := by
  have h1 : a * r + u < m * r := digit_lt2 ha hu
  rw [List.getD_eq_getElem?_getD]
  simp only [tabR, List.getElem?_map, List.getElem?_range h1, Option.map_some, Option.getD_some]
  rw [(dig_last hu).1, (dig_last hu).2, ← powS_mul]
theorem AxSt.do_zero {l : List Int} {k R L M N : Nat} (h : AxSt l k R L M N) {p : Int} {neg : Bool} (h6 : Chk6 p N neg) (inv : Bool) {w : List Int} (hw : w.length = R) (hi : inS p w = true) : doS p inv w = (doL p (rtS p (R : Int) inv) w, 0) := by
  have hs := h.st
  have h1 := h6.root1
  have e : N = R * (M * L) := by rw [← hs.all, Nat.mul_comm L, Nat.mul_comm M R, Nat.mul_assoc]
  rw [e] at h1
  have g1 := (rootS_part h1).1
  have hr := hs.r2; have hr5 := hs.r5
  have g2 : (ptsS p (w.length : Int) inv).2 = 0 := by
    unfold ptsS
    rw [if_pos h6.known, if_pos (by rw [hw]; omega), if_pos (by rw [hw, g1])]
  unfold doS
  rw [if_pos g2, if_pos hi, hw]
  rfl
theorem AxSt.grp_val {l : List Int} {k R L M N : Nat} (h : AxSt l k R L M N) (p : Int) (inv neg : Bool) (s0 : Int) {x : List Int} (hx : prodL l = x.length) {j a b u : Nat} (ha : a < M) (hb : b < L) (hu : u < R) (hj : (j : Int) < prodL l / (N : Int)) :
    mulS p (doF p (rtS p (R : Int) inv) (gatL x (grpS l k R L M j a b).1) u) (powS p (rtS p ((R : Int) * (M : Int)) inv) (a * u)) =
      (linA p l k (stepM p N neg inv (s0, false, (R : Int), (L : Int), (M : Int))) x).getD (plc l k j (b + L * (u + R * a))).toNat 0 := by
  have hs := h.st
  have hr := hs.r2; have hl := hs.l1; have hm := hs.m1
  have hq : b + L * (u + R * a) < N := by have := h.q_out ha hb hu; rw [q_form2] at this; exact this
  have hin := h.ax.plc_in h.dim hj hq
  have hvl : (plc l k j (b + L * (u + R * a))).toNat < x.length := by omega
  have hlI : (gatL x (grpS l k R L M j a b).1).length = R := by rw [gatL_length, (grpS_len ..).1]
  rw [linA_at p l k _ x hvl, Int.toNat_of_nonneg hin.1, h.ax.plc_xv h.dim j hq, Int.toNat_natCast, h.dim, Int.toNat_natCast]
  have hQ : (b + L * (u + R * a)) / L / R < M := by rw [(dig_lo hb).2, (dig_lo hu).2]; exact ha
  have e1 : S N (fun c => x.getD (sv l k (plc l k j (b + L * (u + R * a))) (c : Int)).toNat 0 * stepM p N neg inv (s0, false, (R : Int), (L : Int), (M : Int)) c (b + L * (u + R * a))) =
      S (L * (M * R)) (fun c => x.getD (plc l k j c).toNat 0 * stM R L M (rtS p (R : Int) inv) (rtS p ((R : Int) * (M : Int)) inv) c (b + L * (u + R * a))) := by
    rw [hs.all]
    refine S_congr fun c hc => ?_
    rw [h.ax.plc_sv h.dim j hq c]
    unfold stepM
    dsimp only
    rw [if_neg (by decide), Int.toNat_natCast, Int.toNat_natCast, Int.toNat_natCast]
  rw [e1, st_sum (fun c => x.getD (plc l k j c).toNat 0) _ _ (by omega) (by omega) hQ, (dig_lo hb).1, (dig_lo hb).2, (dig_lo hu).1, (dig_lo hu).2]
  unfold mulS doF powS
  rw [redS_mul_left, redS_mul_right, hlI, ← S_mulr]
  congr 1
  refine S_congr fun t ht => ?_
  rw [gatL_at _ _ (by rw [(grpS_len ..).1]; exact ht), h.in_at j ha hb ht, Int.mul_assoc]
theorem AxSt.grp_ok {l : List Int} {k R L M N : Nat} (h : AxSt l k R L M N) (p : Int) (inv neg : Bool) (s0 : Int) {x : List Int} (hx : prodL l = x.length) {j a b : Nat} (ha : a < M) (hb : b < L) (hj : (j : Int) < prodL l / (N : Int)) :
    GrpOk (linA p l k (stepM p N neg inv (s0, false, (R : Int), (L : Int), (M : Int))) x) (gNo l k false R L M) ((j * M + a) * L + b) (grpS l k R L M j a b).2.2
      (grpV p (grpY p false R inv (gatL x (grpS l k R L M j a b).1)) (tabR p (rtS p ((R : Int) * (M : Int)) inv) R M) (grpS l k R L M j a b).2.1) := by
  have hlen := grpS_len l k R L M j a b
  refine ⟨?_, ?_⟩
  · intro u hu
    rw [hlen.2.2] at hu
    have hq : b + L * (u + R * a) < N := by have := h.q_out ha hb hu; rw [q_form2] at this; exact this
    have hin := h.ax.plc_in h.dim hj hq
    rw [h.out_at j ha hb hu, linA_length]
    refine ⟨by omega, ?_⟩
    rw [grpV_at _ _ _ _ (by rw [hlen.2.1]; exact hu), fac_at _ _ _ _ _ _ _ _ hu, Int.toNat_natCast, tabR_at _ _ ha hu]
    unfold grpY
    rw [if_neg (by decide), doL_at _ _ _ (by rw [gatL_length, hlen.1]; exact hu)]
    exact h.grp_val p inv neg s0 hx ha hb hu hj
  · intro v hv
    rw [linA_length] at hv
    exact h.grp_mem ha hb hj (by omega)
theorem twist_ok {l : List Int} {k N : Nat} (hA : AxAt l k) (hD : l.getD k 1 = (N : Int)) (p : Int) (inv neg : Bool) (s0 s2 s3 s4 : Int) {x : List Int} (hx : prodL l = x.length) {g : Nat} (hg : g < x.length) :
    GrpOk (linA p l k (stepM p N neg inv (s0, true, s2, s3, s4)) x) (gNo l k true 0 0 0) g (grpT l k g).2.2
      (grpV p (grpY p true 0 inv (gatL x (grpT l k g).1)) ((List.range N).map (twF p N neg inv)) (grpT l k g).2.1) := by
  unfold grpT
  refine ⟨?_, ?_⟩
  · intro u hu
    have hu0 : u = 0 := by simpa using hu
    subst hu0
    have hxv := hA.xv (g : Int)
    refine ⟨by rw [linA_length]; simpa using hg, ?_⟩
    rw [grpV_at _ _ _ _ (by simp)]
    have hD2 : (l.getD k 1).toNat = N := by rw [hD, Int.toNat_natCast]
    have ht : (xv l k (g : Int)).toNat < N := by omega
    simp only [List.getD_cons_zero, Int.toNat_natCast]
    rw [linA_at _ _ _ _ _ hg, hD2, S_one (k := (xv l k (g : Int)).toNat) ht]
    · unfold stepM grpY mulS
      dsimp only
      rw [if_pos rfl, if_pos rfl, if_pos rfl, Int.toNat_of_nonneg hxv.1, hA.sv_xv, Int.toNat_natCast]
      congr 2
      rw [List.getD_eq_getElem?_getD, List.getElem?_map, List.getElem?_range ht]; rfl
    · intro i hi hne
      unfold stepM
      dsimp only
      rw [if_pos rfl, if_neg hne, Int.mul_zero]
  · intro v hv
    unfold gNo
    rw [if_pos rfl]
    constructor
    · intro e; exact ⟨0, by simp, by simp [e]⟩
    · rintro ⟨u, hu, e⟩
      have hu0 : u = 0 := by simpa using hu
      subst hu0
      simpa using e.symm
end Go.Proofs.YtohcoidbncbijaaDoor.P
/- What is kept while something is told, group by group: blocks that the teller may change, and rows that lie elsewhere. Under no condition beside those of each lemma. -/
namespace Go.Proofs.YtohcoidbncbijaaDoor.P
open Go.RowKit
set_option linter.unusedVariables false
/-- What holds after so many groups, and the blocks that may be changed. -/
structure Tells (Inv : Nat → World → Prop) (Mine : World → Nat → Prop) : Prop where
  lt : ∀ g w b, Inv g w → Mine w b → b < w.heap.size
  fresh : ∀ g w w', Inv g w → Below w.heap.size w w' → Inv g w' ∧ ∀ b, Mine w' b → Mine w b
structure Kp (Mine : World → Nat → Prop) (V ws : World) : Prop where
  size : V.heap.size ≤ ws.heap.size
  keep : ∀ b, b < V.heap.size → ¬ Mine V b → ws.heap[b]? = V.heap[b]? ∧ ¬ Mine ws b
theorem Kp.refl (Mine : World → Nat → Prop) (w : World) : Kp Mine w w := ⟨Nat.le_refl _, fun _ _ h => ⟨rfl, h⟩⟩
theorem Kp.trans {Mine : World → Nat → Prop} {a b c : World} (h : Kp Mine a b) (k : Kp Mine b c) : Kp Mine a c :=
  ⟨Nat.le_trans h.size k.size, fun x hx hm => by
    obtain ⟨h1, h2⟩ := h.keep x hx hm
    obtain ⟨k1, k2⟩ := k.keep x (Nat.lt_of_lt_of_le hx h.size) h2
    exact ⟨k1.trans h1, k2⟩⟩
theorem Tells.kp {Inv : Nat → World → Prop} {Mine : World → Nat → Prop} (h : Tells Inv Mine) {g : Nat} {w w' : World} (hi : Inv g w) (hb : Below w.heap.size w w') : Kp Mine w w' :=
  ⟨hb.size, fun b hlt hm => ⟨hb.block b hlt, fun h2 => hm ((h.fresh g w w' hi hb).2 b h2)⟩⟩
/-- A row that lies elsewhere. -/
def RowM (Mine : World → Nat → Prop) (w : World) (A : Option Addr) (cs : List Value) : Prop := cs = [] ∨ ∃ x, A = some x ∧ ¬ Mine w x.block ∧ ∀ i u, cs[i]? = some u → w.cell? (x.add i) = some u
theorem RowM.row {Mine : World → Nat → Prop} {w : World} {A : Option Addr} {cs : List Value} (h : RowM Mine w A cs) : Row w A cs := by
  rcases h with h1 | ⟨x, hx, _, hc⟩
  · exact .inl h1
  · exact .inr ⟨x, hx, hc⟩
theorem add_block (x : Addr) (i : Nat) : (x.add i).block = x.block := by unfold Addr.add; split <;> rfl
theorem RowM.kp {Mine : World → Nat → Prop} {V ws : World} {A : Option Addr} {cs : List Value} (h : RowM Mine V A cs) (hk : Kp Mine V ws) : RowM Mine ws A cs := by
  rcases h with h1 | ⟨x, hx, hm, hc⟩
  · exact .inl h1
  · rcases cs with _ | ⟨u0, cs⟩
    · exact .inl rfl
    · have h0 := World.block_lt_of_cell? V _ (hc 0 u0 rfl)
      rw [add_block] at h0
      obtain ⟨k1, k2⟩ := hk.keep x.block h0 hm
      refine .inr ⟨x, hx, k2, fun i u hi => ?_⟩
      exact (World.cell?_of_block (w := V) (by rw [add_block]; exact k1)).trans (hc i u hi)
theorem Tells.own {Inv : Nat → World → Prop} {Mine : World → Nat → Prop} (h : Tells Inv Mine) {g : Nat} {w w' : World} (hi : Inv g w) (hb : Below w.heap.size w w') {E : TypeId} {s : Nat} {A : Option Addr} {n c : Nat} {cs : List Value}
    (ho : Own w' w.heap.size E s A n c cs) : RowM Mine w' A cs := by
  have h1 := ho.from'
  rcases ho.row with h0 | ⟨x, hx, hc⟩
  · exact .inl h0
  · refine .inr ⟨x, hx, fun h2 => ?_, hc⟩
    have h3 := h.lt g w _ hi ((h.fresh g w w' hi hb).2 _ h2)
    have h4 := h1 x hx
    omega
/-- A row that is there from the start, and lies elsewhere. -/
theorem RowM.of {Mine : World → Nat → Prop} {w : World} {A : Option Addr} {cs : List Value} (h : Row w A cs) (hm : ∀ x, A = some x → ¬ Mine w x.block) : RowM Mine w A cs := by
  rcases h with h0 | ⟨x, hx, hc⟩
  · exact .inl h0
  · exact .inr ⟨x, hx, hm x hx, hc⟩
/-- What a function is that groups are told to. -/
def ToldG (P : Program) (fk : Nat) (cap : Array Value) (Inv : Nat → World → Prop) (Mine : World → Nat → Prop) (G : Nat → Grp) (r cnt : Nat) : Prop :=
  ∀ g, g < cnt → ∀ (w : World) (A B C : Option Addr) (ca cb cc : Nat), Inv g w → RowM Mine w A (nums .i64 (G g).1) → RowM Mine w B (nums .i64 (G g).2.1) → RowM Mine w C (nums .i64 (G g).2.2) →
    Calls P fk (#[.agg #[.slice A r ca, .slice B r cb, .slice C r cc]] ++ cap) w fun e w' => e = .returned (.tuple #[]) ∧ Inv (g + 1) w' ∧ Kp Mine w w'
end Go.Proofs.YtohcoidbncbijaaDoor.P
/- The contract of step.each, of a twist: all places are told, one by one. Conditions: the step may be; the slice of axes reads as a list; what is told to keeps the rows. -/
namespace Go.Proofs.YtohcoidbncbijaaDoor.P
open Go.RowKit
set_option linter.unusedVariables false
set_option linter.unusedSimpArgs false
theorem coord_m (A : Option Addr) (c n : Nat) (l : List Int) (i : Int) (w : World) (hn : l.length = n) (hr : Row w A (nums .i64 l)) (hl : n ≤ 9223372036854775807) (hw : ∀ d ∈ l, i64 d) (hi : i64 i) (hD : Dims l) (h0 : 0 ≤ i) (h1 : i < prodL l) :
    Calls Tryd.prog 112 #[.slice A n c, .int .i64 i] w fun e w' => ∃ B b,
      e = .returned (.tuple #[.slice B n b, .int .i64 0]) ∧ Own w' w.heap.size 3 1 B n b (nums .i64 (coordL l i)) ∧ Below w.heap.size w w' := by
  subst hn
  have e : coordS l i = (coordL l i, 0) := by rw [coordS, if_pos hD, if_pos ⟨h0, h1⟩]
  have e2 : ((coordL l i, (0 : Int)).1).length = l.length := by simp [coordL]
  have h := coord_calls A c l i w hr hl hw hi
  rw [e, e2] at h
  exact h
theorem size_alloc (w : World) (o : Obj) : (w.alloc o).heap.size = w.heap.size + 1 := by simp
/-- The box of a step. -/
abbrev boxS (k : Nat) (t : Bool) (R L M : Int) : List Value := [.int .i64 (k : Int), .bool t, .int .i64 R, .int .i64 L, .int .i64 M]
theorem box_cells {Mine : World → Nat → Prop} {w : World} {b k : Nat} {t : Bool} {R L M : Int} (h : RowM Mine w (some ⟨b, 0, none⟩) (boxS k t R L M)) :
    w.cell? ⟨b, 0, none⟩ = some (.int .i64 (k : Int)) ∧ w.cell? ⟨b, 1, none⟩ = some (.bool t) ∧ w.cell? ⟨b, 2, none⟩ = some (.int .i64 R) ∧ w.cell? ⟨b, 3, none⟩ = some (.int .i64 L) ∧ w.cell? ⟨b, 4, none⟩ = some (.int .i64 M) :=
  ⟨h.row.cell (i := 0) rfl, h.row.cell (i := 1) rfl, h.row.cell (i := 2) rfl, h.row.cell (i := 3) rfl, h.row.cell (i := 4) rfl⟩
theorem Tells.new {Inv : Nat → World → Prop} {Mine : World → Nat → Prop} (h : Tells Inv Mine) {g : Nat} {w : World} (hi : Inv g w) (E : TypeId) (vs : List Value) (n : Nat) (hn : vs.length = n) (h9 : n ≤ 9223372036854775807) :
    Inv g (w.alloc (.cells vs.toArray E)) ∧ Kp Mine w (w.alloc (.cells vs.toArray E)) ∧ RowM Mine (w.alloc (.cells vs.toArray E)) (some ⟨w.heap.size, 0, none⟩) vs := by
  have hb : Below w.heap.size w (w.alloc (.cells vs.toArray E)) := (Below.refl _ _).alloc (Nat.le_refl _) _
  exact ⟨(h.fresh g w _ hi hb).1, h.kp hi hb, h.own hi hb (own_one w w.heap.size E vs n (Nat.le_refl _) hn h9)⟩
set_option maxRecDepth 100000 in
set_option maxHeartbeats 4000000 in
theorem seach_twist (fk : Nat) (cap : Array Value) (p : Int) (A : Option Addr) (c n : Nat) (ax : List (Int × Bool)) (k N : Nat) (neg : Bool) (cnt : Nat) (Inv : Nat → World → Prop) (Mine : World → Nat → Prop) (w : World)
    (hcf : ∀ (args : Array Value) (w : World), (callFunc fk args).run Tryd.prog w = .ok (.enter fk args) w)
    (hn : ax.length = n) (hr : RowM Mine w A (axR ax)) (hl : n ≤ 8796093022208) (hw : ∀ a ∈ ax, i64 a.1) (hK : StepK p ax ((k : Int), true, 0, 0, 0) k N neg) (hT : Tells Inv Mine)
    (hcnt : prodL (dimsA ax) = (cnt : Int)) (htold : ToldG Tryd.prog fk cap Inv Mine (grpT (dimsA ax) k) 1 cnt) (hi : Inv 0 w) :
    Calls Tryd.prog 76 #[.slice A n c, .agg #[.int .i64 (k : Int), .bool true, .int .i64 0, .int .i64 0, .int .i64 0], .func (.func fk) #[] cap] w fun e w' => e = .returned (.int .i64 0) ∧ Inv cnt w' ∧ Kp Mine w w' := by
  have HT := Lib.hid hT
  have HTO := Lib.hid htold
  have HN := Lib.hid hn
  have HW := Lib.hid hw
  have hb0 : Below w.heap.size w (w.alloc (.cells #[.int .i64 (k : Int), .bool true, .int .i64 0, .int .i64 0, .int .i64 0] 39)) := (Below.refl _ _).alloc (Nat.le_refl _) _
  obtain ⟨hi0, hk0, hx0⟩ := hT.new hi 39 (boxS k true 0 0 0) 5 rfl (by decide)
  have hx0' : RowM Mine (w.alloc (.cells #[.int .i64 (k : Int), .bool true, .int .i64 0, .int .i64 0, .int .i64 0] 39)) (some ⟨w.heap.size, 0, none⟩) (boxS k true 0 0 0) := hx0
  have hi0' : Inv 0 (w.alloc (.cells #[.int .i64 (k : Int), .bool true, .int .i64 0, .int .i64 0, .int .i64 0] 39)) := hi0
  have hk0' : Kp Mine w (w.alloc (.cells #[.int .i64 (k : Int), .bool true, .int .i64 0, .int .i64 0, .int .i64 0] 39)) := hk0
  have HI0 := Lib.hid hi0'
  have HK0 := Lib.hid hk0'
  have HX0 := Lib.hid hx0'
  have HR0 := Lib.hid (hr.kp hk0')
  have HD7 := Lib.hid hK.chk.dims
  have HDL : Hid ((dimsA ax).length = n) := Lib.hid (by rw [dimsA_length]; exact hn)
  have HDI : Hid (∀ d ∈ dimsA ax, i64 d) := Lib.hid (dimsA_i64 hw)
  have HAL : Hid (allS (dimsA ax) = ((cnt : Int), 0)) := Lib.hid (by rw [allS_yes hK.chk.dims, hcnt])
  have hc4 : cnt ≤ 4096 := by have := hK.chk.dims.all; omega
  have HCN : Hid (prodL (dimsA ax) = (cnt : Int)) := Lib.hid hcnt
  have hkn : k < n := by have := hK.lt; omega
  have HCX : Hid (∀ i : Int, (coordL (dimsA ax) i).length = n ∧ (coordL (dimsA ax) i)[k]? = some (xv (dimsA ax) k i)) := Lib.hid fun i => by
    have h1 : (dimsA ax).length = n := by rw [dimsA_length]; exact hn
    have h2 : k < (dimsA ax).length := by rw [h1]; exact hkn
    refine ⟨by simp [coordL, h1], ?_⟩
    simp only [coordL, List.getElem?_map, List.getElem?_range h2, Option.map_some]
    rfl
  clear hT htold hn hw hb0 hi0 hk0 hx0 hi0' hk0' hx0' hr hK hcnt hi
  go_enter Tryd.func76, Tryd.ntmps76
  go_wp2_with fail
  generalize (w.alloc (.cells #[.int .i64 (k : Int), .bool true, .int .i64 0, .int .i64 0, .int .i64 0] 39)) = V0 at *
  refine (dims7_calls A c n ax V0 HN.out HR0.out.row hl).mono ?_
  rintro e w1 ⟨D, rfl, ho, hb⟩
  have HI1 := Lib.hid (HT.out.fresh _ _ _ HI0.out hb).1
  have HK1 := Lib.hid (HK0.out.trans (HT.out.kp HI0.out hb))
  have HX1 := Lib.hid (HX0.out.kp (HT.out.kp HI0.out hb))
  have HD1 := Lib.hid (HT.out.own HI0.out hb ho)
  clear ho hb
  go_wp2_with fail
  refine (all_n D n n (dimsA ax) w1 HDL.out HD1.out.row (by omega) HDI.out).mono ?_
  rw [HAL.out]
  rintro e w2 ⟨rfl, rfl⟩
  obtain ⟨b0, b1, b2, b3, b4⟩ := box_cells HX1.out
  go_wp2
  go_loopw [31] (fun q wr => ∃ i : Nat, i ≤ cnt ∧ q = .int .i64 i ∧ Hid (Inv i wr) ∧ Hid (Kp Mine w2 wr)) (fun q _ => cnt - (intOf q).toNat)
  case atStart => exact ⟨0, Nat.zero_le _, rfl, HI1, Lib.hid (Kp.refl _ _)⟩
  case round =>
    obtain ⟨i, hi, rfl, HI2, HK2⟩ := hrel
    by_cases hlt : i < cnt
    · have HX2 := Lib.hid (HX1.out.kp HK2.out)
      have HD2 := Lib.hid (HD1.out.kp HK2.out)
      go_wp2_with fail
      refine (coord_m D n n (dimsA ax) (i : Int) wr HDL.out HD2.out.row (by omega) HDI.out ⟨by omega, by omega⟩ HD7.out (by omega) (by rw [HCN.out]; omega)).mono ?_
      rintro e w3 ⟨C, cc, rfl, ho, hb⟩
      have HI3 := Lib.hid (HT.out.fresh _ _ _ HI2.out hb).1
      have HK3 := Lib.hid (HK2.out.trans (HT.out.kp HI2.out hb))
      have HX3 := Lib.hid (HX2.out.kp (HT.out.kp HI2.out hb))
      have HC3 := Lib.hid (HT.out.own HI2.out hb ho)
      clear ho hb
      obtain ⟨hcl, hck⟩ := HCX.out (i : Int)
      obtain ⟨ca, rfl⟩ := HC3.out.row.some_of (by intro h0; have h1 := nums_length .i64 (coordL (dimsA ax) i); rw [h0, hcl] at h1; simp at h1; omega)
      have hkl : k < (coordL (dimsA ax) i).length := by rw [hcl]; exact hkn
      have hcv : (coordL (dimsA ax) i)[k] = xv (dimsA ax) k i := by rw [List.getElem?_eq_getElem hkl] at hck; exact Option.some.inj hck
      obtain ⟨i4, k4, x4⟩ := HT.out.new HI3.out 3 [.int .i64 (i : Int)] 1 rfl (by decide)
      have c4 := (HC3.out.kp k4).row.num hkl
      have d4 := (box_cells (HX3.out.kp k4)).1
      rw [hcv] at c4
      obtain ⟨i5, k5, x5⟩ := HT.out.new i4 3 [.int .i64 (xv (dimsA ax) k i)] 1 rfl (by decide)
      obtain ⟨i6, k6, x6⟩ := HT.out.new i5 3 [.int .i64 (i : Int)] 1 rfl (by decide)
      have HI6 := Lib.hid i6
      have HK6 := Lib.hid (HK3.out.trans (k4.trans (k5.trans k6)))
      have x4b := (x4.kp k5).kp k6
      have x5b := x5.kp k6
      simp only [size_alloc] at x5b x6
      have HXA : Hid (RowM Mine (((w3.alloc (.cells [Value.int .i64 (i : Int)].toArray 3)).alloc (.cells [Value.int .i64 (xv (dimsA ax) k i)].toArray 3)).alloc (.cells [Value.int .i64 (i : Int)].toArray 3)) (some ⟨w3.heap.size, 0, none⟩) (nums .i64 (grpT (dimsA ax) k i).1)) := Lib.hid x4b
      have HXB : Hid (RowM Mine (((w3.alloc (.cells [Value.int .i64 (i : Int)].toArray 3)).alloc (.cells [Value.int .i64 (xv (dimsA ax) k i)].toArray 3)).alloc (.cells [Value.int .i64 (i : Int)].toArray 3)) (some ⟨w3.heap.size + 1, 0, none⟩) (nums .i64 (grpT (dimsA ax) k i).2.1)) := Lib.hid x5b
      have HXC : Hid (RowM Mine (((w3.alloc (.cells [Value.int .i64 (i : Int)].toArray 3)).alloc (.cells [Value.int .i64 (xv (dimsA ax) k i)].toArray 3)).alloc (.cells [Value.int .i64 (i : Int)].toArray 3)) (some ⟨w3.heap.size + 1 + 1, 0, none⟩) (nums .i64 (grpT (dimsA ax) k i).2.2)) := Lib.hid x6
      clear i4 k4 x4 i5 k5 x5 i6 k6 x6 x4b x5b hcl hck hkl hcv b0 b1 b2 b3 b4
      generalize xv (dimsA ax) k i = xi at *
      go_wp2_with fail
      refine (HTO.out i hlt _ _ _ _ 1 1 1 HI6.out HXA.out HXB.out HXC.out).mono ?_
      rintro e w7 ⟨rfl, hi7, hk7⟩
      have HI7 := Lib.hid hi7
      have HK7 := Lib.hid (HK6.out.trans hk7)
      clear hi7 hk7
      go_wp2
      go_roundw
      case rel => exact ⟨i + 1, by omega, by go_num, HI7, HK7⟩
      case measure => simp [intOf]; omega
    · have hie : i = cnt := by omega
      subst hie
      go_wp2
      go_ret
      exact ⟨rfl, HI2.out, HK1.out.trans HK2.out⟩
end Go.Proofs.YtohcoidbncbijaaDoor.P
/- The contract of the closure of step.Do. Conditions: slices read as lists; the places lie in the words, the factors in the table. -/
namespace Go.Proofs.YtohcoidbncbijaaDoor.P
open Go.RowKit
set_option linter.unusedVariables false
set_option linter.unusedSimpArgs false
theorem RowX.cellB {gs : Nat} {w : World} {b i : Nat} {cs : List Value} {v : Value} (h : RowX gs w (some ⟨b, 0, none⟩) cs) (hi : cs[i]? = some v) : w.cell? ⟨b, i, none⟩ = some v := by
  have h1 := h.1.cell hi
  have e : (Addr.add ⟨b, 0, none⟩ i : Addr) = ⟨b, i, none⟩ := by unfold Addr.add; simp; omega
  rw [e] at h1
  exact h1
theorem grpV_u64 (p : Int) (Y tab F : List Int) : ∀ d ∈ grpV p Y tab F, U64 d := by
  intro d hd
  simp only [grpV, List.mem_map] at hd
  obtain ⟨u, _, rfl⟩ := hd
  exact u64_mulS _ _ _
set_option maxRecDepth 100000 in
set_option maxHeartbeats 4000000 in
theorem sdo1_twist (p : Int) (inv : Bool) (bxs : List Value) (A B C : Option Addr) (ca cb cc r : Nat) (I F O : List Int) (X : Option Addr) (cx m : Nat) (x : List Int) (T : Option Addr) (tl tc : Nat) (tab : List Int) (og bx bs bp bi bb bt bo : Nat) (o : List Int) (w : World)
    (hI : I.length = r) (hF : F.length = r) (hO : O.length = r) (hr4 : r ≤ 4096) (hm : x.length = m) (hm4 : m ≤ 4096) (hiI : ∀ v ∈ I, 0 ≤ v ∧ v < m) (hiO : ∀ v ∈ O, 0 ≤ v ∧ v < m) (htl : tab.length = tl) (htl4 : tl ≤ 4096) (hiF : ∀ v ∈ F, 0 ≤ v ∧ v < tl)
    (hux : ∀ d ∈ x, U64 d) (hut : ∀ d ∈ tab, U64 d) (ho : o.length = m) (hp : U64 p) (hrA : RowX og w A (nums .i64 I)) (hrB : RowX og w B (nums .i64 F)) (hrC : RowX og w C (nums .i64 O)) (hrX : RowX og w X (nums .u64 x)) (hrT : RowX og w T (nums .u64 tab))
    (hbx : RowX og w (some ⟨bx, 0, none⟩) [.slice X m cx]) (hbs : RowX og w (some ⟨bs, 0, none⟩) bxs) (hbs1 : bxs[1]? = some (.bool true)) (hbp : RowX og w (some ⟨bp, 0, none⟩) [.int .u64 p]) (hbi : RowX og w (some ⟨bi, 0, none⟩) [.bool inv])
    (hbt : RowX og w (some ⟨bt, 0, none⟩) [.slice T tl tc]) (hbo : RowX og w (some ⟨bo, 0, none⟩) [.slice (some ⟨og, 0, none⟩) m m]) (hown : Own w og 22 1 (some ⟨og, 0, none⟩) m m (nums .u64 o)) :
    Calls Tryd.prog 77 #[.agg #[.slice A r ca, .slice B r cb, .slice C r cc], .pointer (some ⟨bx, 0, none⟩), .pointer (some ⟨bs, 0, none⟩), .pointer (some ⟨bp, 0, none⟩), .pointer (some ⟨bi, 0, none⟩), .pointer (some ⟨bb, 0, none⟩), .pointer (some ⟨bt, 0, none⟩), .pointer (some ⟨bo, 0, none⟩)] w fun e w' =>
      e = .returned (.tuple #[]) ∧ Own w' og 22 1 (some ⟨og, 0, none⟩) m m (nums .u64 (putN o O (grpV p (gatL x I) tab F) r)) ∧ Grown og w w' := by
  have HI := Lib.hid hI
  have HF := Lib.hid hF
  have HO := Lib.hid hO
  have HM := Lib.hid hm
  have HIN := Lib.hid hiI
  have HIO := Lib.hid hiO
  have HIF := Lib.hid hiF
  have HTL := Lib.hid htl
  have HUX := Lib.hid hux
  have HUT := Lib.hid hut
  have HOL := Lib.hid ho
  have HP := Lib.hid hp
  have HGS : Hid (og < w.heap.size) := Lib.hid (Own.base hown).2
  have HALL : Hid (gatN x I r = gatL x I) := Lib.hid (by rw [← hI]; exact gatN_all x I)
  have hmk := make_u64 r (by omega)
  have hmx : Tryd.prog.follows .mixedOrders = true := by kernel_rfl
  have HMX := Lib.hid hmx
  have hbel0 : Below w.heap.size w (w.alloc (.cells #[.slice A r ca, .slice B r cb, .slice C r cc] 72)) := (Below.refl _ _).alloc (Nat.le_refl _) _
  have HBG : Hid (RowX og (w.alloc (.cells #[.slice A r ca, .slice B r cb, .slice C r cc] 72)) (some ⟨w.heap.size, 0, none⟩) [.slice A r ca, .slice B r cb, .slice C r cc]) :=
    Lib.hid (Own.rowX (own_one w w.heap.size 72 [.slice A r ca, .slice B r cb, .slice C r cc] 3 (Nat.le_refl _) rfl (by decide)) HGS.out)
  have HG0 : Hid (Grown og w (w.alloc (.cells #[.slice A r ca, .slice B r cb, .slice C r cc] 72))) := Lib.hid ((Grown.refl og w).below hbel0)
  have HRA := Lib.hid (hrA.below hbel0)
  have HRB := Lib.hid (hrB.below hbel0)
  have HRC := Lib.hid (hrC.below hbel0)
  have HRX := Lib.hid (hrX.below hbel0)
  have HRT := Lib.hid (hrT.below hbel0)
  have HBX := Lib.hid (hbx.below hbel0)
  have HBS := Lib.hid (hbs.below hbel0)
  have HBP := Lib.hid (hbp.below hbel0)
  have HBI := Lib.hid (hbi.below hbel0)
  have HBT := Lib.hid (hbt.below hbel0)
  have HBO := Lib.hid (hbo.below hbel0)
  have HS1 := Lib.hid hbs1
  have HOW := Lib.hid (Own.grown hown hbel0)
  have hg0 := RowX.cellB HBG.out (i := 0) rfl
  clear hI hF hO hm hiI hiO hiF htl hux hut ho hp hrA hrB hrC hrX hrT hbx hbs hbs1 hbp hbi hbt hbo hown hbel0 hmx
  go_enter Tryd.func77, Tryd.ntmps77
  have hg1 : (w.alloc (.cells #[.slice A r ca, .slice B r cb, .slice C r cc] 72)).cell? ⟨w.heap.size, 0, none⟩ = some (.slice A r ca) := hg0
  generalize hV : (w.alloc (.cells #[.slice A r ca, .slice B r cb, .slice C r cc] 72)) = V at *
  have HGB : Hid (og < V.heap.size) := Lib.hid (by have h1 := HGS.out; rw [← hV]; simp; omega)
  have hbel1 : Below V.heap.size V (V.alloc (.cells (madeCells #[.int .u64 0] r) 22)) := (Below.refl _ _).alloc (Nat.le_refl _) _
  have hg2 := RowX.cellB (HBG.out.below hbel1) (i := 0) rfl
  clear HGS hg0
  go_wp2_with (rw [hV])
  have hown := own_made V V.heap.size 22 (.int .u64 0) r (Nat.le_refl _) (by omega)
  rw [nums_replicate, ← HI.out, ← gatN_start x I, HI.out] at hown
  clear hV hmk hg1 hg2
  generalize (V.alloc (.cells (madeCells #[.int .u64 0] r) 22)) = W at *
  have HWO := Lib.hid hown
  have HWB := Lib.hid hbel1
  clear hown hbel1
  generalize hrs : V.heap.size = rs at *
  have HRS := Lib.hid hrs
  generalize w.heap.size = gb at *
  clear hrs
  go_loopw [23] (fun q wr => ∃ t : Nat, t ≤ r ∧ q = .int .i64 t ∧ Hid (Own wr rs 22 1 (some ⟨rs, 0, none⟩) r r (nums .u64 (gatN x I t))) ∧ Hid (Below rs V wr)) (fun q _ => r - (intOf q).toNat)
  case atStart => exact ⟨0, Nat.zero_le _, rfl, HWO, HWB⟩
  case round =>
    obtain ⟨t, ht, rfl, HO2, HB2⟩ := hrel
    have HB3 : Hid (Below V.heap.size V wr) := Lib.hid (by rw [HRS.out]; exact HB2.out)
    by_cases hlt : t < r
    · have hkl : t < I.length := by have := HI.out; omega
      obtain ⟨v0, v1⟩ := HIN.out _ (List.getElem_mem hkl)
      obtain ⟨ia, rfl⟩ := HRA.out.1.some_of (by intro h0; have h1 := nums_length .i64 I; rw [h0] at h1; simp at h1; omega)
      have hc0 := (HRA.out.below HB3.out).1.num hkl
      have HST := Lib.hid (gatN_set x hkl)
      generalize I[t] = v at *
      obtain ⟨v, rfl⟩ := Int.eq_ofNat_of_zero_le v0
      have hvx : v < x.length := by have := HM.out; omega
      obtain ⟨xa, rfl⟩ := HRX.out.1.some_of (by intro h0; have h1 := nums_length .u64 x; rw [h0] at h1; simp at h1; omega)
      have hc1 := (HRX.out.below HB3.out).1.num hvx
      have hc2 := RowX.cellB (HBX.out.below HB3.out) (i := 0) rfl
      rw [Int.toNat_natCast, getD_of hvx] at HST
      generalize x[v] = u at *
      have hf : wr.frozen? ⟨rs, t, none⟩ = false := HO2.out.frozenAt t
      have hco := HO2.out.cellAt t hlt
      rw [nums_get .u64 _ t (by rw [gatN_length]; exact hkl)] at hco
      generalize (gatN x I t)[t]'(by rw [gatN_length]; exact hkl) = old at *
      have HS : Hid (Own (wr.setCell ⟨rs, t, none⟩ (.int .u64 u)) rs 22 1 (some ⟨rs, 0, none⟩) r r (nums .u64 (gatN x I (t + 1)))) := Lib.hid (by
        have h1 := HO2.out.stored t (.int .u64 u)
        rw [nums_set, HST.out] at h1
        exact h1)
      have HSB := Lib.hid (Below.setCell (p := ⟨rs, t, none⟩) HB2.out (Nat.le_refl _) (.int .u64 u))
      go_wp2
      go_roundw
      case rel => exact ⟨t + 1, by omega, by go_num, HS, HSB⟩
      case measure => simp [intOf]; omega
    · have hke : t = r := by omega
      have HRL : Hid (Row wr (some ⟨rs, 0, none⟩) (nums .u64 (gatL x I))) := Lib.hid (by have h1 := HO2.out.row; rw [hke, HALL.out] at h1; exact h1)
      have HGW : Hid (og < wr.heap.size) := Lib.hid (Nat.lt_of_lt_of_le HGB.out (by rw [← HRS.out]; exact HB3.out.size))
      have HRLX : Hid (RowX og wr (some ⟨rs, 0, none⟩) (nums .u64 (gatL x I))) := Lib.hid ⟨HRL.out, fun y hy => by cases hy; have h1 := HGB.out; have h2 := HRS.out; dsimp only; omega⟩
      have hs1 := RowX.cellB (HBS.out.below HB3.out) HS1.out
      have HG4 := Lib.hid ((HG0.out).below HB3.out)
      have HRB4 := Lib.hid (HRB.out.below HB3.out)
      have HRC4 := Lib.hid (HRC.out.below HB3.out)
      have HRT4 := Lib.hid (HRT.out.below HB3.out)
      have HBG4 := Lib.hid (HBG.out.below HB3.out)
      have HBP4 := Lib.hid (HBP.out.below HB3.out)
      have HBI4 := Lib.hid (HBI.out.below HB3.out)
      have HBT4 := Lib.hid (HBT.out.below HB3.out)
      have HBO4 := Lib.hid (HBO.out.below HB3.out)
      have HOW4 := Lib.hid (HOW.out.grown HB3.out)
      have hg4 := RowX.cellB HBG4.out (i := 2) rfl
      clear hke HO2 HB2 HB3 HRA HRB HRC HRX HRT HBX HBS HBG HBP HBI HBT HBO HOW HG0
      go_wp2
      have hwq : ∃ wq, wq = wr := ⟨_, rfl⟩
      obtain ⟨wq, hwq⟩ := hwq
      rw [← hwq]
      rw [← hwq] at HRLX HG4 HRB4 HRC4 HRT4 HBG4 HBP4 HBT4 HBO4 HOW4
      clear hwq hg4 hs1
      have HZ5 := HRLX
      have HYU2 : Hid (∀ d ∈ gatL x I, U64 d) := Lib.hid (gatL_u64 HUX.out)
      have HG5 := HG4
      have HRB5 := HRB4
      have HRC5 := HRC4
      have HRT5 := HRT4
      have HBG5 := HBG4
      have HBP5 := HBP4
      have HBT5 := HBT4
      have HBO5 := HBO4
      have HOW5 := HOW4
      go_loopw [53] (fun q ws => ∃ u : Nat, u ≤ r ∧ q = .int .i64 u ∧ Hid (Own ws og 22 1 (some ⟨og, 0, none⟩) m m (nums .u64 (putN o O (grpV p (gatL x I) tab F) u))) ∧ Hid (Grown og wq ws)) (fun q _ => r - (intOf q).toNat)
      case atStart => exact ⟨0, Nat.zero_le _, rfl, HOW5, Lib.hid (Grown.refl _ _)⟩
      case round =>
        obtain ⟨u, hu, rfl, HO6, HG6⟩ := hrel
        by_cases hlu : u < r
        · have hul : u < O.length := by have := HO.out; omega
          have huf : u < F.length := by have := HF.out; omega
          have huy : u < (gatL x I).length := by rw [gatL_length, HI.out]; exact hlu
          obtain ⟨v0, v1⟩ := HIO.out _ (List.getElem_mem hul)
          obtain ⟨f0, f1⟩ := HIF.out _ (List.getElem_mem huf)
          obtain ⟨oa, rfl⟩ := HRC5.out.1.some_of (by intro h0; have h1 := nums_length .i64 O; rw [h0] at h1; simp at h1; omega)
          obtain ⟨fa, rfl⟩ := HRB5.out.1.some_of (by intro h0; have h1 := nums_length .i64 F; rw [h0] at h1; simp at h1; omega)
          have hcz := RowX.cellB (HZ5.out.grown HG6.out) (nums_get .u64 _ u huy)
          have hc0 := (HRC5.out.grown HG6.out).1.num hul
          have hc1 := (HRB5.out.grown HG6.out).1.num huf
          have hc3 := RowX.cellB (HBO5.out.grown HG6.out) (i := 0) rfl
          have hc4 := RowX.cellB (HBP5.out.grown HG6.out) (i := 0) rfl
          have hc5 := RowX.cellB (HBT5.out.grown HG6.out) (i := 0) rfl
          have hc6 := RowX.cellB (HBG5.out.grown HG6.out) (i := 1) rfl
          have HUV : Hid (U64 ((gatL x I)[u])) := Lib.hid (HYU2.out _ (List.getElem_mem huy))
          have HST : Hid (putN o O (grpV p (gatL x I) tab F) (u + 1) = (putN o O (grpV p (gatL x I) tab F) u).set O[u].toNat (mulS p ((gatL x I)[u]) (tab.getD (F[u]).toNat 0))) := Lib.hid (by
            rw [putN, getD_of hul, grpV_at p (gatL x I) tab F huf, getD_of huy, getD_of huf])
          generalize O[u] = v at *
          generalize F[u] = f at *
          generalize (gatL x I)[u] = y at *
          obtain ⟨v, rfl⟩ := Int.eq_ofNat_of_zero_le v0
          obtain ⟨f, rfl⟩ := Int.eq_ofNat_of_zero_le f0
          have hft : f < tab.length := by have := HTL.out; omega
          obtain ⟨ta, rfl⟩ := HRT5.out.1.some_of (by intro h0; have h1 := nums_length .u64 tab; rw [h0] at h1; simp at h1; omega)
          have hc7 := (HRT5.out.grown HG6.out).1.num hft
          have HUT1 : Hid (U64 tab[f]) := Lib.hid (HUT.out _ (List.getElem_mem hft))
          rw [Int.toNat_natCast, Int.toNat_natCast, getD_of hft] at HST
          generalize tab[f] = tv at *
          have hvm : v < m := by omega
          have hftl : f < tl := by omega
          have hf : wr.frozen? ⟨og, v, none⟩ = false := HO6.out.frozenAt v
          have hco := HO6.out.cellAt v hvm
          rw [nums_get .u64 _ v (by rw [putN_length, HOL.out]; exact hvm)] at hco
          generalize (putN o O (grpV p (gatL x I) tab F) u)[v]'(by rw [putN_length, HOL.out]; exact hvm) = old at *
          have HSO : Hid (∀ q, Own ((wr.drewN q).setCell ⟨og, v, none⟩ (.int .u64 (mulS p y tv))) og 22 1 (some ⟨og, 0, none⟩) m m (nums .u64 (putN o O (grpV p (gatL x I) tab F) (u + 1)))) := Lib.hid fun q => by
            have h1 := (HO6.out.drewN q).stored v (.int .u64 (mulS p y tv))
            rw [nums_set, ← HST.out] at h1
            exact h1
          have HSG : Hid (∀ q, Grown og wq ((wr.drewN q).setCell ⟨og, v, none⟩ (.int .u64 (mulS p y tv)))) := Lib.hid fun q => (HG6.out.drewN q).setCell v _
          clear HST hul huf huy v0 v1 f0 f1
          go_wp2
          refine region_marks2 (k := 18) (S := (fun w' => w'.cell? ⟨bo, 0, none⟩ = some (.slice (some ⟨og, 0, none⟩) m m) ∧ w'.cell? ⟨bp, 0, none⟩ = some (.int .u64 p) ∧ w'.cell? ⟨rs, u, none⟩ = some (.int .u64 y) ∧ w'.cell? ⟨bt, 0, none⟩ = some (.slice (some ta) tl tc) ∧ w'.cell? ⟨gb, 1, none⟩ = some (.slice (some fa) r cb) ∧ w'.cell? (fa.add u) = some (.int .i64 (f : Int)) ∧ w'.cell? (ta.add f) = some (.int .u64 tv))) (T := fun i => decide (i < 17)) HMX.out rfl ⟨hc3, hc4, hcz, hc5, hc6, hc1, hc7⟩ (fun hS => ?_)
          refine wpAnyT_take3 (i := 0) (v := ?_) rfl (by kernel_rfl) (by kernel_rfl) (by kernel_rfl) (by kernel_rfl) (by kernel_rfl) (fun _ _ _ h => h) hS (Or.inl ⟨by rfl, ?_⟩) ?_
          rotate_left
          · (intro w' hSw; (try dsimp only at hSw); go_simp; (try with_reducible rfl))
          (try simp only [Act.put, List.setIfInBounds_toArray, List.set_cons_zero, List.set_cons_succ])
          refine wpAnyT_take3 (i := 1) (v := ?_) rfl (by kernel_rfl) (by kernel_rfl) (by kernel_rfl) (by kernel_rfl) (by kernel_rfl) (fun _ _ _ h => h) hS (Or.inl ⟨by rfl, ?_⟩) ?_
          rotate_left
          · (intro w' hSw; (try dsimp only at hSw); go_simp; (try with_reducible rfl))
          (try simp only [Act.put, List.setIfInBounds_toArray, List.set_cons_zero, List.set_cons_succ])
          refine wpAnyT_take3 (i := 2) (v := ?_) rfl (by kernel_rfl) (by kernel_rfl) (by kernel_rfl) (by kernel_rfl) (by kernel_rfl) (fun _ _ _ h => h) hS (Or.inl ⟨by rfl, ?_⟩) ?_
          rotate_left
          · (intro w' hSw; (try dsimp only at hSw); go_simp; (try with_reducible rfl))
          (try simp only [Act.put, List.setIfInBounds_toArray, List.set_cons_zero, List.set_cons_succ])
          refine wpAnyT_take3 (i := 3) (v := ?_) rfl (by kernel_rfl) (by kernel_rfl) (by kernel_rfl) (by kernel_rfl) (by kernel_rfl) (fun _ _ _ h => h) hS (Or.inl ⟨by rfl, ?_⟩) ?_
          rotate_left
          · (intro w' hSw; (try dsimp only at hSw); go_simp; (try with_reducible rfl))
          (try simp only [Act.put, List.setIfInBounds_toArray, List.set_cons_zero, List.set_cons_succ])
          refine wpAnyT_take3 (i := 4) (v := ?_) rfl (by kernel_rfl) (by kernel_rfl) (by kernel_rfl) (by kernel_rfl) (by kernel_rfl) (fun _ _ _ h => h) hS (Or.inl ⟨by rfl, ?_⟩) ?_
          rotate_left
          · (intro w' hSw; (try dsimp only at hSw); go_simp; (try with_reducible rfl))
          (try simp only [Act.put, List.setIfInBounds_toArray, List.set_cons_zero, List.set_cons_succ])
          refine wpAnyT_take3 (i := 5) (v := ?_) rfl (by kernel_rfl) (by kernel_rfl) (by kernel_rfl) (by kernel_rfl) (by kernel_rfl) (fun _ _ _ h => h) hS (Or.inl ⟨by rfl, ?_⟩) ?_
          rotate_left
          · (intro w' hSw; (try dsimp only at hSw); go_simp; (try with_reducible rfl))
          (try simp only [Act.put, List.setIfInBounds_toArray, List.set_cons_zero, List.set_cons_succ])
          refine wpAnyT_take3 (i := 6) (v := ?_) rfl (by kernel_rfl) (by kernel_rfl) (by kernel_rfl) (by kernel_rfl) (by kernel_rfl) (fun _ _ _ h => h) hS (Or.inl ⟨by rfl, ?_⟩) ?_
          rotate_left
          · (intro w' hSw; (try dsimp only at hSw); go_simp; (try with_reducible rfl))
          (try simp only [Act.put, List.setIfInBounds_toArray, List.set_cons_zero, List.set_cons_succ])
          refine wpAnyT_take3 (i := 7) (v := ?_) rfl (by kernel_rfl) (by kernel_rfl) (by kernel_rfl) (by kernel_rfl) (by kernel_rfl) (fun _ _ _ h => h) hS (Or.inl ⟨by rfl, ?_⟩) ?_
          rotate_left
          · (intro w' hSw; (try dsimp only at hSw); go_simp; (try with_reducible rfl))
          (try simp only [Act.put, List.setIfInBounds_toArray, List.set_cons_zero, List.set_cons_succ])
          refine wpAnyT_take3 (i := 8) (v := ?_) rfl (by kernel_rfl) (by kernel_rfl) (by kernel_rfl) (by kernel_rfl) (by kernel_rfl) (fun _ _ _ h => h) hS (Or.inl ⟨by rfl, ?_⟩) ?_
          rotate_left
          · (intro w' hSw; (try dsimp only at hSw); go_simp; (try with_reducible rfl))
          (try simp only [Act.put, List.setIfInBounds_toArray, List.set_cons_zero, List.set_cons_succ])
          refine wpAnyT_take3 (i := 9) (v := ?_) rfl (by kernel_rfl) (by kernel_rfl) (by kernel_rfl) (by kernel_rfl) (by kernel_rfl) (fun _ _ _ h => h) hS (Or.inl ⟨by rfl, ?_⟩) ?_
          rotate_left
          · (intro w' hSw; (try dsimp only at hSw); go_simp; (try with_reducible rfl))
          (try simp only [Act.put, List.setIfInBounds_toArray, List.set_cons_zero, List.set_cons_succ])
          refine wpAnyT_take3 (i := 10) (v := ?_) rfl (by kernel_rfl) (by kernel_rfl) (by kernel_rfl) (by kernel_rfl) (by kernel_rfl) (fun _ _ _ h => h) hS (Or.inl ⟨by rfl, ?_⟩) ?_
          rotate_left
          · (intro w' hSw; (try dsimp only at hSw); go_simp; (try with_reducible rfl))
          (try simp only [Act.put, List.setIfInBounds_toArray, List.set_cons_zero, List.set_cons_succ])
          refine wpAnyT_take3 (i := 11) (v := ?_) rfl (by kernel_rfl) (by kernel_rfl) (by kernel_rfl) (by kernel_rfl) (by kernel_rfl) (fun _ _ _ h => h) hS (Or.inl ⟨by rfl, ?_⟩) ?_
          rotate_left
          · (intro w' hSw; (try dsimp only at hSw); go_simp; (try with_reducible rfl))
          (try simp only [Act.put, List.setIfInBounds_toArray, List.set_cons_zero, List.set_cons_succ])
          refine wpAnyT_take3 (i := 12) (v := ?_) rfl (by kernel_rfl) (by kernel_rfl) (by kernel_rfl) (by kernel_rfl) (by kernel_rfl) (fun _ _ _ h => h) hS (Or.inl ⟨by rfl, ?_⟩) ?_
          rotate_left
          · (intro w' hSw; (try dsimp only at hSw); go_simp; (try with_reducible rfl))
          (try simp only [Act.put, List.setIfInBounds_toArray, List.set_cons_zero, List.set_cons_succ])
          refine wpAnyT_take3 (i := 13) (v := ?_) rfl (by kernel_rfl) (by kernel_rfl) (by kernel_rfl) (by kernel_rfl) (by kernel_rfl) (fun _ _ _ h => h) hS (Or.inl ⟨by rfl, ?_⟩) ?_
          rotate_left
          · (intro w' hSw; (try dsimp only at hSw); go_simp; (try with_reducible rfl))
          (try simp only [Act.put, List.setIfInBounds_toArray, List.set_cons_zero, List.set_cons_succ])
          refine wpAnyT_take3 (i := 14) (v := ?_) rfl (by kernel_rfl) (by kernel_rfl) (by kernel_rfl) (by kernel_rfl) (by kernel_rfl) (fun _ _ _ h => h) hS (Or.inl ⟨by rfl, ?_⟩) ?_
          rotate_left
          · (intro w' hSw; (try dsimp only at hSw); go_simp; (try with_reducible rfl))
          (try simp only [Act.put, List.setIfInBounds_toArray, List.set_cons_zero, List.set_cons_succ])
          refine wpAnyT_one (i := 15) (by kernel_rfl) rfl (fun K hK => ?_)
          go_simp
          refine (mul_calls _ _ _ _ HP.out HUV.out HUT1.out).mono ?_
          rintro e w2 ⟨rfl, ⟨n2, rfl⟩⟩
          refine hK _ _ (fun _ => hS) ?_
          clear hK K
          (try simp only [Act.put, List.setIfInBounds_toArray, List.set_cons_zero, List.set_cons_succ])
          refine wpAnyT_one (i := 16) (by kernel_rfl) rfl (fun K hK => ?_)
          go_simp
          refine hK _ _ (fun _ => hS) ?_
          clear hK K
          (try simp only [Act.put, List.setIfInBounds_toArray, List.set_cons_zero, List.set_cons_succ])
          refine wpAnyT_one (i := 17) (by kernel_rfl) rfl (fun K hK => ?_)
          go_simp
          refine hK _ _ (fun h => by cases h) ?_
          clear hK K
          (try simp only [Act.put, List.setIfInBounds_toArray, List.set_cons_zero, List.set_cons_succ])
          refine wpAnyT_done (by kernel_rfl) ?_ _
          refine NoPanic.normal ?_
          go_wp2
          go_roundw
          case rel => exact ⟨u + 1, by omega, by go_num, Lib.hid (HSO.out _), Lib.hid (HSG.out _)⟩
          case measure => simp [intOf]; omega
        · have hue : u = r := by omega
          have HOE : Hid (Own wr og 22 1 (some ⟨og, 0, none⟩) m m (nums .u64 (putN o O (grpV p (gatL x I) tab F) r))) := Lib.hid (by have h1 := HO6.out; rw [hue] at h1; exact h1)
          have HGE : Hid (Grown og w wr) := Lib.hid (HG5.out.trans HG6.out)
          clear hue
          go_wp2
          first | go_end0 | skip
          exact ⟨rfl, HOE.out, HGE.out⟩
set_option maxRecDepth 100000 in
set_option maxHeartbeats 4000000 in
theorem sdo1_stage (p : Int) (inv : Bool) (bxs : List Value) (A B C : Option Addr) (ca cb cc r : Nat) (I F O : List Int) (X : Option Addr) (cx m : Nat) (x : List Int) (T : Option Addr) (tl tc : Nat) (tab : List Int) (Y : List Int) (og bx bs bp bi bb bt bo : Nat) (o : List Int) (w : World)
    (hI : I.length = r) (hF : F.length = r) (hO : O.length = r) (hr4 : r ≤ 4096) (hm : x.length = m) (hm4 : m ≤ 4096) (hiI : ∀ v ∈ I, 0 ≤ v ∧ v < m) (hiO : ∀ v ∈ O, 0 ≤ v ∧ v < m) (htl : tab.length = tl) (htl4 : tl ≤ 4096) (hiF : ∀ v ∈ F, 0 ≤ v ∧ v < tl)
    (hux : ∀ d ∈ x, U64 d) (hut : ∀ d ∈ tab, U64 d) (ho : o.length = m) (hp : U64 p) (hd : doS p inv (gatL x I) = (Y, 0)) (hy : Y.length = r) (hyu : ∀ d ∈ Y, U64 d) (hrA : RowX og w A (nums .i64 I)) (hrB : RowX og w B (nums .i64 F)) (hrC : RowX og w C (nums .i64 O)) (hrX : RowX og w X (nums .u64 x)) (hrT : RowX og w T (nums .u64 tab))
    (hbx : RowX og w (some ⟨bx, 0, none⟩) [.slice X m cx]) (hbs : RowX og w (some ⟨bs, 0, none⟩) bxs) (hbs1 : bxs[1]? = some (.bool false)) (hbp : RowX og w (some ⟨bp, 0, none⟩) [.int .u64 p]) (hbi : RowX og w (some ⟨bi, 0, none⟩) [.bool inv])
    (hbt : RowX og w (some ⟨bt, 0, none⟩) [.slice T tl tc]) (hbo : RowX og w (some ⟨bo, 0, none⟩) [.slice (some ⟨og, 0, none⟩) m m]) (hown : Own w og 22 1 (some ⟨og, 0, none⟩) m m (nums .u64 o)) :
    Calls Tryd.prog 77 #[.agg #[.slice A r ca, .slice B r cb, .slice C r cc], .pointer (some ⟨bx, 0, none⟩), .pointer (some ⟨bs, 0, none⟩), .pointer (some ⟨bp, 0, none⟩), .pointer (some ⟨bi, 0, none⟩), .pointer (some ⟨bb, 0, none⟩), .pointer (some ⟨bt, 0, none⟩), .pointer (some ⟨bo, 0, none⟩)] w fun e w' =>
      e = .returned (.tuple #[]) ∧ Own w' og 22 1 (some ⟨og, 0, none⟩) m m (nums .u64 (putN o O (grpV p Y tab F) r)) ∧ Grown og w w' := by
  have HI := Lib.hid hI
  have HF := Lib.hid hF
  have HO := Lib.hid hO
  have HM := Lib.hid hm
  have HIN := Lib.hid hiI
  have HIO := Lib.hid hiO
  have HIF := Lib.hid hiF
  have HTL := Lib.hid htl
  have HUX := Lib.hid hux
  have HUT := Lib.hid hut
  have HOL := Lib.hid ho
  have HP := Lib.hid hp
  have HD := Lib.hid hd
  have HY := Lib.hid hy
  have HYU := Lib.hid hyu
  have HGS : Hid (og < w.heap.size) := Lib.hid (Own.base hown).2
  have HALL : Hid (gatN x I r = gatL x I) := Lib.hid (by rw [← hI]; exact gatN_all x I)
  have hmk := make_u64 r (by omega)
  have hmx : Tryd.prog.follows .mixedOrders = true := by kernel_rfl
  have HMX := Lib.hid hmx
  have hbel0 : Below w.heap.size w (w.alloc (.cells #[.slice A r ca, .slice B r cb, .slice C r cc] 72)) := (Below.refl _ _).alloc (Nat.le_refl _) _
  have HBG : Hid (RowX og (w.alloc (.cells #[.slice A r ca, .slice B r cb, .slice C r cc] 72)) (some ⟨w.heap.size, 0, none⟩) [.slice A r ca, .slice B r cb, .slice C r cc]) :=
    Lib.hid (Own.rowX (own_one w w.heap.size 72 [.slice A r ca, .slice B r cb, .slice C r cc] 3 (Nat.le_refl _) rfl (by decide)) HGS.out)
  have HG0 : Hid (Grown og w (w.alloc (.cells #[.slice A r ca, .slice B r cb, .slice C r cc] 72))) := Lib.hid ((Grown.refl og w).below hbel0)
  have HRA := Lib.hid (hrA.below hbel0)
  have HRB := Lib.hid (hrB.below hbel0)
  have HRC := Lib.hid (hrC.below hbel0)
  have HRX := Lib.hid (hrX.below hbel0)
  have HRT := Lib.hid (hrT.below hbel0)
  have HBX := Lib.hid (hbx.below hbel0)
  have HBS := Lib.hid (hbs.below hbel0)
  have HBP := Lib.hid (hbp.below hbel0)
  have HBI := Lib.hid (hbi.below hbel0)
  have HBT := Lib.hid (hbt.below hbel0)
  have HBO := Lib.hid (hbo.below hbel0)
  have HS1 := Lib.hid hbs1
  have HOW := Lib.hid (Own.grown hown hbel0)
  have hg0 := RowX.cellB HBG.out (i := 0) rfl
  clear hI hF hO hm hiI hiO hiF htl hux hut ho hp hd hy hyu hrA hrB hrC hrX hrT hbx hbs hbs1 hbp hbi hbt hbo hown hbel0 hmx
  go_enter Tryd.func77, Tryd.ntmps77
  have hg1 : (w.alloc (.cells #[.slice A r ca, .slice B r cb, .slice C r cc] 72)).cell? ⟨w.heap.size, 0, none⟩ = some (.slice A r ca) := hg0
  generalize hV : (w.alloc (.cells #[.slice A r ca, .slice B r cb, .slice C r cc] 72)) = V at *
  have HGB : Hid (og < V.heap.size) := Lib.hid (by have h1 := HGS.out; rw [← hV]; simp; omega)
  have hbel1 : Below V.heap.size V (V.alloc (.cells (madeCells #[.int .u64 0] r) 22)) := (Below.refl _ _).alloc (Nat.le_refl _) _
  have hg2 := RowX.cellB (HBG.out.below hbel1) (i := 0) rfl
  clear HGS hg0
  go_wp2_with (rw [hV])
  have hown := own_made V V.heap.size 22 (.int .u64 0) r (Nat.le_refl _) (by omega)
  rw [nums_replicate, ← HI.out, ← gatN_start x I, HI.out] at hown
  clear hV hmk hg1 hg2
  generalize (V.alloc (.cells (madeCells #[.int .u64 0] r) 22)) = W at *
  have HWO := Lib.hid hown
  have HWB := Lib.hid hbel1
  clear hown hbel1
  generalize hrs : V.heap.size = rs at *
  have HRS := Lib.hid hrs
  generalize w.heap.size = gb at *
  clear hrs
  go_loopw [23] (fun q wr => ∃ t : Nat, t ≤ r ∧ q = .int .i64 t ∧ Hid (Own wr rs 22 1 (some ⟨rs, 0, none⟩) r r (nums .u64 (gatN x I t))) ∧ Hid (Below rs V wr)) (fun q _ => r - (intOf q).toNat)
  case atStart => exact ⟨0, Nat.zero_le _, rfl, HWO, HWB⟩
  case round =>
    obtain ⟨t, ht, rfl, HO2, HB2⟩ := hrel
    have HB3 : Hid (Below V.heap.size V wr) := Lib.hid (by rw [HRS.out]; exact HB2.out)
    by_cases hlt : t < r
    · have hkl : t < I.length := by have := HI.out; omega
      obtain ⟨v0, v1⟩ := HIN.out _ (List.getElem_mem hkl)
      obtain ⟨ia, rfl⟩ := HRA.out.1.some_of (by intro h0; have h1 := nums_length .i64 I; rw [h0] at h1; simp at h1; omega)
      have hc0 := (HRA.out.below HB3.out).1.num hkl
      have HST := Lib.hid (gatN_set x hkl)
      generalize I[t] = v at *
      obtain ⟨v, rfl⟩ := Int.eq_ofNat_of_zero_le v0
      have hvx : v < x.length := by have := HM.out; omega
      obtain ⟨xa, rfl⟩ := HRX.out.1.some_of (by intro h0; have h1 := nums_length .u64 x; rw [h0] at h1; simp at h1; omega)
      have hc1 := (HRX.out.below HB3.out).1.num hvx
      have hc2 := RowX.cellB (HBX.out.below HB3.out) (i := 0) rfl
      rw [Int.toNat_natCast, getD_of hvx] at HST
      generalize x[v] = u at *
      have hf : wr.frozen? ⟨rs, t, none⟩ = false := HO2.out.frozenAt t
      have hco := HO2.out.cellAt t hlt
      rw [nums_get .u64 _ t (by rw [gatN_length]; exact hkl)] at hco
      generalize (gatN x I t)[t]'(by rw [gatN_length]; exact hkl) = old at *
      have HS : Hid (Own (wr.setCell ⟨rs, t, none⟩ (.int .u64 u)) rs 22 1 (some ⟨rs, 0, none⟩) r r (nums .u64 (gatN x I (t + 1)))) := Lib.hid (by
        have h1 := HO2.out.stored t (.int .u64 u)
        rw [nums_set, HST.out] at h1
        exact h1)
      have HSB := Lib.hid (Below.setCell (p := ⟨rs, t, none⟩) HB2.out (Nat.le_refl _) (.int .u64 u))
      go_wp2
      go_roundw
      case rel => exact ⟨t + 1, by omega, by go_num, HS, HSB⟩
      case measure => simp [intOf]; omega
    · have hke : t = r := by omega
      have HRL : Hid (Row wr (some ⟨rs, 0, none⟩) (nums .u64 (gatL x I))) := Lib.hid (by have h1 := HO2.out.row; rw [hke, HALL.out] at h1; exact h1)
      have HGW : Hid (og < wr.heap.size) := Lib.hid (Nat.lt_of_lt_of_le HGB.out (by rw [← HRS.out]; exact HB3.out.size))
      have HRLX : Hid (RowX og wr (some ⟨rs, 0, none⟩) (nums .u64 (gatL x I))) := Lib.hid ⟨HRL.out, fun y hy => by cases hy; have h1 := HGB.out; have h2 := HRS.out; dsimp only; omega⟩
      have hs1 := RowX.cellB (HBS.out.below HB3.out) HS1.out
      have HG4 := Lib.hid ((HG0.out).below HB3.out)
      have HRB4 := Lib.hid (HRB.out.below HB3.out)
      have HRC4 := Lib.hid (HRC.out.below HB3.out)
      have HRT4 := Lib.hid (HRT.out.below HB3.out)
      have HBG4 := Lib.hid (HBG.out.below HB3.out)
      have HBP4 := Lib.hid (HBP.out.below HB3.out)
      have HBI4 := Lib.hid (HBI.out.below HB3.out)
      have HBT4 := Lib.hid (HBT.out.below HB3.out)
      have HBO4 := Lib.hid (HBO.out.below HB3.out)
      have HOW4 := Lib.hid (HOW.out.grown HB3.out)
      have hg4 := RowX.cellB HBG4.out (i := 2) rfl
      clear hke HO2 HB2 HB3 HRA HRB HRC HRX HRT HBX HBS HBG HBP HBI HBT HBO HOW HG0
      have hp4 := RowX.cellB HBP4.out (i := 0) rfl
      have hi4 := RowX.cellB HBI4.out (i := 0) rfl
      go_wp2_with fail
      refine (do_n p inv _ r r (gatL x I) _ (by rw [gatL_length]; exact HI.out) HP.out HRL.out (by omega) (gatL_u64 HUX.out)).mono ?_
      rw [HD.out, show ((Y, (0 : Int)).1).length = r from HY.out]
      rintro e wq ⟨Z, cz, rfl, hoz, hb⟩
      have HZ5 := Lib.hid (hoz.rowX HGW.out)
      have HYU2 := HYU
      have HG5 := Lib.hid (HG4.out.below hb)
      have HRB5 := Lib.hid (HRB4.out.below hb)
      have HRC5 := Lib.hid (HRC4.out.below hb)
      have HRT5 := Lib.hid (HRT4.out.below hb)
      have HBG5 := Lib.hid (HBG4.out.below hb)
      have HBP5 := Lib.hid (HBP4.out.below hb)
      have HBT5 := Lib.hid (HBT4.out.below hb)
      have HBO5 := Lib.hid (HBO4.out.below hb)
      have HOW5 := Lib.hid (HOW4.out.grown hb)
      clear hoz hb hp4 hi4 hg4 hs1
      have hg5 := RowX.cellB HBG5.out (i := 2) rfl
      dsimp only
      go_wp2
      clear hg5
      go_loopw [53] (fun q ws => ∃ u : Nat, u ≤ r ∧ q = .int .i64 u ∧ Hid (Own ws og 22 1 (some ⟨og, 0, none⟩) m m (nums .u64 (putN o O (grpV p Y tab F) u))) ∧ Hid (Grown og wq ws)) (fun q _ => r - (intOf q).toNat)
      case atStart => exact ⟨0, Nat.zero_le _, rfl, HOW5, Lib.hid (Grown.refl _ _)⟩
      case round =>
        obtain ⟨u, hu, rfl, HO6, HG6⟩ := hrel
        by_cases hlu : u < r
        · have hul : u < O.length := by have := HO.out; omega
          have huf : u < F.length := by have := HF.out; omega
          have huy : u < Y.length := by rw [HY.out]; exact hlu
          obtain ⟨v0, v1⟩ := HIO.out _ (List.getElem_mem hul)
          obtain ⟨f0, f1⟩ := HIF.out _ (List.getElem_mem huf)
          obtain ⟨oa, rfl⟩ := HRC5.out.1.some_of (by intro h0; have h1 := nums_length .i64 O; rw [h0] at h1; simp at h1; omega)
          obtain ⟨fa, rfl⟩ := HRB5.out.1.some_of (by intro h0; have h1 := nums_length .i64 F; rw [h0] at h1; simp at h1; omega)
          obtain ⟨za, rfl⟩ := HZ5.out.1.some_of (by intro h0; have h1 := nums_length .u64 Y; rw [h0] at h1; simp at h1; omega)
          have hcz := (HZ5.out.grown HG6.out).1.num huy
          have hc0 := (HRC5.out.grown HG6.out).1.num hul
          have hc1 := (HRB5.out.grown HG6.out).1.num huf
          have hc3 := RowX.cellB (HBO5.out.grown HG6.out) (i := 0) rfl
          have hc4 := RowX.cellB (HBP5.out.grown HG6.out) (i := 0) rfl
          have hc5 := RowX.cellB (HBT5.out.grown HG6.out) (i := 0) rfl
          have hc6 := RowX.cellB (HBG5.out.grown HG6.out) (i := 1) rfl
          have HUV : Hid (U64 (Y[u])) := Lib.hid (HYU2.out _ (List.getElem_mem huy))
          have HST : Hid (putN o O (grpV p Y tab F) (u + 1) = (putN o O (grpV p Y tab F) u).set O[u].toNat (mulS p (Y[u]) (tab.getD (F[u]).toNat 0))) := Lib.hid (by
            rw [putN, getD_of hul, grpV_at p Y tab F huf, getD_of huy, getD_of huf])
          generalize O[u] = v at *
          generalize F[u] = f at *
          generalize Y[u] = y at *
          obtain ⟨v, rfl⟩ := Int.eq_ofNat_of_zero_le v0
          obtain ⟨f, rfl⟩ := Int.eq_ofNat_of_zero_le f0
          have hft : f < tab.length := by have := HTL.out; omega
          obtain ⟨ta, rfl⟩ := HRT5.out.1.some_of (by intro h0; have h1 := nums_length .u64 tab; rw [h0] at h1; simp at h1; omega)
          have hc7 := (HRT5.out.grown HG6.out).1.num hft
          have HUT1 : Hid (U64 tab[f]) := Lib.hid (HUT.out _ (List.getElem_mem hft))
          rw [Int.toNat_natCast, Int.toNat_natCast, getD_of hft] at HST
          generalize tab[f] = tv at *
          have hvm : v < m := by omega
          have hftl : f < tl := by omega
          have hf : wr.frozen? ⟨og, v, none⟩ = false := HO6.out.frozenAt v
          have hco := HO6.out.cellAt v hvm
          rw [nums_get .u64 _ v (by rw [putN_length, HOL.out]; exact hvm)] at hco
          generalize (putN o O (grpV p Y tab F) u)[v]'(by rw [putN_length, HOL.out]; exact hvm) = old at *
          have HSO : Hid (∀ q, Own ((wr.drewN q).setCell ⟨og, v, none⟩ (.int .u64 (mulS p y tv))) og 22 1 (some ⟨og, 0, none⟩) m m (nums .u64 (putN o O (grpV p Y tab F) (u + 1)))) := Lib.hid fun q => by
            have h1 := (HO6.out.drewN q).stored v (.int .u64 (mulS p y tv))
            rw [nums_set, ← HST.out] at h1
            exact h1
          have HSG : Hid (∀ q, Grown og wq ((wr.drewN q).setCell ⟨og, v, none⟩ (.int .u64 (mulS p y tv)))) := Lib.hid fun q => (HG6.out.drewN q).setCell v _
          clear HST hul huf huy v0 v1 f0 f1
          go_wp2
          refine region_marks2 (k := 18) (S := (fun w' => w'.cell? ⟨bo, 0, none⟩ = some (.slice (some ⟨og, 0, none⟩) m m) ∧ w'.cell? ⟨bp, 0, none⟩ = some (.int .u64 p) ∧ w'.cell? (za.add u) = some (.int .u64 y) ∧ w'.cell? ⟨bt, 0, none⟩ = some (.slice (some ta) tl tc) ∧ w'.cell? ⟨gb, 1, none⟩ = some (.slice (some fa) r cb) ∧ w'.cell? (fa.add u) = some (.int .i64 (f : Int)) ∧ w'.cell? (ta.add f) = some (.int .u64 tv))) (T := fun i => decide (i < 17)) HMX.out rfl ⟨hc3, hc4, hcz, hc5, hc6, hc1, hc7⟩ (fun hS => ?_)
          refine wpAnyT_take3 (i := 0) (v := ?_) rfl (by kernel_rfl) (by kernel_rfl) (by kernel_rfl) (by kernel_rfl) (by kernel_rfl) (fun _ _ _ h => h) hS (Or.inl ⟨by rfl, ?_⟩) ?_
          rotate_left
          · (intro w' hSw; (try dsimp only at hSw); go_simp; (try with_reducible rfl))
          (try simp only [Act.put, List.setIfInBounds_toArray, List.set_cons_zero, List.set_cons_succ])
          refine wpAnyT_take3 (i := 1) (v := ?_) rfl (by kernel_rfl) (by kernel_rfl) (by kernel_rfl) (by kernel_rfl) (by kernel_rfl) (fun _ _ _ h => h) hS (Or.inl ⟨by rfl, ?_⟩) ?_
          rotate_left
          · (intro w' hSw; (try dsimp only at hSw); go_simp; (try with_reducible rfl))
          (try simp only [Act.put, List.setIfInBounds_toArray, List.set_cons_zero, List.set_cons_succ])
          refine wpAnyT_take3 (i := 2) (v := ?_) rfl (by kernel_rfl) (by kernel_rfl) (by kernel_rfl) (by kernel_rfl) (by kernel_rfl) (fun _ _ _ h => h) hS (Or.inl ⟨by rfl, ?_⟩) ?_
          rotate_left
          · (intro w' hSw; (try dsimp only at hSw); go_simp; (try with_reducible rfl))
          (try simp only [Act.put, List.setIfInBounds_toArray, List.set_cons_zero, List.set_cons_succ])
          refine wpAnyT_take3 (i := 3) (v := ?_) rfl (by kernel_rfl) (by kernel_rfl) (by kernel_rfl) (by kernel_rfl) (by kernel_rfl) (fun _ _ _ h => h) hS (Or.inl ⟨by rfl, ?_⟩) ?_
          rotate_left
          · (intro w' hSw; (try dsimp only at hSw); go_simp; (try with_reducible rfl))
          (try simp only [Act.put, List.setIfInBounds_toArray, List.set_cons_zero, List.set_cons_succ])
          refine wpAnyT_take3 (i := 4) (v := ?_) rfl (by kernel_rfl) (by kernel_rfl) (by kernel_rfl) (by kernel_rfl) (by kernel_rfl) (fun _ _ _ h => h) hS (Or.inl ⟨by rfl, ?_⟩) ?_
          rotate_left
          · (intro w' hSw; (try dsimp only at hSw); go_simp; (try with_reducible rfl))
          (try simp only [Act.put, List.setIfInBounds_toArray, List.set_cons_zero, List.set_cons_succ])
          refine wpAnyT_take3 (i := 5) (v := ?_) rfl (by kernel_rfl) (by kernel_rfl) (by kernel_rfl) (by kernel_rfl) (by kernel_rfl) (fun _ _ _ h => h) hS (Or.inl ⟨by rfl, ?_⟩) ?_
          rotate_left
          · (intro w' hSw; (try dsimp only at hSw); go_simp; (try with_reducible rfl))
          (try simp only [Act.put, List.setIfInBounds_toArray, List.set_cons_zero, List.set_cons_succ])
          refine wpAnyT_take3 (i := 6) (v := ?_) rfl (by kernel_rfl) (by kernel_rfl) (by kernel_rfl) (by kernel_rfl) (by kernel_rfl) (fun _ _ _ h => h) hS (Or.inl ⟨by rfl, ?_⟩) ?_
          rotate_left
          · (intro w' hSw; (try dsimp only at hSw); go_simp; (try with_reducible rfl))
          (try simp only [Act.put, List.setIfInBounds_toArray, List.set_cons_zero, List.set_cons_succ])
          refine wpAnyT_take3 (i := 7) (v := ?_) rfl (by kernel_rfl) (by kernel_rfl) (by kernel_rfl) (by kernel_rfl) (by kernel_rfl) (fun _ _ _ h => h) hS (Or.inl ⟨by rfl, ?_⟩) ?_
          rotate_left
          · (intro w' hSw; (try dsimp only at hSw); go_simp; (try with_reducible rfl))
          (try simp only [Act.put, List.setIfInBounds_toArray, List.set_cons_zero, List.set_cons_succ])
          refine wpAnyT_take3 (i := 8) (v := ?_) rfl (by kernel_rfl) (by kernel_rfl) (by kernel_rfl) (by kernel_rfl) (by kernel_rfl) (fun _ _ _ h => h) hS (Or.inl ⟨by rfl, ?_⟩) ?_
          rotate_left
          · (intro w' hSw; (try dsimp only at hSw); go_simp; (try with_reducible rfl))
          (try simp only [Act.put, List.setIfInBounds_toArray, List.set_cons_zero, List.set_cons_succ])
          refine wpAnyT_take3 (i := 9) (v := ?_) rfl (by kernel_rfl) (by kernel_rfl) (by kernel_rfl) (by kernel_rfl) (by kernel_rfl) (fun _ _ _ h => h) hS (Or.inl ⟨by rfl, ?_⟩) ?_
          rotate_left
          · (intro w' hSw; (try dsimp only at hSw); go_simp; (try with_reducible rfl))
          (try simp only [Act.put, List.setIfInBounds_toArray, List.set_cons_zero, List.set_cons_succ])
          refine wpAnyT_take3 (i := 10) (v := ?_) rfl (by kernel_rfl) (by kernel_rfl) (by kernel_rfl) (by kernel_rfl) (by kernel_rfl) (fun _ _ _ h => h) hS (Or.inl ⟨by rfl, ?_⟩) ?_
          rotate_left
          · (intro w' hSw; (try dsimp only at hSw); go_simp; (try with_reducible rfl))
          (try simp only [Act.put, List.setIfInBounds_toArray, List.set_cons_zero, List.set_cons_succ])
          refine wpAnyT_take3 (i := 11) (v := ?_) rfl (by kernel_rfl) (by kernel_rfl) (by kernel_rfl) (by kernel_rfl) (by kernel_rfl) (fun _ _ _ h => h) hS (Or.inl ⟨by rfl, ?_⟩) ?_
          rotate_left
          · (intro w' hSw; (try dsimp only at hSw); go_simp; (try with_reducible rfl))
          (try simp only [Act.put, List.setIfInBounds_toArray, List.set_cons_zero, List.set_cons_succ])
          refine wpAnyT_take3 (i := 12) (v := ?_) rfl (by kernel_rfl) (by kernel_rfl) (by kernel_rfl) (by kernel_rfl) (by kernel_rfl) (fun _ _ _ h => h) hS (Or.inl ⟨by rfl, ?_⟩) ?_
          rotate_left
          · (intro w' hSw; (try dsimp only at hSw); go_simp; (try with_reducible rfl))
          (try simp only [Act.put, List.setIfInBounds_toArray, List.set_cons_zero, List.set_cons_succ])
          refine wpAnyT_take3 (i := 13) (v := ?_) rfl (by kernel_rfl) (by kernel_rfl) (by kernel_rfl) (by kernel_rfl) (by kernel_rfl) (fun _ _ _ h => h) hS (Or.inl ⟨by rfl, ?_⟩) ?_
          rotate_left
          · (intro w' hSw; (try dsimp only at hSw); go_simp; (try with_reducible rfl))
          (try simp only [Act.put, List.setIfInBounds_toArray, List.set_cons_zero, List.set_cons_succ])
          refine wpAnyT_take3 (i := 14) (v := ?_) rfl (by kernel_rfl) (by kernel_rfl) (by kernel_rfl) (by kernel_rfl) (by kernel_rfl) (fun _ _ _ h => h) hS (Or.inl ⟨by rfl, ?_⟩) ?_
          rotate_left
          · (intro w' hSw; (try dsimp only at hSw); go_simp; (try with_reducible rfl))
          (try simp only [Act.put, List.setIfInBounds_toArray, List.set_cons_zero, List.set_cons_succ])
          refine wpAnyT_one (i := 15) (by kernel_rfl) rfl (fun K hK => ?_)
          go_simp
          refine (mul_calls _ _ _ _ HP.out HUV.out HUT1.out).mono ?_
          rintro e w2 ⟨rfl, ⟨n2, rfl⟩⟩
          refine hK _ _ (fun _ => hS) ?_
          clear hK K
          (try simp only [Act.put, List.setIfInBounds_toArray, List.set_cons_zero, List.set_cons_succ])
          refine wpAnyT_one (i := 16) (by kernel_rfl) rfl (fun K hK => ?_)
          go_simp
          refine hK _ _ (fun _ => hS) ?_
          clear hK K
          (try simp only [Act.put, List.setIfInBounds_toArray, List.set_cons_zero, List.set_cons_succ])
          refine wpAnyT_one (i := 17) (by kernel_rfl) rfl (fun K hK => ?_)
          go_simp
          refine hK _ _ (fun h => by cases h) ?_
          clear hK K
          (try simp only [Act.put, List.setIfInBounds_toArray, List.set_cons_zero, List.set_cons_succ])
          refine wpAnyT_done (by kernel_rfl) ?_ _
          refine NoPanic.normal ?_
          go_wp2
          go_roundw
          case rel => exact ⟨u + 1, by omega, by go_num, Lib.hid (HSO.out _), Lib.hid (HSG.out _)⟩
          case measure => simp [intOf]; omega
        · have hue : u = r := by omega
          have HOE : Hid (Own wr og 22 1 (some ⟨og, 0, none⟩) m m (nums .u64 (putN o O (grpV p Y tab F) r))) := Lib.hid (by have h1 := HO6.out; rw [hue] at h1; exact h1)
          have HGE : Hid (Grown og w wr) := Lib.hid (HG5.out.trans HG6.out)
          clear hue
          go_wp2
          first | go_end0 | skip
          exact ⟨rfl, HOE.out, HGE.out⟩
end Go.Proofs.YtohcoidbncbijaaDoor.P
/- The contract of step.each, of a stage: all groups are told, line by line. Conditions: the step may be; the slice of axes reads as a list; what is told to keeps the rows. -/
namespace Go.Proofs.YtohcoidbncbijaaDoor.P
open Go.RowKit
set_option linter.unusedVariables false
set_option linter.unusedSimpArgs false
theorem wrapM {x y : Nat} (h : x * y ≤ 100000) : IntKind.i64.wrap ((x : Int) * (y : Int)) = ((x * y : Nat) : Int) := by
  have e : (x : Int) * (y : Int) = ((x * y : Nat) : Int) := by push_cast; rfl
  rw [e]
  generalize x * y = z at *
  exact wrapI (by omega) (by omega)
theorem wrapP {x y : Nat} (h : x + y ≤ 100000) : IntKind.i64.wrap ((x : Int) + (y : Int)) = ((x + y : Nat) : Int) := by
  rw [wrapI (by omega) (by omega)]; push_cast; rfl
structure EachN (R L M a b u1 v1 u2 u3 u4 u5 v2 : Nat) : Prop where
  e1 : u1 = L * a
  f1 : v1 = b + L * a
  e2 : u2 = L * M
  e3 : u3 = a * R
  f2 : v2 = b + L * R * a
  o1 : IntKind.i64.wrap ((L : Int) * (a : Int)) = (u1 : Int)
  p1 : IntKind.i64.wrap ((b : Int) + (u1 : Int)) = (v1 : Int)
  o2 : IntKind.i64.wrap ((L : Int) * (M : Int)) = (u2 : Int)
  o3 : IntKind.i64.wrap ((a : Int) * (R : Int)) = (u3 : Int)
  o4 : IntKind.i64.wrap ((L : Int) * (R : Int)) = (u4 : Int)
  o5 : IntKind.i64.wrap ((u4 : Int) * (a : Int)) = (u5 : Int)
  p2 : IntKind.i64.wrap ((b : Int) + (u5 : Int)) = (v2 : Int)
  s1 : v1 ≤ 100000
  s2 : u2 ≤ 100000
  s3 : u3 ≤ 100000
  s5 : v2 ≤ 100000
theorem each_num {N R L M : Nat} (hs : StageK N R L M) (h4 : N ≤ 4096) {a b : Nat} (ha : a < M) (hb : b < L) : ∃ u1 v1 u2 u3 u4 u5 v2 : Nat, EachN R L M a b u1 v1 u2 u3 u4 u5 v2 := by
  have h1 : L * M ≤ N := by
    have h0 : L * M * 1 ≤ L * M * R := Nat.mul_le_mul_left _ (by have := hs.r2; omega)
    rw [Nat.mul_assoc L M R, hs.all] at h0
    omega
  have h2 : L * a ≤ L * M := Nat.mul_le_mul_left _ (by omega)
  have h3 : a * R ≤ N := by
    have h0 : a * R ≤ M * R := Nat.mul_le_mul_right _ (by omega)
    have h5 := hs.rm
    rw [Nat.mul_comm R M] at h5
    omega
  have h6 : L * R * a ≤ N := by
    have h0 : L * R * a ≤ L * R * M := Nat.mul_le_mul_left _ (by omega)
    rw [Nat.mul_assoc L R M, Nat.mul_comm R M, hs.all] at h0
    exact h0
  have h7 : L * R ≤ N := by
    have h0 : L * R * 1 ≤ L * R * M := Nat.mul_le_mul_left _ (by have := hs.m1; omega)
    rw [Nat.mul_assoc L R M, Nat.mul_comm R M, hs.all] at h0
    omega
  have h8 : L ≤ N := by
    have h0 : L * 1 ≤ L * M := Nat.mul_le_mul_left _ (by have := hs.m1; omega)
    omega
  exact ⟨L * a, b + L * a, L * M, a * R, L * R, L * R * a, b + L * R * a, rfl, rfl, rfl, rfl, rfl, wrapM (by omega), wrapP (by omega), wrapM (by omega), wrapM (by omega), wrapM (by omega), wrapM (by omega), wrapP (by omega), by omega, by omega, by omega, by omega⟩
theorem rowL_in {f m n N : Nat} (h : ∀ t, t < n → f + m * t < N) : ∀ v ∈ rowL f m n, 0 ≤ v ∧ v < N := by
  intro v hv
  simp only [rowL, List.mem_map, List.mem_range] at hv
  obtain ⟨t, ht, rfl⟩ := hv
  have := h t ht
  exact ⟨by omega, by omega⟩
set_option maxRecDepth 100000 in
set_option maxHeartbeats 8000000 in
theorem seach_stage (fk : Nat) (cap : Array Value) (p : Int) (A : Option Addr) (c n : Nat) (ax : List (Int × Bool)) (k N : Nat) (neg : Bool) (R L M K : Nat) (Inv : Nat → World → Prop) (Mine : World → Nat → Prop) (w : World)
    (hcf : ∀ (args : Array Value) (w : World), (callFunc fk args).run Tryd.prog w = .ok (.enter fk args) w)
    (hn : ax.length = n) (hr : RowM Mine w A (axR ax)) (hl : n ≤ 8796093022208) (hw : ∀ a ∈ ax, i64 a.1) (hK : StepK p ax ((k : Int), false, (R : Int), (L : Int), (M : Int)) k N neg) (hS : StageK N R L M) (hT : Tells Inv Mine)
    (hKK : prodL (dimsA ax) / (N : Int) = (K : Int)) (htold : ToldG Tryd.prog fk cap Inv Mine (grpG (dimsA ax) k false R L M) R (K * M * L)) (hi : Inv 0 w) :
    Calls Tryd.prog 76 #[.slice A n c, .agg #[.int .i64 (k : Int), .bool false, .int .i64 (R : Int), .int .i64 (L : Int), .int .i64 (M : Int)], .func (.func fk) #[] cap] w fun e w' => e = .returned (.int .i64 0) ∧ Inv (K * M * L) w' ∧ Kp Mine w w' := by
  have HT := Lib.hid hT
  have HTO := Lib.hid htold
  have HN := Lib.hid hn
  have HW := Lib.hid hw
  have HST := Lib.hid hS
  obtain ⟨hi0, hk0, hx0⟩ := hT.new hi 39 (boxS k false R L M) 5 rfl (by decide)
  have hx0' : RowM Mine (w.alloc (.cells #[.int .i64 (k : Int), .bool false, .int .i64 (R : Int), .int .i64 (L : Int), .int .i64 (M : Int)] 39)) (some ⟨w.heap.size, 0, none⟩) (boxS k false R L M) := hx0
  have hi0' : Inv 0 (w.alloc (.cells #[.int .i64 (k : Int), .bool false, .int .i64 (R : Int), .int .i64 (L : Int), .int .i64 (M : Int)] 39)) := hi0
  have hk0' : Kp Mine w (w.alloc (.cells #[.int .i64 (k : Int), .bool false, .int .i64 (R : Int), .int .i64 (L : Int), .int .i64 (M : Int)] 39)) := hk0
  have HI0 := Lib.hid hi0'
  have HK0 := Lib.hid hk0'
  have HX0 := Lib.hid hx0'
  have HR0 := Lib.hid (hr.kp hk0')
  have HD7 := Lib.hid hK.chk.dims
  have hp0 := hK.chk.dims.pos.prod
  have hp4 := hK.chk.dims.all
  obtain ⟨P0, hP0⟩ := Int.eq_ofNat_of_zero_le (show 0 ≤ prodL (dimsA ax) by omega)
  have HDL : Hid ((dimsA ax).length = n) := Lib.hid (by rw [dimsA_length]; exact hn)
  have HDI : Hid (∀ d ∈ dimsA ax, i64 d) := Lib.hid (dimsA_i64 hw)
  have HAL : Hid (allS (dimsA ax) = ((P0 : Int), 0)) := Lib.hid (by rw [allS_yes hK.chk.dims, hP0])
  have hP4 : P0 ≤ 4096 := by omega
  have hkn : k < n := by have := hK.lt; omega
  have hN1 := hK.c6.n1
  have hN4 := hK.c6.n2
  have hKt : (P0 : Int).tdiv (N : Int) = (K : Int) := by rw [Int.tdiv_eq_ediv_of_nonneg (by omega), ← hP0]; exact hKK
  have hK4 : K ≤ 4096 := by
    have h2 := Int.ediv_le_self (N : Int) (show (0 : Int) ≤ (P0 : Int) by omega)
    rw [← hP0, hKK] at h2
    omega
  have hD0 : ¬ (N : Int) = 0 := by omega
  have hwK : IntKind.i64.wrap (K : Int) = (K : Int) := wrapI (by omega) (by omega)
  have HAX : Hid (AxSt (dimsA ax) k R L M N) := Lib.hid ⟨(hK.chk.at hK.lt).1, hK.dim, hS⟩
  have hkd : k < (dimsA ax).length := by rw [dimsA_length]; exact hK.lt
  have HDK : Hid (∀ h : k < (dimsA ax).length, (dimsA ax)[k]'h = (N : Int)) := Lib.hid fun h => by
    have h1 := hK.dim
    rw [getD_of h] at h1
    exact h1
  have HKD := Lib.hid hkd
  have HLN : Hid (∀ j : Nat, j < K → lineS (dimsA ax) k j = (lineL (dimsA ax) k j, 0) ∧ (lineL (dimsA ax) k j).length = N) := Lib.hid fun j hj => by
    refine ⟨?_, by rw [lineL_length, hK.dim, Int.toNat_natCast]⟩
    have h2 : (dimsA ax).getD ((k : Int).toNat) 1 = (N : Int) := by rw [Int.toNat_natCast]; exact hK.dim
    rw [lineS, if_pos hK.chk.dims, if_pos ⟨by omega, by omega⟩, h2, hKK, if_pos ⟨by omega, by omega⟩, Int.toNat_natCast]
  have hM1 := hS.m1
  have hL1 := hS.l1
  have hM4 : M ≤ 4096 := by
    have h0 : M * 1 ≤ M * R := Nat.mul_le_mul_left _ (by have := hS.r2; omega)
    have h1 := hS.rm
    rw [Nat.mul_comm R M] at h1
    omega
  have hL4 : L ≤ 4096 := by
    have h0 : L * 1 ≤ L * (M * R) := Nat.mul_le_mul_left _ (Nat.mul_pos (by omega) (by have := hS.r2; omega))
    rw [hS.all] at h0
    omega
  have HR5 : Hid (R ≤ 100000) := Lib.hid (by have := hS.r5; omega)
  have HNM := Lib.hid (fun (a b : Nat) (ha : a < M) (hb : b < L) => each_num hS hN4 ha hb)
  have hmx : Tryd.prog.follows .mixedOrders = true := by kernel_rfl
  have HMX := Lib.hid hmx
  have HN4 : Hid (N ≤ 100000) := Lib.hid (by omega)
  have HNP : Hid (1 ≤ N) := Lib.hid (by omega)
  clear hT htold hn hw hS hi0 hk0 hx0 hi0' hk0' hx0' hr hK hi hmx hp0 hp4 hP0 hKK hkd hN1 hN4
  go_enter Tryd.func76, Tryd.ntmps76
  go_wp2_with fail
  generalize (w.alloc (.cells #[.int .i64 (k : Int), .bool false, .int .i64 (R : Int), .int .i64 (L : Int), .int .i64 (M : Int)] 39)) = V0 at *
  refine (dims7_calls A c n ax V0 HN.out HR0.out.row hl).mono ?_
  rintro e w1 ⟨D, rfl, ho, hb⟩
  have HI1 := Lib.hid (HT.out.fresh _ _ _ HI0.out hb).1
  have HK1 := Lib.hid (HK0.out.trans (HT.out.kp HI0.out hb))
  have HX1 := Lib.hid (HX0.out.kp (HT.out.kp HI0.out hb))
  have HD1 := Lib.hid (HT.out.own HI0.out hb ho)
  clear ho hb
  go_wp2_with fail
  refine (all_n D n n (dimsA ax) w1 HDL.out HD1.out.row (by omega) HDI.out).mono ?_
  rw [HAL.out]
  rintro e w2 ⟨rfl, rfl⟩
  obtain ⟨b0, b1, b2, b3, b4⟩ := box_cells HX1.out
  obtain ⟨da, rfl⟩ := HD1.out.row.some_of (by intro h0; have h1 := nums_length .i64 (dimsA ax); rw [h0, HDL.out] at h1; simp at h1; omega)
  have hdc := HD1.out.row.num HKD.out
  rw [HDK.out] at hdc
  go_wp2
  clear hdc b0 b1 b2 b3 b4 hKt hwK hD0
  go_loopw [64] (fun q wr => ∃ j : Nat, j ≤ K ∧ q = .int .i64 j ∧ Hid (Inv (j * M * L) wr) ∧ Hid (Kp Mine w2 wr)) (fun q _ => K - (intOf q).toNat)
  case atStart => exact ⟨0, Nat.zero_le _, rfl, Lib.hid (by rw [Nat.zero_mul, Nat.zero_mul]; exact HI1.out), Lib.hid (Kp.refl _ _)⟩
  case round =>
    obtain ⟨j, hj, rfl, HI2, HK2⟩ := hrel
    by_cases hlt : j < K
    · have HX2 := Lib.hid (HX1.out.kp HK2.out)
      have HD2 := Lib.hid (HD1.out.kp HK2.out)
      obtain ⟨b0, b1, b2, b3, b4⟩ := box_cells HX2.out
      obtain ⟨hl1, hl2⟩ := HLN.out j hlt
      have HL1 := Lib.hid hl1
      have HL2 := Lib.hid hl2
      have HL3 : Hid (((lineL (dimsA ax) k j, (0 : Int)).1).length = N) := Lib.hid hl2
      clear hl1 hl2
      go_wp2_with fail
      refine (line_n (some da) n n (dimsA ax) (k : Int) (j : Int) wr HDL.out HD2.out.row (by omega) (Nat.le_refl _) HDI.out ⟨by omega, by omega⟩ ⟨by omega, by omega⟩).mono ?_
      rw [HL1.out, HL3.out]
      rintro e w3 ⟨La, lc, rfl, ho, hb⟩
      have HI3 := Lib.hid (HT.out.fresh _ _ _ HI2.out hb).1
      have HK3 := Lib.hid (HK2.out.trans (HT.out.kp HI2.out hb))
      have HX3 := Lib.hid (HX2.out.kp (HT.out.kp HI2.out hb))
      have HY3 := Lib.hid (HT.out.own HI2.out hb ho)
      clear ho hb b0 b1 b2 b3 b4
      obtain ⟨b0, b1, b2, b3, b4⟩ := box_cells HX3.out
      go_wp2
      clear b0 b1 b2 b3 b4
      go_hide hQ
      go_loopw [81] (fun q ws => ∃ a : Nat, a ≤ M ∧ q = .int .i64 a ∧ Hid (Inv ((j * M + a) * L) ws) ∧ Hid (Kp Mine w3 ws)) (fun q _ => M - (intOf q).toNat)
      case atStart => exact ⟨0, Nat.zero_le _, rfl, Lib.hid (by rw [Nat.add_zero]; exact HI3.out), Lib.hid (Kp.refl _ _)⟩
      case round =>
        obtain ⟨a, ha, rfl, HI4, HK4⟩ := hrel
        by_cases hla : a < M
        · have HX4 := Lib.hid (HX3.out.kp HK4.out)
          obtain ⟨b0, b1, b2, b3, b4⟩ := box_cells HX4.out
          go_wp2
          clear b0 b1 b2 b3 b4
          go_hide hQ2
          have hwr : ∃ wa, wa = wr := ⟨_, rfl⟩
          obtain ⟨wa, hwa⟩ := hwr
          rw [← hwa] at HI4 HK4 HX4
          rw [← hwa]
          clear hwa
          go_loopw [87] (fun q ws => ∃ b : Nat, b ≤ L ∧ q = .int .i64 b ∧ Hid (Inv ((j * M + a) * L + b) ws) ∧ Hid (Kp Mine wa ws)) (fun q _ => L - (intOf q).toNat)
          case atStart => exact ⟨0, Nat.zero_le _, rfl, HI4, Lib.hid (Kp.refl _ _)⟩
          case round =>
            obtain ⟨b, hb, rfl, HI5, HK5⟩ := hrel
            by_cases hlb : b < L
            · obtain ⟨u1, v1, u2, u3, u4, u5, v2, hnum⟩ := HNM.out a b hla hlb
              have HNUM := Lib.hid hnum
              have o1 := hnum.o1
              have o2 := hnum.o2
              have o3 := hnum.o3
              have o4 := hnum.o4
              have o5 := hnum.o5
              have p1 := hnum.p1
              have p2 := hnum.p2
              have HG : Hid (grpG (dimsA ax) k false R L M ((j * M + a) * L + b) = (gatL (lineL (dimsA ax) k j) (rowL v1 u2 R), rowL u3 1 R, gatL (lineL (dimsA ax) k j) (rowL v2 L R))) := Lib.hid (by
                rw [grpG_stage _ _ _ hla hlb]
                unfold grpS
                rw [hnum.f1, hnum.e2, hnum.e3, hnum.f2])
              have HQ1 : Hid (∀ v ∈ rowL v1 u2 R, 0 ≤ v ∧ v < N) := Lib.hid (rowL_in fun t ht => by rw [hnum.f1, hnum.e2]; exact HAX.out.q_in hla hlb ht)
              have HQ2 : Hid (∀ v ∈ rowL v2 L R, 0 ≤ v ∧ v < N) := Lib.hid (rowL_in fun t ht => by rw [hnum.f2]; exact HAX.out.q_out hla hlb ht)
              have HGI : Hid ((j * M + a) * L + b < K * M * L) := Lib.hid (digit_lt2 (digit_lt2 hlt hla) hlb)
              clear hnum
              have hd0 := HT.out.kp HI5.out ((Below.refl _ _).drew)
              have HID := Lib.hid (HT.out.fresh _ _ wr.drew HI5.out ((Below.refl _ _).drew)).1
              have HKD := Lib.hid (HK5.out.trans hd0)
              have HXD := Lib.hid ((HX4.out.kp HK5.out).kp hd0)
              have HYD := Lib.hid (((HY3.out.kp HK4.out).kp HK5.out).kp hd0)
              clear hd0
              go_wp2
              refine region_marks2 (k := 52) (S := (fun w' => w'.cell? ⟨w.heap.size, 0, none⟩ = some (.int .i64 (k : Int)) ∧ w'.cell? ⟨w.heap.size, 1, none⟩ = some (.bool false) ∧ w'.cell? ⟨w.heap.size, 2, none⟩ = some (.int .i64 (R : Int)) ∧ w'.cell? ⟨w.heap.size, 3, none⟩ = some (.int .i64 (L : Int)) ∧ w'.cell? ⟨w.heap.size, 4, none⟩ = some (.int .i64 (M : Int)))) (T := fun _ => true) HMX.out rfl (box_cells HXD.out) (fun hS => ?_)
              clear HI5
              generalize wr.drew = wD at *
              refine wpAnyT_take3 (i := 0) (v := ?_) rfl (by kernel_rfl) (by kernel_rfl) (by kernel_rfl) (by kernel_rfl) (by kernel_rfl) (fun _ _ _ h => h) hS (Or.inl ⟨by rfl, ?_⟩) ?_
              rotate_left
              · (intro w' hSw; (try dsimp only at hSw); go_simp; (try with_reducible rfl))
              (try simp only [Act.put, List.setIfInBounds_toArray, List.set_cons_zero, List.set_cons_succ])
              refine wpAnyT_take3 (i := 1) (v := ?_) rfl (by kernel_rfl) (by kernel_rfl) (by kernel_rfl) (by kernel_rfl) (by kernel_rfl) (fun _ _ _ h => h) hS (Or.inl ⟨by rfl, ?_⟩) ?_
              rotate_left
              · (intro w' hSw; (try dsimp only at hSw); go_simp; (try with_reducible rfl))
              (try simp only [Act.put, List.setIfInBounds_toArray, List.set_cons_zero, List.set_cons_succ])
              refine wpAnyT_take3 (i := 2) (v := ?_) rfl (by kernel_rfl) (by kernel_rfl) (by kernel_rfl) (by kernel_rfl) (by kernel_rfl) (fun _ _ _ h => h) hS (Or.inl ⟨by rfl, ?_⟩) ?_
              rotate_left
              · (intro w' hSw; (try dsimp only at hSw); go_simp; (try with_reducible rfl))
              (try simp only [Act.put, List.setIfInBounds_toArray, List.set_cons_zero, List.set_cons_succ])
              refine wpAnyT_take3 (i := 3) (v := ?_) rfl (by kernel_rfl) (by kernel_rfl) (by kernel_rfl) (by kernel_rfl) (by kernel_rfl) (fun _ _ _ h => h) hS (Or.inl ⟨by rfl, ?_⟩) ?_
              rotate_left
              · (intro w' hSw; (try dsimp only at hSw); go_simp; (try with_reducible rfl))
              (try simp only [Act.put, List.setIfInBounds_toArray, List.set_cons_zero, List.set_cons_succ])
              refine wpAnyT_take3 (i := 4) (v := ?_) rfl (by kernel_rfl) (by kernel_rfl) (by kernel_rfl) (by kernel_rfl) (by kernel_rfl) (fun _ _ _ h => h) hS (Or.inl ⟨by rfl, ?_⟩) ?_
              rotate_left
              · (intro w' hSw; (try dsimp only at hSw); go_simp; (try with_reducible rfl))
              (try simp only [Act.put, List.setIfInBounds_toArray, List.set_cons_zero, List.set_cons_succ])
              refine wpAnyT_take3 (i := 5) (v := ?_) rfl (by kernel_rfl) (by kernel_rfl) (by kernel_rfl) (by kernel_rfl) (by kernel_rfl) (fun _ _ _ h => h) hS (Or.inl ⟨by rfl, ?_⟩) ?_
              rotate_left
              · (intro w' hSw; (try dsimp only at hSw); go_simp; (try with_reducible rfl))
              (try simp only [Act.put, List.setIfInBounds_toArray, List.set_cons_zero, List.set_cons_succ])
              refine wpAnyT_take3 (i := 6) (v := ?_) rfl (by kernel_rfl) (by kernel_rfl) (by kernel_rfl) (by kernel_rfl) (by kernel_rfl) (fun _ _ _ h => h) hS (Or.inl ⟨by rfl, ?_⟩) ?_
              rotate_left
              · (intro w' hSw; (try dsimp only at hSw); go_simp; (try with_reducible rfl))
              (try simp only [Act.put, List.setIfInBounds_toArray, List.set_cons_zero, List.set_cons_succ])
              refine wpAnyT_take3 (i := 7) (v := ?_) rfl (by kernel_rfl) (by kernel_rfl) (by kernel_rfl) (by kernel_rfl) (by kernel_rfl) (fun _ _ _ h => h) hS (Or.inl ⟨by rfl, ?_⟩) ?_
              rotate_left
              · (intro w' hSw; (try dsimp only at hSw); go_simp; (try with_reducible rfl))
              (try simp only [Act.put, List.setIfInBounds_toArray, List.set_cons_zero, List.set_cons_succ])
              refine wpAnyT_take3 (i := 8) (v := ?_) rfl (by kernel_rfl) (by kernel_rfl) (by kernel_rfl) (by kernel_rfl) (by kernel_rfl) (fun _ _ _ h => h) hS (Or.inl ⟨by rfl, ?_⟩) ?_
              rotate_left
              · (intro w' hSw; (try dsimp only at hSw); go_simp; (try with_reducible rfl))
              (try simp only [Act.put, List.setIfInBounds_toArray, List.set_cons_zero, List.set_cons_succ])
              refine wpAnyT_take3 (i := 9) (v := ?_) rfl (by kernel_rfl) (by kernel_rfl) (by kernel_rfl) (by kernel_rfl) (by kernel_rfl) (fun _ _ _ h => h) hS (Or.inl ⟨by rfl, ?_⟩) ?_
              rotate_left
              · (intro w' hSw; (try dsimp only at hSw); go_simp; (try with_reducible rfl))
              (try simp only [Act.put, List.setIfInBounds_toArray, List.set_cons_zero, List.set_cons_succ])
              refine wpAnyT_take3 (i := 10) (v := ?_) rfl (by kernel_rfl) (by kernel_rfl) (by kernel_rfl) (by kernel_rfl) (by kernel_rfl) (fun _ _ _ h => h) hS (Or.inl ⟨by rfl, ?_⟩) ?_
              rotate_left
              · (intro w' hSw; (try dsimp only at hSw); go_simp; (try with_reducible rfl))
              (try simp only [Act.put, List.setIfInBounds_toArray, List.set_cons_zero, List.set_cons_succ])
              refine wpAnyT_take3 (i := 11) (v := ?_) rfl (by kernel_rfl) (by kernel_rfl) (by kernel_rfl) (by kernel_rfl) (by kernel_rfl) (fun _ _ _ h => h) hS (Or.inl ⟨by rfl, ?_⟩) ?_
              rotate_left
              · (intro w' hSw; (try dsimp only at hSw); go_simp; (try with_reducible rfl))
              (try simp only [Act.put, List.setIfInBounds_toArray, List.set_cons_zero, List.set_cons_succ])
              refine wpAnyT_take3 (i := 12) (v := ?_) rfl (by kernel_rfl) (by kernel_rfl) (by kernel_rfl) (by kernel_rfl) (by kernel_rfl) (fun _ _ _ h => h) hS (Or.inl ⟨by rfl, ?_⟩) ?_
              rotate_left
              · (intro w' hSw; (try dsimp only at hSw); go_simp; (try with_reducible rfl))
              (try simp only [Act.put, List.setIfInBounds_toArray, List.set_cons_zero, List.set_cons_succ])
              refine wpAnyT_take3 (i := 13) (v := ?_) rfl (by kernel_rfl) (by kernel_rfl) (by kernel_rfl) (by kernel_rfl) (by kernel_rfl) (fun _ _ _ h => h) hS (Or.inl ⟨by rfl, ?_⟩) ?_
              rotate_left
              · (intro w' hSw; (try dsimp only at hSw); go_simp; (try with_reducible rfl))
              (try simp only [Act.put, List.setIfInBounds_toArray, List.set_cons_zero, List.set_cons_succ])
              refine wpAnyT_take3 (i := 14) (v := ?_) rfl (by kernel_rfl) (by kernel_rfl) (by kernel_rfl) (by kernel_rfl) (by kernel_rfl) (fun _ _ _ h => h) hS (Or.inl ⟨by rfl, ?_⟩) ?_
              rotate_left
              · (intro w' hSw; (try dsimp only at hSw); go_simp; (try with_reducible rfl))
              (try simp only [Act.put, List.setIfInBounds_toArray, List.set_cons_zero, List.set_cons_succ])
              refine wpAnyT_take3 (i := 15) (v := ?_) rfl (by kernel_rfl) (by kernel_rfl) (by kernel_rfl) (by kernel_rfl) (by kernel_rfl) (fun _ _ _ h => h) hS (Or.inl ⟨by rfl, ?_⟩) ?_
              rotate_left
              · (intro w' hSw; (try dsimp only at hSw); go_simp; (try with_reducible rfl))
              (try simp only [Act.put, List.setIfInBounds_toArray, List.set_cons_zero, List.set_cons_succ])
              refine wpAnyT_take3 (i := 16) (v := ?_) rfl (by kernel_rfl) (by kernel_rfl) (by kernel_rfl) (by kernel_rfl) (by kernel_rfl) (fun _ _ _ h => h) hS (Or.inl ⟨by rfl, ?_⟩) ?_
              rotate_left
              · (intro w' hSw; (try dsimp only at hSw); go_simp; (try with_reducible rfl))
              (try simp only [Act.put, List.setIfInBounds_toArray, List.set_cons_zero, List.set_cons_succ])
              refine wpAnyT_take3 (i := 17) (v := ?_) rfl (by kernel_rfl) (by kernel_rfl) (by kernel_rfl) (by kernel_rfl) (by kernel_rfl) (fun _ _ _ h => h) hS (Or.inl ⟨by rfl, ?_⟩) ?_
              rotate_left
              · (intro w' hSw; (try dsimp only at hSw); go_simp; (try with_reducible rfl))
              (try simp only [Act.put, List.setIfInBounds_toArray, List.set_cons_zero, List.set_cons_succ])
              refine wpAnyT_take3 (i := 18) (v := ?_) rfl (by kernel_rfl) (by kernel_rfl) (by kernel_rfl) (by kernel_rfl) (by kernel_rfl) (fun _ _ _ h => h) hS (Or.inl ⟨by rfl, ?_⟩) ?_
              rotate_left
              · (intro w' hSw; (try dsimp only at hSw); go_simp; (try with_reducible rfl))
              (try simp only [Act.put, List.setIfInBounds_toArray, List.set_cons_zero, List.set_cons_succ])
              refine wpAnyT_take3 (i := 21) (v := ?_) rfl (by kernel_rfl) (by kernel_rfl) (by kernel_rfl) (by kernel_rfl) (by kernel_rfl) (fun _ _ _ h => h) hS (Or.inl ⟨by rfl, ?_⟩) ?_
              rotate_left
              · (intro w' hSw; (try dsimp only at hSw); go_simp; (try with_reducible rfl))
              (try simp only [Act.put, List.setIfInBounds_toArray, List.set_cons_zero, List.set_cons_succ])
              refine wpAnyT_take3 (i := 22) (v := ?_) rfl (by kernel_rfl) (by kernel_rfl) (by kernel_rfl) (by kernel_rfl) (by kernel_rfl) (fun _ _ _ h => h) hS (Or.inl ⟨by rfl, ?_⟩) ?_
              rotate_left
              · (intro w' hSw; (try dsimp only at hSw); go_simp; (try with_reducible rfl))
              (try simp only [Act.put, List.setIfInBounds_toArray, List.set_cons_zero, List.set_cons_succ])
              refine wpAnyT_take3 (i := 23) (v := ?_) rfl (by kernel_rfl) (by kernel_rfl) (by kernel_rfl) (by kernel_rfl) (by kernel_rfl) (fun _ _ _ h => h) hS (Or.inl ⟨by rfl, ?_⟩) ?_
              rotate_left
              · (intro w' hSw; (try dsimp only at hSw); go_simp; (try with_reducible rfl))
              (try simp only [Act.put, List.setIfInBounds_toArray, List.set_cons_zero, List.set_cons_succ])
              refine wpAnyT_take3 (i := 24) (v := ?_) rfl (by kernel_rfl) (by kernel_rfl) (by kernel_rfl) (by kernel_rfl) (by kernel_rfl) (fun _ _ _ h => h) hS (Or.inl ⟨by rfl, ?_⟩) ?_
              rotate_left
              · (intro w' hSw; (try dsimp only at hSw); go_simp; (try with_reducible rfl))
              (try simp only [Act.put, List.setIfInBounds_toArray, List.set_cons_zero, List.set_cons_succ])
              refine wpAnyT_take3 (i := 25) (v := ?_) rfl (by kernel_rfl) (by kernel_rfl) (by kernel_rfl) (by kernel_rfl) (by kernel_rfl) (fun _ _ _ h => h) hS (Or.inl ⟨by rfl, ?_⟩) ?_
              rotate_left
              · (intro w' hSw; (try dsimp only at hSw); go_simp; (try with_reducible rfl))
              (try simp only [Act.put, List.setIfInBounds_toArray, List.set_cons_zero, List.set_cons_succ])
              refine wpAnyT_take3 (i := 26) (v := ?_) rfl (by kernel_rfl) (by kernel_rfl) (by kernel_rfl) (by kernel_rfl) (by kernel_rfl) (fun _ _ _ h => h) hS (Or.inl ⟨by rfl, ?_⟩) ?_
              rotate_left
              · (intro w' hSw; (try dsimp only at hSw); go_simp; (try with_reducible rfl))
              (try simp only [Act.put, List.setIfInBounds_toArray, List.set_cons_zero, List.set_cons_succ])
              refine wpAnyT_take3 (i := 27) (v := ?_) rfl (by kernel_rfl) (by kernel_rfl) (by kernel_rfl) (by kernel_rfl) (by kernel_rfl) (fun _ _ _ h => h) hS (Or.inl ⟨by rfl, ?_⟩) ?_
              rotate_left
              · (intro w' hSw; (try dsimp only at hSw); go_simp; (try with_reducible rfl))
              (try simp only [Act.put, List.setIfInBounds_toArray, List.set_cons_zero, List.set_cons_succ])
              refine wpAnyT_take3 (i := 28) (v := ?_) rfl (by kernel_rfl) (by kernel_rfl) (by kernel_rfl) (by kernel_rfl) (by kernel_rfl) (fun _ _ _ h => h) hS (Or.inl ⟨by rfl, ?_⟩) ?_
              rotate_left
              · (intro w' hSw; (try dsimp only at hSw); go_simp; (try with_reducible rfl))
              (try simp only [Act.put, List.setIfInBounds_toArray, List.set_cons_zero, List.set_cons_succ])
              refine wpAnyT_take3 (i := 30) (v := ?_) rfl (by kernel_rfl) (by kernel_rfl) (by kernel_rfl) (by kernel_rfl) (by kernel_rfl) (fun _ _ _ h => h) hS (Or.inl ⟨by rfl, ?_⟩) ?_
              rotate_left
              · (intro w' hSw; (try dsimp only at hSw); go_simp; (try with_reducible rfl))
              (try simp only [Act.put, List.setIfInBounds_toArray, List.set_cons_zero, List.set_cons_succ])
              refine wpAnyT_take3 (i := 31) (v := ?_) rfl (by kernel_rfl) (by kernel_rfl) (by kernel_rfl) (by kernel_rfl) (by kernel_rfl) (fun _ _ _ h => h) hS (Or.inl ⟨by rfl, ?_⟩) ?_
              rotate_left
              · (intro w' hSw; (try dsimp only at hSw); go_simp; (try with_reducible rfl))
              (try simp only [Act.put, List.setIfInBounds_toArray, List.set_cons_zero, List.set_cons_succ])
              refine wpAnyT_take3 (i := 32) (v := ?_) rfl (by kernel_rfl) (by kernel_rfl) (by kernel_rfl) (by kernel_rfl) (by kernel_rfl) (fun _ _ _ h => h) hS (Or.inl ⟨by rfl, ?_⟩) ?_
              rotate_left
              · (intro w' hSw; (try dsimp only at hSw); go_simp; (try with_reducible rfl))
              (try simp only [Act.put, List.setIfInBounds_toArray, List.set_cons_zero, List.set_cons_succ])
              refine wpAnyT_take3 (i := 33) (v := ?_) rfl (by kernel_rfl) (by kernel_rfl) (by kernel_rfl) (by kernel_rfl) (by kernel_rfl) (fun _ _ _ h => h) hS (Or.inl ⟨by rfl, ?_⟩) ?_
              rotate_left
              · (intro w' hSw; (try dsimp only at hSw); go_simp; (try with_reducible rfl))
              (try simp only [Act.put, List.setIfInBounds_toArray, List.set_cons_zero, List.set_cons_succ])
              refine wpAnyT_take3 (i := 34) (v := ?_) rfl (by kernel_rfl) (by kernel_rfl) (by kernel_rfl) (by kernel_rfl) (by kernel_rfl) (fun _ _ _ h => h) hS (Or.inl ⟨by rfl, ?_⟩) ?_
              rotate_left
              · (intro w' hSw; (try dsimp only at hSw); go_simp; (try with_reducible rfl))
              (try simp only [Act.put, List.setIfInBounds_toArray, List.set_cons_zero, List.set_cons_succ])
              refine wpAnyT_take3 (i := 35) (v := ?_) rfl (by kernel_rfl) (by kernel_rfl) (by kernel_rfl) (by kernel_rfl) (by kernel_rfl) (fun _ _ _ h => h) hS (Or.inl ⟨by rfl, ?_⟩) ?_
              rotate_left
              · (intro w' hSw; (try dsimp only at hSw); go_simp; (try with_reducible rfl))
              (try simp only [Act.put, List.setIfInBounds_toArray, List.set_cons_zero, List.set_cons_succ])
              refine wpAnyT_take3 (i := 36) (v := ?_) rfl (by kernel_rfl) (by kernel_rfl) (by kernel_rfl) (by kernel_rfl) (by kernel_rfl) (fun _ _ _ h => h) hS (Or.inl ⟨by rfl, ?_⟩) ?_
              rotate_left
              · (intro w' hSw; (try dsimp only at hSw); go_simp; (try with_reducible rfl))
              (try simp only [Act.put, List.setIfInBounds_toArray, List.set_cons_zero, List.set_cons_succ])
              refine wpAnyT_take3 (i := 37) (v := ?_) rfl (by kernel_rfl) (by kernel_rfl) (by kernel_rfl) (by kernel_rfl) (by kernel_rfl) (fun _ _ _ h => h) hS (Or.inl ⟨by rfl, ?_⟩) ?_
              rotate_left
              · (intro w' hSw; (try dsimp only at hSw); go_simp; (try with_reducible rfl))
              (try simp only [Act.put, List.setIfInBounds_toArray, List.set_cons_zero, List.set_cons_succ])
              refine wpAnyT_take3 (i := 38) (v := ?_) rfl (by kernel_rfl) (by kernel_rfl) (by kernel_rfl) (by kernel_rfl) (by kernel_rfl) (fun _ _ _ h => h) hS (Or.inl ⟨by rfl, ?_⟩) ?_
              rotate_left
              · (intro w' hSw; (try dsimp only at hSw); go_simp; (try with_reducible rfl))
              (try simp only [Act.put, List.setIfInBounds_toArray, List.set_cons_zero, List.set_cons_succ])
              refine wpAnyT_take3 (i := 39) (v := ?_) rfl (by kernel_rfl) (by kernel_rfl) (by kernel_rfl) (by kernel_rfl) (by kernel_rfl) (fun _ _ _ h => h) hS (Or.inl ⟨by rfl, ?_⟩) ?_
              rotate_left
              · (intro w' hSw; (try dsimp only at hSw); go_simp; (try with_reducible rfl))
              (try simp only [Act.put, List.setIfInBounds_toArray, List.set_cons_zero, List.set_cons_succ])
              refine wpAnyT_take3 (i := 40) (v := ?_) rfl (by kernel_rfl) (by kernel_rfl) (by kernel_rfl) (by kernel_rfl) (by kernel_rfl) (fun _ _ _ h => h) hS (Or.inl ⟨by rfl, ?_⟩) ?_
              rotate_left
              · (intro w' hSw; (try dsimp only at hSw); go_simp; (try with_reducible rfl))
              (try simp only [Act.put, List.setIfInBounds_toArray, List.set_cons_zero, List.set_cons_succ])
              refine wpAnyT_take3 (i := 41) (v := ?_) rfl (by kernel_rfl) (by kernel_rfl) (by kernel_rfl) (by kernel_rfl) (by kernel_rfl) (fun _ _ _ h => h) hS (Or.inl ⟨by rfl, ?_⟩) ?_
              rotate_left
              · (intro w' hSw; (try dsimp only at hSw); go_simp; (try with_reducible rfl))
              (try simp only [Act.put, List.setIfInBounds_toArray, List.set_cons_zero, List.set_cons_succ])
              refine wpAnyT_take3 (i := 42) (v := ?_) rfl (by kernel_rfl) (by kernel_rfl) (by kernel_rfl) (by kernel_rfl) (by kernel_rfl) (fun _ _ _ h => h) hS (Or.inl ⟨by rfl, ?_⟩) ?_
              rotate_left
              · (intro w' hSw; (try dsimp only at hSw); go_simp; (try with_reducible rfl))
              (try simp only [Act.put, List.setIfInBounds_toArray, List.set_cons_zero, List.set_cons_succ])
              refine wpAnyT_take3 (i := 43) (v := ?_) rfl (by kernel_rfl) (by kernel_rfl) (by kernel_rfl) (by kernel_rfl) (by kernel_rfl) (fun _ _ _ h => h) hS (Or.inl ⟨by rfl, ?_⟩) ?_
              rotate_left
              · (intro w' hSw; (try dsimp only at hSw); go_simp; (try with_reducible rfl))
              (try simp only [Act.put, List.setIfInBounds_toArray, List.set_cons_zero, List.set_cons_succ])
              refine wpAnyT_take3 (i := 44) (v := ?_) rfl (by kernel_rfl) (by kernel_rfl) (by kernel_rfl) (by kernel_rfl) (by kernel_rfl) (fun _ _ _ h => h) hS (Or.inl ⟨by rfl, ?_⟩) ?_
              rotate_left
              · (intro w' hSw; (try dsimp only at hSw); go_simp; (try with_reducible rfl))
              (try simp only [Act.put, List.setIfInBounds_toArray, List.set_cons_zero, List.set_cons_succ])
              refine wpAnyT_take3 (i := 45) (v := ?_) rfl (by kernel_rfl) (by kernel_rfl) (by kernel_rfl) (by kernel_rfl) (by kernel_rfl) (fun _ _ _ h => h) hS (Or.inl ⟨by rfl, ?_⟩) ?_
              rotate_left
              · (intro w' hSw; (try dsimp only at hSw); go_simp; (try with_reducible rfl))
              (try simp only [Act.put, List.setIfInBounds_toArray, List.set_cons_zero, List.set_cons_succ])
              refine wpAnyT_take3 (i := 46) (v := ?_) rfl (by kernel_rfl) (by kernel_rfl) (by kernel_rfl) (by kernel_rfl) (by kernel_rfl) (fun _ _ _ h => h) hS (Or.inl ⟨by rfl, ?_⟩) ?_
              rotate_left
              · (intro w' hSw; (try dsimp only at hSw); go_simp; (try with_reducible rfl))
              (try simp only [Act.put, List.setIfInBounds_toArray, List.set_cons_zero, List.set_cons_succ])
              refine wpAnyT_take3 (i := 47) (v := ?_) rfl (by kernel_rfl) (by kernel_rfl) (by kernel_rfl) (by kernel_rfl) (by kernel_rfl) (fun _ _ _ h => h) hS (Or.inl ⟨by rfl, ?_⟩) ?_
              rotate_left
              · (intro w' hSw; (try dsimp only at hSw); go_simp; (try with_reducible rfl))
              (try simp only [Act.put, List.setIfInBounds_toArray, List.set_cons_zero, List.set_cons_succ])
              refine wpAnyT_one (i := 19) (by kernel_rfl) rfl (fun K hK => ?_)
              go_simp
              refine (srow_calls v1 u2 R wD HNUM.out.s1 HNUM.out.s2 HR5.out).mono ?_
              rintro e w6 ⟨R1, rfl, ho, hb⟩
              have hkp := HT.out.kp HID.out hb
              have HI6 := Lib.hid (HT.out.fresh _ _ _ HID.out hb).1
              have HK6 := Lib.hid (HKD.out.trans hkp)
              have HX6 := Lib.hid (HXD.out.kp hkp)
              have HY6 := Lib.hid (HYD.out.kp hkp)
              have HA6 := Lib.hid (HT.out.own HID.out hb ho)
              clear ho hb hkp
              refine hK _ _ (fun _ => box_cells HX6.out) ?_
              clear hK K
              (try simp only [Act.put, List.setIfInBounds_toArray, List.set_cons_zero, List.set_cons_succ])
              clear hS
              have hS := box_cells HX6.out
              refine wpAnyT_one (i := 20) (by kernel_rfl) rfl (fun K hK => ?_)
              go_simp
              refine (spicked_calls La lc N (lineL (dimsA ax) k j) R1 R R (rowL v1 u2 R) w6 HL2.out (rowL_length _ _ _) HY6.out.row HA6.out.row HR5.out HN4.out HQ1.out).mono ?_
              rintro e w7 ⟨P1, rfl, ho, hb⟩
              have hkp := HT.out.kp HI6.out hb
              have HI7 := Lib.hid (HT.out.fresh _ _ _ HI6.out hb).1
              have HK7 := Lib.hid (HK6.out.trans hkp)
              have HX7 := Lib.hid (HX6.out.kp hkp)
              have HY7 := Lib.hid (HY6.out.kp hkp)
              have HB7 := Lib.hid (HT.out.own HI6.out hb ho)
              clear ho hb hkp
              refine hK _ _ (fun _ => box_cells HX7.out) ?_
              clear hK K
              (try simp only [Act.put, List.setIfInBounds_toArray, List.set_cons_zero, List.set_cons_succ])
              clear hS
              have hS := box_cells HX7.out
              refine wpAnyT_one (i := 29) (by kernel_rfl) rfl (fun K hK => ?_)
              go_simp
              refine (srow_calls u3 1 R w7 HNUM.out.s3 (by decide) HR5.out).mono ?_
              rintro e w8 ⟨F1, rfl, ho, hb⟩
              have hkp := HT.out.kp HI7.out hb
              have HI8 := Lib.hid (HT.out.fresh _ _ _ HI7.out hb).1
              have HK8 := Lib.hid (HK7.out.trans hkp)
              have HX8 := Lib.hid (HX7.out.kp hkp)
              have HY8 := Lib.hid (HY7.out.kp hkp)
              have HB8 := Lib.hid (HB7.out.kp hkp)
              have HF8 := Lib.hid (HT.out.own HI7.out hb ho)
              clear ho hb hkp
              refine hK _ _ (fun _ => box_cells HX8.out) ?_
              clear hK K
              (try simp only [Act.put, List.setIfInBounds_toArray, List.set_cons_zero, List.set_cons_succ])
              clear hS
              have hS := box_cells HX8.out
              refine wpAnyT_one (i := 48) (by kernel_rfl) rfl (fun K hK => ?_)
              go_simp
              refine (srow_calls v2 L R w8 HNUM.out.s5 (by omega) HR5.out).mono ?_
              rintro e w9 ⟨R2, rfl, ho, hb⟩
              have hkp := HT.out.kp HI8.out hb
              have HI9 := Lib.hid (HT.out.fresh _ _ _ HI8.out hb).1
              have HK9 := Lib.hid (HK8.out.trans hkp)
              have HX9 := Lib.hid (HX8.out.kp hkp)
              have HY9 := Lib.hid (HY8.out.kp hkp)
              have HB9 := Lib.hid (HB8.out.kp hkp)
              have HF9 := Lib.hid (HF8.out.kp hkp)
              have HA9 := Lib.hid (HT.out.own HI8.out hb ho)
              clear ho hb hkp
              refine hK _ _ (fun _ => box_cells HX9.out) ?_
              clear hK K
              (try simp only [Act.put, List.setIfInBounds_toArray, List.set_cons_zero, List.set_cons_succ])
              clear hS
              have hS := box_cells HX9.out
              refine wpAnyT_one (i := 49) (by kernel_rfl) rfl (fun K hK => ?_)
              go_simp
              refine (spicked_calls La lc N (lineL (dimsA ax) k j) R2 R R (rowL v2 L R) w9 HL2.out (rowL_length _ _ _) HY9.out.row HA9.out.row HR5.out HN4.out HQ2.out).mono ?_
              rintro e w10 ⟨P2, rfl, ho, hb⟩
              have hkp := HT.out.kp HI9.out hb
              have HI10 := Lib.hid (HT.out.fresh _ _ _ HI9.out hb).1
              have HK10 := Lib.hid (HK9.out.trans hkp)
              have HX10 := Lib.hid (HX9.out.kp hkp)
              have HY10 := Lib.hid (HY9.out.kp hkp)
              have HB10 := Lib.hid (HB9.out.kp hkp)
              have HF10 := Lib.hid (HF9.out.kp hkp)
              have HO10 := Lib.hid (HT.out.own HI9.out hb ho)
              clear ho hb hkp
              refine hK _ _ (fun _ => box_cells HX10.out) ?_
              clear hK K
              (try simp only [Act.put, List.setIfInBounds_toArray, List.set_cons_zero, List.set_cons_succ])
              clear hS
              have hS := box_cells HX10.out
              refine wpAnyT_take3 (i := 50) (v := ?_) rfl (by kernel_rfl) (by kernel_rfl) (by kernel_rfl) (by kernel_rfl) (by kernel_rfl) (fun _ _ _ h => h) hS (Or.inl ⟨by rfl, ?_⟩) ?_
              rotate_left
              · (intro w' hSw; (try dsimp only at hSw); go_simp; (try with_reducible rfl))
              (try simp only [Act.put, List.setIfInBounds_toArray, List.set_cons_zero, List.set_cons_succ])
              refine wpAnyT_one (i := 51) (by kernel_rfl) rfl (fun K hK => ?_)
              go_simp
              refine (HTO.out _ HGI.out w10 P1 F1 P2 R R R HI10.out (by rw [HG.out]; exact HB10.out) (by rw [HG.out]; exact HF10.out) (by rw [HG.out]; exact HO10.out)).mono ?_
              rintro e w11 ⟨rfl, hi11, hk11⟩
              have HI11 := Lib.hid hi11
              have HX11 := Lib.hid (HX10.out.kp hk11)
              have HK11 := Lib.hid (HK10.out.trans hk11)
              clear hi11 hk11
              refine hK _ _ (fun _ => box_cells HX11.out) ?_
              clear hK K
              (try simp only [Act.put, List.setIfInBounds_toArray, List.set_cons_zero, List.set_cons_succ])
              refine wpAnyT_done (by kernel_rfl) ?_ _
              refine NoPanic.normal ?_
              clear hS o1 o2 o3 o4 o5 p1 p2
              go_wp2
              go_roundw
              case rel => exact ⟨b + 1, by omega, by go_num, HI11, HK11⟩
              case measure => simp [intOf]; omega
            · have hbe : b = L := by omega
              have HI6 : Hid (Inv ((j * M + (a + 1)) * L) wr) := Lib.hid (by
                have h1 := HI5.out
                rw [hbe, ← Nat.succ_mul] at h1
                exact h1)
              have HK6 := Lib.hid (HK4.out.trans HK5.out)
              clear hbe
              go_wp2
              subst hQ2
              go_wp2
              go_roundw
              case rel => exact ⟨a + 1, by omega, by go_num, HI6, HK6⟩
              case measure => simp [intOf]; omega
        · have hae : a = M := by omega
          have HI6 : Hid (Inv ((j + 1) * M * L) wr) := Lib.hid (by
            have h1 := HI4.out
            rw [hae, ← Nat.succ_mul] at h1
            exact h1)
          have HK6 := Lib.hid (HK3.out.trans HK4.out)
          clear hae
          go_wp2
          subst hQ
          go_wp2
          go_roundw
          case rel => exact ⟨j + 1, by omega, by go_num, HI6, HK6⟩
          case measure => simp [intOf]; omega
    · have hje : j = K := by omega
      have HIE : Hid (Inv (K * M * L) wr) := Lib.hid (by rw [← hje]; exact HI2.out)
      clear hje
      go_wp2
      go_ret
      exact ⟨rfl, HIE.out, HK1.out.trans HK2.out⟩
end Go.Proofs.YtohcoidbncbijaaDoor.P
/- step.each, told to step.Do's closure: all words are done. Conditions: the step may be; the rows lie where the words that come of it don't. -/
namespace Go.Proofs.YtohcoidbncbijaaDoor.P
open Go.RowKit
set_option linter.unusedVariables false
abbrev MineB (og : Nat) : World → Nat → Prop := fun _ b => b = og
theorem RowM.rowX {og : Nat} {w : World} {A : Option Addr} {cs : List Value} (h : RowM (MineB og) w A cs) (hne : cs ≠ []) : RowX og w A cs := by
  rcases h with h0 | ⟨x, hx, hm, hc⟩
  · exact absurd h0 hne
  · exact ⟨.inr ⟨x, hx, hc⟩, fun y hy => by rw [hx] at hy; cases hy; exact hm⟩
theorem RowX.rowM {og : Nat} {w : World} {A : Option Addr} {cs : List Value} (h : RowX og w A cs) : RowM (MineB og) w A cs := RowM.of h.1 h.2
theorem Grown.kp {og : Nat} {a b : World} (h : Grown og a b) : Kp (MineB og) a b :=
  ⟨h.size, fun k hk hm => ⟨h.block k hk (fun e => hm (Option.some.inj e)), hm⟩⟩
def InvD (og : Nat) (V : World) (m : Nat) (y : List Int) (G : Nat → Nat) (g : Nat) (ws : World) : Prop := Grown og V ws ∧ Own ws og 22 1 (some ⟨og, 0, none⟩) m m (nums .u64 (outN y G g))
theorem tellsD (og : Nat) (V : World) (m : Nat) (y : List Int) (G : Nat → Nat) : Tells (InvD og V m y G) (MineB og) :=
  ⟨fun g w b hi hb => by have h1 := (Own.base hi.2).2; rw [show b = og from hb]; exact h1,
   fun g w w' hi hb => ⟨⟨hi.1.below hb, hi.2.grown hb⟩, fun b h => h⟩⟩
theorem tabL_len {p : Int} {ax : List (Int × Bool)} {s : Stp} {k N : Nat} {neg : Bool} (hK : StepK p ax s k N neg) (inv : Bool) : (tabL p N neg inv s).length ≤ N := by
  rcases hK.kind with ⟨h1, _⟩ | ⟨h1, h2⟩
  · unfold tabL; rw [if_pos h1]; simp
  · obtain ⟨R, L, M, hs, hS⟩ := stg_mem hK.c6.smooth h2
    unfold tabL
    rw [if_neg (by rw [h1]; decide), hs]
    simp only [List.length_map, List.length_range, Int.toNat_natCast]
    have := hS.rm
    rw [Nat.mul_comm] at this
    exact this
theorem tabL_u64 (p : Int) (N : Nat) (neg inv : Bool) (s : Stp) : ∀ d ∈ tabL p N neg inv s, U64 d := by
  intro d hd
  unfold tabL at hd
  split at hd
  · simp only [List.mem_map] at hd
    obtain ⟨j, _, rfl⟩ := hd
    unfold twF
    split
    · exact u64_mulS _ _ _
    · exact u64_powS _ _ _
  · simp only [List.mem_map] at hd
    obtain ⟨j, _, rfl⟩ := hd
    exact u64_powS _ _ _
theorem do1_cf (args : Array Value) (w : World) : (callFunc 77 args).run Tryd.prog w = .ok (.enter 77 args) w := by kernel_rfl
theorem each_do (p : Int) (A : Option Addr) (c n : Nat) (ax : List (Int × Bool)) (inv : Bool) (k : Nat) (s1 : Bool) (s2 s3 s4 : Int) (N : Nat) (neg : Bool) (X : Option Addr) (cx m : Nat) (x : List Int) (T : Option Addr) (tl tc : Nat) (og bx bs bp bi bb bt bo : Nat) (V : World)
    (hK : StepK p ax ((k : Int), s1, s2, s3, s4) k N neg) (hn : ax.length = n) (hl : n ≤ 8796093022208) (hw : ∀ a ∈ ax, i64 a.1) (hm : x.length = m) (hpx : prodL (dimsA ax) = x.length) (hin : inS p x = true) (hux : ∀ d ∈ x, U64 d) (hp : U64 p)
    (htl : (tabL p N neg inv ((k : Int), s1, s2, s3, s4)).length = tl)
    (hr : RowX og V A (axR ax)) (hrX : RowX og V X (nums .u64 x)) (hrT : RowX og V T (nums .u64 (tabL p N neg inv ((k : Int), s1, s2, s3, s4))))
    (hbx : RowX og V (some ⟨bx, 0, none⟩) [.slice X m cx]) (hbs : RowX og V (some ⟨bs, 0, none⟩) [.int .i64 (k : Int), .bool s1, .int .i64 s2, .int .i64 s3, .int .i64 s4]) (hbp : RowX og V (some ⟨bp, 0, none⟩) [.int .u64 p]) (hbi : RowX og V (some ⟨bi, 0, none⟩) [.bool inv])
    (hbt : RowX og V (some ⟨bt, 0, none⟩) [.slice T tl tc]) (hbo : RowX og V (some ⟨bo, 0, none⟩) [.slice (some ⟨og, 0, none⟩) m m]) (hown : Own V og 22 1 (some ⟨og, 0, none⟩) m m (nums .u64 (List.replicate m 0))) :
    Calls Tryd.prog 76 #[.slice A n c, .agg #[.int .i64 (k : Int), .bool s1, .int .i64 s2, .int .i64 s3, .int .i64 s4], .func (.func 77) #[] #[.pointer (some ⟨bx, 0, none⟩), .pointer (some ⟨bs, 0, none⟩), .pointer (some ⟨bp, 0, none⟩), .pointer (some ⟨bi, 0, none⟩), .pointer (some ⟨bb, 0, none⟩), .pointer (some ⟨bt, 0, none⟩), .pointer (some ⟨bo, 0, none⟩)]] V fun e w' =>
      e = .returned (.int .i64 0) ∧ Own w' og 22 1 (some ⟨og, 0, none⟩) m m (nums .u64 (stepDo p ax inv ((k : Int), s1, s2, s3, s4) x)) ∧ Grown og V w' := by
  have hAx := (hK.chk.at hK.lt).1
  have hm4 : m ≤ 4096 := by have h1 := hK.chk.dims.all; omega
  have hN4 := hK.c6.n2
  have hN1 := hK.c6.n1
  have htl4 : tl ≤ 4096 := by have := tabL_len hK inv; omega
  have hy : stepDo p ax inv ((k : Int), s1, s2, s3, s4) x = linA p (dimsA ax) k (stepM p N neg inv ((k : Int), s1, s2, s3, s4)) x := by
    unfold stepDo
    dsimp only
    rw [Int.toNat_natCast, hK.get, hK.dim, Int.toNat_natCast]
  have hut := tabL_u64 p N neg inv ((k : Int), s1, s2, s3, s4)
  rcases hK.kind with ⟨ht, hz⟩ | ⟨ht, hz⟩
  · dsimp only at ht hz
    subst ht
    simp only [Prod.mk.injEq] at hz
    obtain ⟨rfl, rfl, rfl⟩ := hz
    rw [hy]
    generalize hyy : linA p (dimsA ax) k (stepM p N neg inv ((k : Int), true, 0, 0, 0)) x = y
    have hyl : y.length = m := by rw [← hyy, linA_length, hm]
    refine (seach_twist _ _ p A c n ax k N neg m (InvD og V m y (gNo (dimsA ax) k true 0 0 0)) (MineB og) V do1_cf hn hr.rowM hl hw hK (tellsD ..) (by rw [hpx, hm]) ?_ ?_).mono ?_
    · intro g hg w A1 B1 C1 ca cb cc hi ra rb rc
      have hok := twist_ok hAx hK.dim p inv neg (k : Int) 0 0 0 hpx (g := g) (by omega)
      rw [hyy] at hok
      have hput := hok.put
      have hxv := hAx.xv (g : Int)
      have hdim := hK.dim
      refine (sdo1_twist p inv _ A1 B1 C1 ca cb cc 1 [(g : Int)] [P.xv (dimsA ax) k g] [(g : Int)] X cx m x T tl tc _ og bx bs bp bi bb bt bo (outN y (gNo (dimsA ax) k true 0 0 0) g) w
        rfl rfl rfl (by omega) hm hm4 (by intro v hv; simp at hv; omega) (by intro v hv; simp at hv; omega) htl htl4 ?_ hux hut (by rw [outN_length, hyl]) hp
        (ra.rowX (List.cons_ne_nil _ _)) (rb.rowX (List.cons_ne_nil _ _)) (rc.rowX (List.cons_ne_nil _ _)) (hrX.grown hi.1) (hrT.grown hi.1) (hbx.grown hi.1) (hbs.grown hi.1) rfl (hbp.grown hi.1) (hbi.grown hi.1) (hbt.grown hi.1) (hbo.grown hi.1) hi.2).mono ?_
      · intro v hv
        simp at hv
        rw [tabL_twist] at htl
        simp at htl
        omega
      · rintro e w' ⟨rfl, ho, hg'⟩
        refine ⟨rfl, ⟨hi.1.trans hg', ?_⟩, hg'.kp⟩
        rw [tabL_twist] at ho
        rw [← hput]
        exact ho
    · refine ⟨Grown.refl _ _, ?_⟩
      rw [outN_zero, hyl]
      exact hown
    · rintro e w' ⟨rfl, hi, _⟩
      refine ⟨rfl, ?_, hi.1⟩
      have h1 := hi.2
      rw [outN_all y _ (fun v hv => by unfold gNo; rw [if_pos rfl]; omega)] at h1
      exact h1
  · dsimp only at ht hz
    subst ht
    obtain ⟨R, L, M, hs, hS⟩ := stg_mem hK.c6.smooth hz
    simp only [Prod.mk.injEq] at hs
    obtain ⟨rfl, rfl, rfl⟩ := hs
    have hX : AxSt (dimsA ax) k R L M N := ⟨hAx, hK.dim, hS⟩
    obtain ⟨K, hKK⟩ := Int.eq_ofNat_of_zero_le (show 0 ≤ prodL (dimsA ax) / (N : Int) from Int.ediv_nonneg (by omega) (by omega))
    rw [hy]
    generalize hyy : linA p (dimsA ax) k (stepM p N neg inv ((k : Int), false, (R : Int), (L : Int), (M : Int))) x = y
    have hyl : y.length = m := by rw [← hyy, linA_length, hm]
    have hR := hS.r2
    have hR5 := hS.r5
    refine (seach_stage _ _ p A c n ax k N neg R L M K (InvD og V m y (gNo (dimsA ax) k false R L M)) (MineB og) V do1_cf hn hr.rowM hl hw hK hS (tellsD ..) hKK ?_ ?_).mono ?_
    · intro g hg w A1 B1 C1 ca cb cc hi ra rb rc
      have hL1 := hS.l1
      have hM1 := hS.m1
      have g1 : g % L < L := Nat.mod_lt _ (by omega)
      have g2 : g / L % M < M := Nat.mod_lt _ (by omega)
      have g3 : g / L / M < K := by
        rw [Nat.div_lt_iff_lt_mul (by omega), Nat.div_lt_iff_lt_mul (by omega)]; exact hg
      have ge : g = (g / L / M * M + g / L % M) * L + g % L := by
        rw [Nat.mul_comm (g / L / M) M, Nat.div_add_mod (g / L) M, Nat.mul_comm (g / L) L, Nat.div_add_mod]
      have hG := grpG_stage (dimsA ax) k R (j := g / L / M) g2 g1
      rw [← ge] at hG
      rw [hG] at ra rb rc
      generalize g / L / M = j at *
      generalize g / L % M = a at *
      generalize g % L = b at *
      have hj : (j : Int) < prodL (dimsA ax) / (N : Int) := by rw [hKK]; omega
      have hok := hX.grp_ok p inv neg (k : Int) hpx g2 g1 hj
      rw [hyy, ← ge] at hok
      have hput := hok.put
      have hlen := grpS_len (dimsA ax) k R L M j a b
      have iI : ∀ v ∈ (grpS (dimsA ax) k R L M j a b).1, 0 ≤ v ∧ v < (m : Int) := by
        intro v hv
        obtain ⟨t, ht, rfl⟩ := List.getElem_of_mem hv
        have h1 := hX.in_at j g2 g1 (t := t) (by omega) 0
        rw [getD_of ht] at h1
        rw [h1]
        have h2 := hX.q_in g2 g1 (t := t) (by omega)
        rw [q_form] at h2
        have h3 := hAx.plc_in hK.dim hj h2
        omega
      have iO : ∀ v ∈ (grpS (dimsA ax) k R L M j a b).2.2, 0 ≤ v ∧ v < (m : Int) := by
        intro v hv
        obtain ⟨t, ht, rfl⟩ := List.getElem_of_mem hv
        have h1 := hX.out_at j g2 g1 (t := t) (by omega) 0
        rw [getD_of ht] at h1
        rw [h1]
        have h2 := hX.q_out g2 g1 (t := t) (by omega)
        rw [q_form2] at h2
        have h3 := hAx.plc_in hK.dim hj h2
        omega
      have iF : ∀ v ∈ (grpS (dimsA ax) k R L M j a b).2.1, 0 ≤ v ∧ v < (tl : Int) := by
        intro v hv
        obtain ⟨t, ht, rfl⟩ := List.getElem_of_mem hv
        have h1 := fac_at (dimsA ax) k R L M j a b (t := t) (by omega) 0
        rw [getD_of ht] at h1
        rw [h1]
        have h2 : a * R + t < M * R := digit_lt2 g2 (by omega)
        rw [tabL_stage p N neg inv (k : Int) hS, tabR_length] at htl
        omega
      have hdo := hX.do_zero hK.c6 inv (w := gatL x (grpS (dimsA ax) k R L M j a b).1) (by rw [gatL_length]; exact hlen.1) (gatL_in hin (by intro v hv; have := iI v hv; omega))
      generalize hgr : grpS (dimsA ax) k R L M j a b = gr at *
      obtain ⟨I, F, O⟩ := gr
      dsimp only at *
      have hne : ∀ l : List Int, l.length = R → nums .i64 l ≠ [] := by
        intro l hl2 h0
        have h1 := nums_length .i64 l
        rw [h0] at h1
        simp at h1
        omega
      refine (sdo1_stage p inv _ A1 B1 C1 ca cb cc R I F O X cx m x T tl tc _ (doL p (rtS p (R : Int) inv) (gatL x I)) og bx bs bp bi bb bt bo (outN y (gNo (dimsA ax) k false R L M) g) w
        hlen.1 hlen.2.1 hlen.2.2 (by omega) hm hm4 iI iO htl htl4 iF hux hut (by rw [outN_length, hyl]) hp hdo (by rw [doL_length, gatL_length]; exact hlen.1) (doL_u64 _ _ _)
        (ra.rowX (hne I hlen.1)) (rb.rowX (hne F hlen.2.1)) (rc.rowX (hne O hlen.2.2)) (hrX.grown hi.1) (hrT.grown hi.1) (hbx.grown hi.1) (hbs.grown hi.1) rfl (hbp.grown hi.1) (hbi.grown hi.1) (hbt.grown hi.1) (hbo.grown hi.1) hi.2).mono ?_
      rintro e w' ⟨rfl, ho, hg'⟩
      refine ⟨rfl, ⟨hi.1.trans hg', ?_⟩, hg'.kp⟩
      rw [tabL_stage p N neg inv (k : Int) hS] at ho
      rw [← hput, hlen.2.2]
      unfold grpY
      rw [if_neg (by decide)]
      exact ho
    · refine ⟨Grown.refl _ _, ?_⟩
      rw [outN_zero, hyl]
      exact hown
    · rintro e w' ⟨rfl, hi, _⟩
      refine ⟨rfl, ?_, hi.1⟩
      have h1 := hi.2
      rw [outN_all y _ (fun v hv => ?_)] at h1
      · exact h1
      · obtain ⟨h2, h3, h4⟩ := hAx.plc_of hK.dim (v := v) (by omega)
        rw [hKK] at h3
        unfold gNo
        rw [if_neg (by decide)]
        generalize (P.xv (dimsA ax) k (v : Int)).toNat = q at *
        have hL1 := hS.l1
        have e0 := hS.all
        have d3 : q / L / R < M := by
          rw [Nat.div_lt_iff_lt_mul (by omega), Nat.div_lt_iff_lt_mul (by omega), Nat.mul_comm (M * R) L]; omega
        exact digit_lt2 (digit_lt2 (by omega) d3) (Nat.mod_lt _ (by omega))
end Go.Proofs.YtohcoidbncbijaaDoor.P
