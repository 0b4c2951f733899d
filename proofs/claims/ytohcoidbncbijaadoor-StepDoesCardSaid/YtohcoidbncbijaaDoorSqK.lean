/- Several texts as one: PrP, SqA, SqB, SqC, CsP, CsA, CsB. Conditions: those of each lemma. -/
import Derived.Test.YtohcoidbncbijaaDoorStpB
import Derived.Test.YtohcoidbncbijaaDoorRgQ
import Derived.Test.YtohcoidbncbijaaDoorFlyB
import Derived.Test.YtohcoidbncbijaaDoorStO
import Derived.ChangeKeysEq
/- Sums of words, each times a number of its place, plainly: what a group's words weigh. Under no condition beside those of each lemma. -/
namespace Go.Proofs.YtohcoidbncbijaaDoor.P
open Go.RowKit
set_option linter.unusedVariables false
/-- The sum of words, each times its place's number. -/
def csum (c : Nat → Int) (l : List Int) : Int := S l.length (fun v => l.getD v 0 * c v)
theorem S_upd {f g : Nat → Int} {i : Nat} (h : ∀ v, v ≠ i → f v = g v) : ∀ {n : Nat}, i < n → S n f = S n g + (f i - g i)
  | n + 1, hi => by
    show S n f + f n = S n g + g n + (f i - g i)
    by_cases e : i = n
    · subst e
      rw [S_congr (f := f) (g := g) (fun v hv => h v (by omega))]
      omega
    · rw [S_upd h (n := n) (by omega), h n (by omega)]
      omega
theorem csum_set (c : Nat → Int) (l : List Int) {i : Nat} (hi : i < l.length) (x : Int) : csum c (l.set i x) = csum c l + (x - l.getD i 0) * c i := by
  unfold csum
  rw [List.length_set, S_upd (g := fun v => l.getD v 0 * c v) (i := i) (fun v hv => ?_) hi]
  · have e : (l.set i x).getD i 0 = x := by rw [List.getD_eq_getElem?_getD, List.getElem?_set_self hi]; rfl
    rw [e, Int.sub_mul]
  · skip
    rw [List.getD_eq_getElem?_getD, List.getElem?_set_ne (by omega), ← List.getD_eq_getElem?_getD]
theorem csum_zero (c : Nat → Int) (n : Nat) : csum c (List.replicate n 0) = 0 := by
  unfold csum
  rw [S_congr (g := fun _ => 0) (fun v hv => ?_), S_zero]
  rw [List.length_replicate] at hv
  rw [List.getD_eq_getElem?_getD]
  simp [hv]
/-- Words put at places that are apart, where there was 0. -/
theorem csum_putN (c : Nat → Int) (o O Y : List Int) (hlt : ∀ u, u < O.length → (O.getD u 0).toNat < o.length) (h0 : ∀ u, u < O.length → o.getD (O.getD u 0).toNat 0 = 0) (hd : ∀ u t, u < O.length → t < u → (O.getD t 0).toNat ≠ (O.getD u 0).toNat) :
    ∀ k, k ≤ O.length → csum c (putN o O Y k) = csum c o + S k (fun u => Y.getD u 0 * c (O.getD u 0).toNat) ∧ ∀ u, k ≤ u → u < O.length → (putN o O Y k).getD (O.getD u 0).toNat 0 = 0
  | 0, _ => ⟨by show csum c o = csum c o + 0; omega, fun u _ hu => h0 u hu⟩
  | k + 1, hk => by
    obtain ⟨i1, i2⟩ := csum_putN c o O Y hlt h0 hd k (by omega)
    have h1 : (O.getD k 0).toNat < (putN o O Y k).length := by rw [putN_length]; exact hlt k (by omega)
    refine ⟨?_, fun u hu hul => ?_⟩
    · show csum c ((putN o O Y k).set (O.getD k 0).toNat (Y.getD k 0)) = csum c o + (S k (fun u => Y.getD u 0 * c (O.getD u 0).toNat) + Y.getD k 0 * c (O.getD k 0).toNat)
      rw [csum_set c _ h1, i1, i2 k (Nat.le_refl _) (by omega)]
      rw [Int.sub_zero]
      omega
    · show ((putN o O Y k).set (O.getD k 0).toNat (Y.getD k 0)).getD (O.getD u 0).toNat 0 = 0
      rw [List.getD_eq_getElem?_getD, List.getElem?_set_ne (hd u k hul (by omega)), ← List.getD_eq_getElem?_getD]
      exact i2 u (by omega) hul
/-- A group's words weighed, and put among the others. -/
theorem GrpOk.csum {y : List Int} {G : Nat → Nat} {g : Nat} {O Y : List Int} (h : GrpOk y G g O Y) (hd : ∀ u t, u < O.length → t < u → (O.getD t 0).toNat ≠ (O.getD u 0).toNat) (c : Nat → Int) :
    csum c (outN y G (g + 1)) = csum c (outN y G g) + S O.length (fun u => Y.getD u 0 * c (O.getD u 0).toNat) := by
  rw [← h.put]
  refine (csum_putN c (outN y G g) O Y (fun u hu => by rw [outN_length]; exact (h.at' u hu).1) (fun u hu => ?_) hd O.length (Nat.le_refl _)).1
  have h1 := (h.at' u hu).1
  rw [outN_at y G g h1, if_neg]
  have h2 := (h.mem _ h1).2 ⟨u, hu, rfl⟩
  omega
theorem redS_S {p : Int} {f g : Nat → Int} : ∀ {n : Nat}, (∀ i, i < n → redS p (f i) = redS p (g i)) → redS p (S n f) = redS p (S n g)
  | 0, _ => rfl
  | n + 1, h => by
    show redS p (S n f + f n) = redS p (S n g + g n)
    rw [← redS_add_left, ← redS_add_right, redS_S (n := n) (fun i hi => h i (by omega)), h n (by omega), redS_add_right, redS_add_left]
/-- The sum so far, counted by a prime, and a group's. -/
theorem GrpOk.sum {p : Int} {y : List Int} {G : Nat → Nat} {g : Nat} {O Yd tab F : List Int} (h : GrpOk y G g O (grpV p Yd tab F)) (hd : ∀ u t, u < O.length → t < u → (O.getD t 0).toNat ≠ (O.getD u 0).toNat) (hF : F.length = O.length) (c : Nat → Int) {by' : List Int} (hb : ∀ u, u < O.length → redS p (by'.getD u 0) = redS p (tab.getD (F.getD u 0).toNat 0 * c (O.getD u 0).toNat)) :
    redS p (P.csum c (outN y G (g + 1))) = addS p (redS p (P.csum c (outN y G g))) (redS p (S O.length (fun u => Yd.getD u 0 * by'.getD u 0))) := by
  rw [h.csum hd c]
  unfold addS
  rw [redS_add_left, ← redS_add_right, ← redS_add_right (b := redS p _)]
  rw [redS_redS]
  congr 2
  refine redS_S fun u hu => ?_
  have e : (grpV p Yd tab F).getD u 0 = mulS p (Yd.getD u 0) (tab.getD (F.getD u 0).toNat 0) := by
    rw [List.getD_eq_getElem?_getD]; simp [grpV, hF, hu]
  rw [e]
  unfold mulS
  rw [redS_mul_left, Int.mul_assoc]
  exact red_mul rfl (hb u hu).symm
/-- Places that come out are apart. -/
theorem twist_apart (l : List Int) (k g : Nat) : ∀ u t, u < (grpT l k g).2.2.length → t < u → ((grpT l k g).2.2.getD t 0).toNat ≠ ((grpT l k g).2.2.getD u 0).toNat := by
  intro u t hu ht
  have : (grpT l k g).2.2.length = 1 := rfl
  omega
theorem AxSt.apart {l : List Int} {k R L M N : Nat} (h : AxSt l k R L M N) {j a b : Nat} (hj : (j : Int) < prodL l / (N : Int)) (ha : a < M) (hb : b < L) :
    ∀ u t, u < (grpS l k R L M j a b).2.2.length → t < u → ((grpS l k R L M j a b).2.2.getD t 0).toNat ≠ ((grpS l k R L M j a b).2.2.getD u 0).toNat := by
  intro u t hu ht
  rw [(grpS_len l k R L M j a b).2.2] at hu
  rw [h.out_at j ha hb (show t < R by omega), h.out_at j ha hb hu]
  have h1 := h.q_out ha hb (t := t) (by omega)
  have h2 := h.q_out ha hb hu
  rw [q_form2] at h1 h2
  have p1 := h.ax.plc_in h.dim hj h1
  have p2 := h.ax.plc_in h.dim hj h2
  intro e
  have e2 : plc l k j (b + L * (t + R * a)) = plc l k j (b + L * (u + R * a)) := by omega
  have x1 := h.ax.plc_xv h.dim j h1
  have x2 := h.ax.plc_xv h.dim j h2
  rw [e2, x2] at x1
  have hL := h.st.l1
  have e3 : L * (u + R * a) = L * (t + R * a) := by omega
  have e4 := Nat.eq_of_mul_eq_mul_left (by omega) e3
  omega
/-- What the sums of what comes of a step are. -/
def one' : Nat → Int := fun _ => 1
def plc' : Nat → Int := fun v => (v : Int) + 1
end Go.Proofs.YtohcoidbncbijaaDoor.P
/- The contract of the closure of step.Predict. Conditions: slices read as lists; the places lie in the words, the factors in the table. -/
namespace Go.Proofs.YtohcoidbncbijaaDoor.P
open Go.RowKit
set_option linter.unusedVariables false
set_option linter.unusedSimpArgs false
theorem take_next {l : List Int} {u : Nat} (h : u < l.length) : l.take (u + 1) = l.take u ++ [l.getD u 0] := by
  rw [List.take_add_one, List.getElem?_eq_getElem h, getD_of h]; rfl
/-- What words weigh, by the factor and the place of each. -/
def plcL (p : Int) (tab F O : List Int) : List Int := (List.range F.length).map fun u => mulS p (tab.getD (F.getD u 0).toNat 0) (O.getD u 0 + 1)
theorem plcL_length (p : Int) (tab F O : List Int) : (plcL p tab F O).length = F.length := by simp [plcL]
theorem plcL_at (p : Int) (tab F O : List Int) {u : Nat} (h : u < F.length) : (plcL p tab F O).getD u 0 = mulS p (tab.getD (F.getD u 0).toNat 0) (O.getD u 0 + 1) := by
  rw [List.getD_eq_getElem?_getD]; simp [plcL, h]
theorem plcL_u64 (p : Int) (tab F O : List Int) : ∀ d ∈ plcL p tab F O, U64 d := by
  intro d hd
  simp only [plcL, List.mem_map] at hd
  obtain ⟨u, _, rfl⟩ := hd
  exact u64_mulS _ _ _
/-- Three lists of words under way. -/
structure Thr (B : Nat) (A1 B1 C1 : Option Addr) (na ca nb cb nc cc : Nat) (x y z : List Int) (ws : World) : Prop where
  a : Own ws B 22 1 A1 na ca (nums .u64 x)
  b : Own ws B 22 1 B1 nb cb (nums .u64 y)
  c : Own ws B 22 1 C1 nc cc (nums .u64 z)
  ab : ∀ u v, A1 = some u → B1 = some v → u.block ≠ v.block
  ac : ∀ u v, A1 = some u → C1 = some v → u.block ≠ v.block
  bc : ∀ u v, B1 = some u → C1 = some v → u.block ≠ v.block
theorem Thr.start (B : Nat) (ws : World) : Thr B none none none 0 0 0 0 0 0 [] [] [] ws :=
  ⟨Own.nil _ _ _ _, Own.nil _ _ _ _, Own.nil _ _ _ _, (fun _ _ h => by cases h), (fun _ _ h => by cases h), (fun _ _ h => by cases h)⟩
theorem Thr.fresh {B : Nat} {A1 B1 C1 : Option Addr} {na ca nb cb nc cc : Nat} {x y z : List Int} {ws w' : World} (h : Thr B A1 B1 C1 na ca nb cb nc cc x y z ws) (hb : Below ws.heap.size ws w') : Thr B A1 B1 C1 na ca nb cb nc cc x y z w' :=
  ⟨h.a.grown hb, h.b.grown hb, h.c.grown hb, h.ab, h.ac, h.bc⟩
theorem Thr.pushA {B : Nat} {A1 B1 C1 : Option Addr} {na ca nb cb nc cc : Nat} {x y z : List Int} {ws w' : World} (h : Thr B A1 B1 C1 na ca nb cb nc cc x y z ws) {g cap : Nat} {v : Int}
    (ho : Own w' B 22 1 (some ⟨g, 0, none⟩) (na + 1) cap (nums .u64 x ++ [.int .u64 v])) (hg : ws.grownBy w' (Value.slice A1 na ca).ownBlock) (hl : (Value.slice A1 na ca).ownBlock = some g ∨ g = ws.heap.size) :
    Thr B (some ⟨g, 0, none⟩) B1 C1 (na + 1) cap nb cb nc cc (x ++ [v]) y z w' :=
  ⟨by rw [show nums .u64 (x ++ [v]) = nums .u64 x ++ [.int .u64 v] by simp [nums]]; exact ho, own_other h.b hg h.ab, own_other h.c hg h.ac, apart_new hl h.ab (own_lt h.b), apart_new hl h.ac (own_lt h.c), h.bc⟩
theorem Thr.pushB {B : Nat} {A1 B1 C1 : Option Addr} {na ca nb cb nc cc : Nat} {x y z : List Int} {ws w' : World} (h : Thr B A1 B1 C1 na ca nb cb nc cc x y z ws) {g cap : Nat} {v : Int}
    (ho : Own w' B 22 1 (some ⟨g, 0, none⟩) (nb + 1) cap (nums .u64 y ++ [.int .u64 v])) (hg : ws.grownBy w' (Value.slice B1 nb cb).ownBlock) (hl : (Value.slice B1 nb cb).ownBlock = some g ∨ g = ws.heap.size) :
    Thr B A1 (some ⟨g, 0, none⟩) C1 na ca (nb + 1) cap nc cc x (y ++ [v]) z w' := by
  have hba : ∀ u v, B1 = some u → A1 = some v → u.block ≠ v.block := fun u v h1 h2 e => h.ab v u h2 h1 e.symm
  exact ⟨own_other h.a hg hba, by rw [show nums .u64 (y ++ [v]) = nums .u64 y ++ [.int .u64 v] by simp [nums]]; exact ho, own_other h.c hg h.bc, (fun u v h1 h2 e => apart_new hl hba (own_lt h.a) v u h2 h1 e.symm), h.ac, apart_new hl h.bc (own_lt h.c)⟩
theorem Thr.pushC {B : Nat} {A1 B1 C1 : Option Addr} {na ca nb cb nc cc : Nat} {x y z : List Int} {ws w' : World} (h : Thr B A1 B1 C1 na ca nb cb nc cc x y z ws) {g cap : Nat} {v : Int}
    (ho : Own w' B 22 1 (some ⟨g, 0, none⟩) (nc + 1) cap (nums .u64 z ++ [.int .u64 v])) (hg : ws.grownBy w' (Value.slice C1 nc cc).ownBlock) (hl : (Value.slice C1 nc cc).ownBlock = some g ∨ g = ws.heap.size) :
    Thr B A1 B1 (some ⟨g, 0, none⟩) na ca nb cb (nc + 1) cap x y (z ++ [v]) w' := by
  have hca : ∀ u v, C1 = some u → A1 = some v → u.block ≠ v.block := fun u v h1 h2 e => h.ac v u h2 h1 e.symm
  have hcb : ∀ u v, C1 = some u → B1 = some v → u.block ≠ v.block := fun u v h1 h2 e => h.bc v u h2 h1 e.symm
  exact ⟨own_other h.a hg hca, own_other h.b hg hcb, by rw [show nums .u64 (z ++ [v]) = nums .u64 z ++ [.int .u64 v] by simp [nums]]; exact ho, h.ab, (fun u v h1 h2 e => apart_new hl hca (own_lt h.a) v u h2 h1 e.symm), (fun u v h1 h2 e => apart_new hl hcb (own_lt h.b) v u h2 h1 e.symm)⟩
/-- The two sums so far. -/
def st2 (p a b y0 y1 : Int) (k : Nat) : List Int := [if 1 ≤ k then addS p a y0 else a, if 2 ≤ k then addS p b y1 else b]
set_option maxRecDepth 100000 in
set_option maxHeartbeats 8000000 in
theorem spr1_calls (p : Int) (inv t : Bool) (bxs : List Value) (A B C : Option Addr) (ca cb cc r : Nat) (I F O : List Int) (X : Option Addr) (cx m : Nat) (x : List Int) (T : Option Addr) (tl tc : Nat) (tab : List Int) (og bx bs bp bi bb bt : Nat) (a b y0 y1 : Int) (w : World)
    (hI : I.length = r) (hF : F.length = r) (hO : O.length = r) (hr1 : 1 ≤ r) (hr5 : r ≤ 5) (hm : x.length = m) (hm4 : m ≤ 4096) (hiI : ∀ v ∈ I, 0 ≤ v ∧ v < m) (hiO : ∀ v ∈ O, 0 ≤ v ∧ v < m) (htl : tab.length = tl) (htl4 : tl ≤ 4096) (hiF : ∀ v ∈ F, 0 ≤ v ∧ v < tl)
    (hux : ∀ d ∈ x, U64 d) (hut : ∀ d ∈ tab, U64 d) (hua : U64 a) (hub : U64 b) (hp : U64 p)
    (hw0 : t = false → weighS p inv (gatL x I) (gatL tab F) = (y0, 0)) (hw1 : t = false → weighS p inv (gatL x I) (plcL p tab F O) = (y1, 0))
    (hv0 : t = true → mulS p ((gatL x I).getD 0 0) ((gatL tab F).getD 0 0) = y0) (hv1 : t = true → mulS p ((gatL x I).getD 0 0) ((plcL p tab F O).getD 0 0) = y1) (hy0 : U64 y0) (hy1 : U64 y1)
    (hrA : RowX og w A (nums .i64 I)) (hrB : RowX og w B (nums .i64 F)) (hrC : RowX og w C (nums .i64 O)) (hrX : RowX og w X (nums .u64 x)) (hrT : RowX og w T (nums .u64 tab))
    (hbx : RowX og w (some ⟨bx, 0, none⟩) [.slice X m cx]) (hbs : RowX og w (some ⟨bs, 0, none⟩) bxs) (hbs1 : bxs[1]? = some (.bool t)) (hbp : RowX og w (some ⟨bp, 0, none⟩) [.int .u64 p]) (hbi : RowX og w (some ⟨bi, 0, none⟩) [.bool inv])
    (hbt : RowX og w (some ⟨bt, 0, none⟩) [.slice T tl tc]) (hown : Own w og 77 1 (some ⟨og, 0, none⟩) 2 2 (nums .u64 [a, b])) :
    Calls Tryd.prog 94 #[.agg #[.slice A r ca, .slice B r cb, .slice C r cc], .pointer (some ⟨bt, 0, none⟩), .pointer (some ⟨bx, 0, none⟩), .pointer (some ⟨bp, 0, none⟩), .pointer (some ⟨bs, 0, none⟩), .pointer (some ⟨bi, 0, none⟩), .pointer (some ⟨bb, 0, none⟩), .pointer (some ⟨og, 0, none⟩)] w fun e w' =>
      e = .returned (.tuple #[]) ∧ Own w' og 77 1 (some ⟨og, 0, none⟩) 2 2 (nums .u64 [addS p a y0, addS p b y1]) ∧ Grown og w w' := by
  have HI := Lib.hid hI
  have HF := Lib.hid hF
  have HO := Lib.hid hO
  have HM := Lib.hid hm
  have HIN := Lib.hid hiI
  have HIO := Lib.hid hiO
  have HIF := Lib.hid hiF
  have HTL := Lib.hid htl
  have HUX := Lib.hid hux
  have HUT := Lib.hid hut
  have HUA := Lib.hid hua
  have HUB := Lib.hid hub
  have HP := Lib.hid hp
  have HW0 := Lib.hid hw0
  have HW1 := Lib.hid hw1
  have HV0 := Lib.hid hv0
  have HV1 := Lib.hid hv1
  have HY0 := Lib.hid hy0
  have HY1 := Lib.hid hy1
  have HGS : Hid (og < w.heap.size) := Lib.hid (Own.base hown).2
  have hmx : Tryd.prog.follows .mixedOrders = true := by kernel_rfl
  have HMX := Lib.hid hmx
  have hbel0 : Below w.heap.size w (w.alloc (.cells #[.slice A r ca, .slice B r cb, .slice C r cc] 72)) := (Below.refl _ _).alloc (Nat.le_refl _) _
  have HBG : Hid (RowX og (w.alloc (.cells #[.slice A r ca, .slice B r cb, .slice C r cc] 72)) (some ⟨w.heap.size, 0, none⟩) [.slice A r ca, .slice B r cb, .slice C r cc]) :=
    Lib.hid (Own.rowX (own_one w w.heap.size 72 [.slice A r ca, .slice B r cb, .slice C r cc] 3 (Nat.le_refl _) rfl (by decide)) HGS.out)
  have HG0 : Hid (Grown og w (w.alloc (.cells #[.slice A r ca, .slice B r cb, .slice C r cc] 72))) := Lib.hid ((Grown.refl og w).below hbel0)
  have HRA := Lib.hid (hrA.below hbel0)
  have HRB := Lib.hid (hrB.below hbel0)
  have HRC := Lib.hid (hrC.below hbel0)
  have HRX := Lib.hid (hrX.below hbel0)
  have HRT := Lib.hid (hrT.below hbel0)
  have HBX := Lib.hid (hbx.below hbel0)
  have HBS := Lib.hid (hbs.below hbel0)
  have HBP := Lib.hid (hbp.below hbel0)
  have HBI := Lib.hid (hbi.below hbel0)
  have HBT := Lib.hid (hbt.below hbel0)
  have HS1 := Lib.hid hbs1
  have HOW := Lib.hid (Own.grown hown hbel0)
  have hg0 := RowX.cellB HBG.out (i := 0) rfl
  clear hI hF hO hm hiI hiO hiF htl hux hut hua hub hp hw0 hw1 hv0 hv1 hy0 hy1 hrA hrB hrC hrX hrT hbx hbs hbs1 hbp hbi hbt hown hbel0 hmx
  go_enter Tryd.func94, Tryd.ntmps94
  have hg1 : (w.alloc (.cells #[.slice A r ca, .slice B r cb, .slice C r cc] 72)).cell? ⟨w.heap.size, 0, none⟩ = some (.slice A r ca) := hg0
  clear hg0
  go_wp2
  clear hg1
  generalize hV : (w.alloc (.cells #[.slice A r ca, .slice B r cb, .slice C r cc] 72)) = V at *
  have HGB : Hid (og < V.heap.size) := Lib.hid (by have h1 := HGS.out; rw [← hV]; simp; omega)
  clear hV HGS
  generalize w.heap.size = gb at *
  obtain ⟨rs, hrs⟩ : ∃ rs, rs = V.heap.size := ⟨_, rfl⟩
  have HRS := Lib.hid hrs
  clear hrs
  have HZ0 : Hid (Below rs V V) := Lib.hid (Below.refl _ _)
  go_loopw [9, 10, 11, 22] (fun s9 s10 s11 q wr => ∃ (u : Nat) (A1 B1 C1 : Option Addr) (c1 c2 c3 : Nat), u ≤ r ∧ q = .int .i64 u ∧ s9 = .slice A1 u c1 ∧ s10 = .slice B1 u c2 ∧ s11 = .slice C1 u c3 ∧ Hid (Thr rs A1 B1 C1 u c1 u c2 u c3 ((gatL x I).take u) ((gatL tab F).take u) ((plcL p tab F O).take u) wr) ∧ Hid (Below rs V wr)) (fun _ _ _ q _ => r - (intOf q).toNat)
  case atStart => exact ⟨0, none, none, none, 0, 0, 0, Nat.zero_le _, rfl, rfl, rfl, rfl, Lib.hid (Thr.start _ _), HZ0⟩
  case round =>
    obtain ⟨u, A1, B1, C1, c1, c2, c3, hu, rfl, rfl, rfl, rfl, HTH, HBW⟩ := hrel
    by_cases hlu : u < r
    · have hkl : u < I.length := by have := HI.out; omega
      have hul : u < O.length := by have := HO.out; omega
      have huf : u < F.length := by have := HF.out; omega
      obtain ⟨i0, i1⟩ := HIN.out _ (List.getElem_mem hkl)
      obtain ⟨v0, v1⟩ := HIO.out _ (List.getElem_mem hul)
      obtain ⟨f0, f1⟩ := HIF.out _ (List.getElem_mem huf)
      obtain ⟨ia, rfl⟩ := HRA.out.1.some_of (by intro h0; have h1 := nums_length .i64 I; rw [h0] at h1; simp at h1; omega)
      obtain ⟨oa, rfl⟩ := HRC.out.1.some_of (by intro h0; have h1 := nums_length .i64 O; rw [h0] at h1; simp at h1; omega)
      obtain ⟨fa, rfl⟩ := HRB.out.1.some_of (by intro h0; have h1 := nums_length .i64 F; rw [h0] at h1; simp at h1; omega)
      have HE1 : Hid ((gatL x I).take (u + 1) = (gatL x I).take u ++ [x.getD (I[u]).toNat 0]) := Lib.hid (by rw [take_next (by rw [gatL_length]; exact hkl), gatL_at x I hkl, getD_of hkl])
      have HE2 : Hid ((gatL tab F).take (u + 1) = (gatL tab F).take u ++ [tab.getD (F[u]).toNat 0]) := Lib.hid (by rw [take_next (by rw [gatL_length]; exact huf), gatL_at tab F huf, getD_of huf])
      have HE3 : Hid ((plcL p tab F O).take (u + 1) = (plcL p tab F O).take u ++ [mulS p (tab.getD (F[u]).toNat 0) (O[u] + 1)]) := Lib.hid (by rw [take_next (by rw [plcL_length]; exact huf), plcL_at p tab F O huf, getD_of huf, getD_of hul])
      have hca := fun ws (h : Below V.heap.size V ws) => (HRA.out.below h).1.num hkl
      have hcf := fun ws (h : Below V.heap.size V ws) => (HRB.out.below h).1.num huf
      have hco := fun ws (h : Below V.heap.size V ws) => (HRC.out.below h).1.num hul
      generalize I[u] = iv at *
      generalize F[u] = f at *
      generalize O[u] = v at *
      obtain ⟨iv, rfl⟩ := Int.eq_ofNat_of_zero_le i0
      obtain ⟨v, rfl⟩ := Int.eq_ofNat_of_zero_le v0
      obtain ⟨f, rfl⟩ := Int.eq_ofNat_of_zero_le f0
      have hft : f < tab.length := by have := HTL.out; omega
      have hix : iv < x.length := by have := HM.out; omega
      obtain ⟨ta, rfl⟩ := HRT.out.1.some_of (by intro h0; have h1 := nums_length .u64 tab; rw [h0] at h1; simp at h1; omega)
      obtain ⟨xa, rfl⟩ := HRX.out.1.some_of (by intro h0; have h1 := nums_length .u64 x; rw [h0] at h1; simp at h1; omega)
      have hct := fun ws (h : Below V.heap.size V ws) => (HRT.out.below h).1.num hft
      have hcx := fun ws (h : Below V.heap.size V ws) => (HRX.out.below h).1.num hix
      have HUTV : Hid (U64 tab[f]) := Lib.hid (HUT.out _ (List.getElem_mem hft))
      rw [Int.toNat_natCast, getD_of hix] at HE1
      rw [Int.toNat_natCast, getD_of hft] at HE2 HE3
      generalize tab[f] = tv at *
      generalize x[iv] = xi at *
      have HKP : Hid (∀ ws, Below rs V ws → (ws.cell? ⟨bt, 0, none⟩ = some (.slice (some ta) tl tc) ∧ ws.cell? ⟨gb, 1, none⟩ = some (.slice (some fa) r cb) ∧ ws.cell? (fa.add u) = some (.int .i64 (f : Int)) ∧ ws.cell? (ta.add f) = some (.int .u64 tv)) ∧ (ws.cell? ⟨bp, 0, none⟩ = some (.int .u64 p) ∧ ws.cell? ⟨gb, 2, none⟩ = some (.slice (some oa) r cc) ∧ ws.cell? (oa.add u) = some (.int .i64 (v : Int))) ∧
          ws.cell? ⟨bx, 0, none⟩ = some (.slice (some xa) m cx) ∧ ws.cell? (xa.add iv) = some (.int .u64 xi) ∧ ws.cell? (ia.add u) = some (.int .i64 (iv : Int)) ∧ rs ≤ ws.heap.size) := Lib.hid fun ws h => by
        have h9 : Below V.heap.size V ws := by rw [← HRS.out]; exact h
        exact ⟨⟨RowX.cellB (HBT.out.below h9) (i := 0) rfl, RowX.cellB (HBG.out.below h9) (i := 1) rfl, hcf ws h9, hct ws h9⟩, ⟨RowX.cellB (HBP.out.below h9) (i := 0) rfl, RowX.cellB (HBG.out.below h9) (i := 2) rfl, hco ws h9⟩, RowX.cellB (HBX.out.below h9) (i := 0) rfl, hcx ws h9, hca ws h9, by rw [HRS.out]; exact h9.size⟩
      clear hca hcf hco hct hcx i0 v0 f0 hkl hul huf
      have hvm : v < m := by omega
      have hftl : f < tl := by omega
      have hivm : iv < m := by omega
      have hcv1 : IntKind.u64.wrap (v : Int) = (v : Int) := by rw [IntKind.wrap_u64]; omega
      have hcv2 : IntKind.u64.wrap ((v : Int) + 1) = (v : Int) + 1 := by rw [IntKind.wrap_u64]; omega
      have HUV : Hid (U64 ((v : Int) + 1)) := Lib.hid ⟨by omega, by omega⟩
      clear i1 v1 f1 hft hix
      generalize (gatL x I).take u = xs at *
      generalize (gatL tab F).take u = os at *
      generalize (plcL p tab F O).take u = ps at *
      obtain ⟨⟨z1, z2, z3, z4⟩, ⟨z5, z6, z7⟩, z8, z9, z10, z11⟩ := HKP.out _ HBW.out
      have HTD : Hid (Thr rs A1 B1 C1 u c1 u c2 u c3 xs os ps wr.drew) := Lib.hid (HTH.out.fresh (Below.refl _ _).drew)
      have HBD : Hid (Below rs V wr.drew) := Lib.hid HBW.out.drew
      go_wp2
      clear z1 z2 z3 z4 z5 z6 z7 z8 z9 z10 z11
      refine region_marks2 (k := 9) (S := (fun w' => w'.cell? ⟨bt, 0, none⟩ = some (.slice (some ta) tl tc) ∧ w'.cell? ⟨gb, 1, none⟩ = some (.slice (some fa) r cb) ∧ w'.cell? (fa.add u) = some (.int .i64 (f : Int)) ∧ w'.cell? (ta.add f) = some (.int .u64 tv))) (T := fun _ => true) HMX.out rfl (HKP.out _ HBD.out).1 (fun hS => ?_)
      clear HTH HBW
      generalize wr.drew = wD at *
      refine wpAnyT_take3 (i := 0) (v := ?_) rfl (by kernel_rfl) (by kernel_rfl) (by kernel_rfl) (by kernel_rfl) (by kernel_rfl) (fun _ _ _ h => h) hS (Or.inl ⟨by rfl, ?_⟩) ?_
      rotate_left
      · (intro w' hSw; (try dsimp only at hSw); go_simp; (try with_reducible rfl))
      (try simp only [Act.put, List.setIfInBounds_toArray, List.set_cons_zero, List.set_cons_succ])
      refine wpAnyT_take3 (i := 1) (v := ?_) rfl (by kernel_rfl) (by kernel_rfl) (by kernel_rfl) (by kernel_rfl) (by kernel_rfl) (fun _ _ _ h => h) hS (Or.inl ⟨by rfl, ?_⟩) ?_
      rotate_left
      · (intro w' hSw; (try dsimp only at hSw); go_simp; (try with_reducible rfl))
      (try simp only [Act.put, List.setIfInBounds_toArray, List.set_cons_zero, List.set_cons_succ])
      refine wpAnyT_take3 (i := 2) (v := ?_) rfl (by kernel_rfl) (by kernel_rfl) (by kernel_rfl) (by kernel_rfl) (by kernel_rfl) (fun _ _ _ h => h) hS (Or.inl ⟨by rfl, ?_⟩) ?_
      rotate_left
      · (intro w' hSw; (try dsimp only at hSw); go_simp; (try with_reducible rfl))
      (try simp only [Act.put, List.setIfInBounds_toArray, List.set_cons_zero, List.set_cons_succ])
      refine wpAnyT_take3 (i := 3) (v := ?_) rfl (by kernel_rfl) (by kernel_rfl) (by kernel_rfl) (by kernel_rfl) (by kernel_rfl) (fun _ _ _ h => h) hS (Or.inl ⟨by rfl, ?_⟩) ?_
      rotate_left
      · (intro w' hSw; (try dsimp only at hSw); go_simp; (try with_reducible rfl))
      (try simp only [Act.put, List.setIfInBounds_toArray, List.set_cons_zero, List.set_cons_succ])
      refine wpAnyT_take3 (i := 4) (v := ?_) rfl (by kernel_rfl) (by kernel_rfl) (by kernel_rfl) (by kernel_rfl) (by kernel_rfl) (fun _ _ _ h => h) hS (Or.inl ⟨by rfl, ?_⟩) ?_
      rotate_left
      · (intro w' hSw; (try dsimp only at hSw); go_simp; (try with_reducible rfl))
      (try simp only [Act.put, List.setIfInBounds_toArray, List.set_cons_zero, List.set_cons_succ])
      refine wpAnyT_take3 (i := 5) (v := ?_) rfl (by kernel_rfl) (by kernel_rfl) (by kernel_rfl) (by kernel_rfl) (by kernel_rfl) (fun _ _ _ h => h) hS (Or.inl ⟨by rfl, ?_⟩) ?_
      rotate_left
      · (intro w' hSw; (try dsimp only at hSw); go_simp; (try with_reducible rfl))
      (try simp only [Act.put, List.setIfInBounds_toArray, List.set_cons_zero, List.set_cons_succ])
      refine wpAnyT_take3 (i := 6) (v := ?_) rfl (by kernel_rfl) (by kernel_rfl) (by kernel_rfl) (by kernel_rfl) (by kernel_rfl) (fun _ _ _ h => h) hS (Or.inl ⟨by rfl, ?_⟩) ?_
      rotate_left
      · (intro w' hSw; (try dsimp only at hSw); go_simp; (try with_reducible rfl))
      (try simp only [Act.put, List.setIfInBounds_toArray, List.set_cons_zero, List.set_cons_succ])
      refine wpAnyT_take3 (i := 7) (v := ?_) rfl (by kernel_rfl) (by kernel_rfl) (by kernel_rfl) (by kernel_rfl) (by kernel_rfl) (fun _ _ _ h => h) hS (Or.inl ⟨by rfl, ?_⟩) ?_
      rotate_left
      · (intro w' hSw; (try dsimp only at hSw); go_simp; (try with_reducible rfl))
      (try simp only [Act.put, List.setIfInBounds_toArray, List.set_cons_zero, List.set_cons_succ])
      refine wpAnyT_take3 (i := 8) (v := ?_) rfl (by kernel_rfl) (by kernel_rfl) (by kernel_rfl) (by kernel_rfl) (by kernel_rfl) (fun _ _ _ h => h) hS (Or.inl ⟨by rfl, ?_⟩) ?_
      rotate_left
      · (intro w' hSw; (try dsimp only at hSw); go_simp; (try with_reducible rfl))
      (try simp only [Act.put, List.setIfInBounds_toArray, List.set_cons_zero, List.set_cons_succ])
      refine wpAnyT_done (by kernel_rfl) ?_ _
      refine NoPanic.normal ?_
      clear hS
      obtain ⟨⟨z1, z2, z3, z4⟩, ⟨z5, z6, z7⟩, z8, z9, z10, z11⟩ := HKP.out _ HBD.out
      have hbA : Below wD.heap.size wD (wD.alloc (.cells #[.int .u64 xi] 22)) := (Below.refl _ _).alloc (Nat.le_refl _) _
      have HT6 := Lib.hid (HTD.out.fresh hbA)
      have HB6 : Hid (Below rs V (wD.alloc (.cells #[.int .u64 xi] 22))) := Lib.hid (HBD.out.trans (hbA.mono z11))
      have HZ6 := Lib.hid (Nat.le_trans z11 hbA.size)
      clear hbA
      go_wp2_with (first
        | (at_builtin; (refine append_cells_at (wD.alloc (.cells #[.int .u64 xi] 22)) Tryd.underlying41 info_u64 rfl (by decide) rfl _ _ rfl rs u c1 1 1 A1 ⟨wD.heap.size, 0, none⟩ (nums .u64 xs) [.int .u64 xi] rfl rfl HT6.out.a (row_new wD [.int .u64 xi] 22) rfl (fun u hu => by rw [List.mem_singleton] at hu; rw [hu]; rfl) (by decide) HZ6.out (by omega) (by omega) ?_); intro g7 cap7 w7 hown7 hbel7 hgrow7 hloc7; clear z1 z2 z3 z4 z5 z6 z7 z8 z9 z10 z11; have HT7 := Lib.hid (HT6.out.pushA hown7 hgrow7 hloc7); have HB7 := Lib.hid (HB6.out.trans hbel7); clear hown7 hgrow7 hloc7 hbel7;
            have hbA : Below w7.heap.size w7 (w7.alloc (.cells #[.int .u64 tv] 22)) := (Below.refl _ _).alloc (Nat.le_refl _) _; have z11 := (HKP.out _ HB7.out).2.2.2.2.2; have HT8 := Lib.hid (HT7.out.fresh hbA); have HB8 : Hid (Below rs V (w7.alloc (.cells #[.int .u64 tv] 22))) := Lib.hid (HB7.out.trans (hbA.mono z11)); have HZ8 := Lib.hid (Nat.le_trans z11 hbA.size); clear hbA z11)
        | (at_builtin; (refine append_cells_at (w7.alloc (.cells #[.int .u64 tv] 22)) Tryd.underlying41 info_u64 rfl (by decide) rfl _ _ rfl rs u c2 1 1 B1 ⟨w7.heap.size, 0, none⟩ (nums .u64 os) [.int .u64 tv] rfl rfl HT8.out.b (row_new w7 [.int .u64 tv] 22) rfl (fun u hu => by rw [List.mem_singleton] at hu; rw [hu]; rfl) (by decide) HZ8.out (by omega) (by omega) ?_); intro g9 cap9 w9 hown9 hbel9 hgrow9 hloc9; have HT9 := Lib.hid (HT8.out.pushB hown9 hgrow9 hloc9); have HB9 := Lib.hid (HB8.out.trans hbel9); clear hown9 hgrow9 hloc9 hbel9))
      clear HT6 HB6 HZ6 HTD HBD HT7 HB7 HT8 HB8 HZ8
      have HTE : Hid (Thr rs (some ⟨g7, 0, none⟩) (some ⟨g9, 0, none⟩) C1 (u + 1) cap7 (u + 1) cap9 u c3 (xs ++ [xi]) (os ++ [tv]) ps w9.drew) := Lib.hid (HT9.out.fresh (Below.refl _ _).drew)
      have HBE : Hid (Below rs V w9.drew) := Lib.hid HB9.out.drew
      refine region_marks2 (k := 14) (S := (fun w' => w'.cell? ⟨bp, 0, none⟩ = some (.int .u64 p) ∧ w'.cell? ⟨gb, 2, none⟩ = some (.slice (some oa) r cc) ∧ w'.cell? (oa.add u) = some (.int .i64 (v : Int)))) (T := fun i => decide (i < 12)) HMX.out rfl (HKP.out _ HBE.out).2.1 (fun hS => ?_)
      clear HT9 HB9
      generalize w9.drew = wE at *
      have hmc := mul_calls p tv ((v : Int) + 1) wE HP.out HUTV.out HUV.out
      have hut3 := u64_mulS p tv ((v : Int) + 1)
      generalize mulS p tv ((v : Int) + 1) = pv at *
      have HMC := Lib.hid hmc
      clear hmc hut3
      refine wpAnyT_take3 (i := 0) (v := ?_) rfl (by kernel_rfl) (by kernel_rfl) (by kernel_rfl) (by kernel_rfl) (by kernel_rfl) (fun _ _ _ h => h) hS (Or.inl ⟨by rfl, ?_⟩) ?_
      rotate_left
      · (intro w' hSw; (try dsimp only at hSw); go_simp; (try with_reducible rfl))
      (try simp only [Act.put, List.setIfInBounds_toArray, List.set_cons_zero, List.set_cons_succ])
      refine wpAnyT_take3 (i := 1) (v := ?_) rfl (by kernel_rfl) (by kernel_rfl) (by kernel_rfl) (by kernel_rfl) (by kernel_rfl) (fun _ _ _ h => h) hS (Or.inl ⟨by rfl, ?_⟩) ?_
      rotate_left
      · (intro w' hSw; (try dsimp only at hSw); go_simp; (try with_reducible rfl))
      (try simp only [Act.put, List.setIfInBounds_toArray, List.set_cons_zero, List.set_cons_succ])
      refine wpAnyT_take3 (i := 2) (v := ?_) rfl (by kernel_rfl) (by kernel_rfl) (by kernel_rfl) (by kernel_rfl) (by kernel_rfl) (fun _ _ _ h => h) hS (Or.inl ⟨by rfl, ?_⟩) ?_
      rotate_left
      · (intro w' hSw; (try dsimp only at hSw); go_simp; (try with_reducible rfl))
      (try simp only [Act.put, List.setIfInBounds_toArray, List.set_cons_zero, List.set_cons_succ])
      refine wpAnyT_take3 (i := 3) (v := ?_) rfl (by kernel_rfl) (by kernel_rfl) (by kernel_rfl) (by kernel_rfl) (by kernel_rfl) (fun _ _ _ h => h) hS (Or.inl ⟨by rfl, ?_⟩) ?_
      rotate_left
      · (intro w' hSw; (try dsimp only at hSw); go_simp; (try with_reducible rfl))
      (try simp only [Act.put, List.setIfInBounds_toArray, List.set_cons_zero, List.set_cons_succ])
      refine wpAnyT_take3 (i := 4) (v := ?_) rfl (by kernel_rfl) (by kernel_rfl) (by kernel_rfl) (by kernel_rfl) (by kernel_rfl) (fun _ _ _ h => h) hS (Or.inl ⟨by rfl, ?_⟩) ?_
      rotate_left
      · (intro w' hSw; (try dsimp only at hSw); go_simp; (try with_reducible rfl))
      (try simp only [Act.put, List.setIfInBounds_toArray, List.set_cons_zero, List.set_cons_succ])
      refine wpAnyT_take3 (i := 5) (v := ?_) rfl (by kernel_rfl) (by kernel_rfl) (by kernel_rfl) (by kernel_rfl) (by kernel_rfl) (fun _ _ _ h => h) hS (Or.inl ⟨by rfl, ?_⟩) ?_
      rotate_left
      · (intro w' hSw; (try dsimp only at hSw); go_simp; (try with_reducible rfl))
      (try simp only [Act.put, List.setIfInBounds_toArray, List.set_cons_zero, List.set_cons_succ])
      refine wpAnyT_take3 (i := 6) (v := ?_) rfl (by kernel_rfl) (by kernel_rfl) (by kernel_rfl) (by kernel_rfl) (by kernel_rfl) (fun _ _ _ h => h) hS (Or.inl ⟨by rfl, ?_⟩) ?_
      rotate_left
      · (intro w' hSw; (try dsimp only at hSw); go_simp; (try with_reducible rfl))
      (try simp only [Act.put, List.setIfInBounds_toArray, List.set_cons_zero, List.set_cons_succ])
      refine wpAnyT_take3 (i := 7) (v := ?_) rfl (by kernel_rfl) (by kernel_rfl) (by kernel_rfl) (by kernel_rfl) (by kernel_rfl) (fun _ _ _ h => h) hS (Or.inl ⟨by rfl, ?_⟩) ?_
      rotate_left
      · (intro w' hSw; (try dsimp only at hSw); go_simp; (try with_reducible rfl))
      (try simp only [Act.put, List.setIfInBounds_toArray, List.set_cons_zero, List.set_cons_succ])
      refine wpAnyT_take3 (i := 8) (v := ?_) rfl (by kernel_rfl) (by kernel_rfl) (by kernel_rfl) (by kernel_rfl) (by kernel_rfl) (fun _ _ _ h => h) hS (Or.inl ⟨by rfl, ?_⟩) ?_
      rotate_left
      · (intro w' hSw; (try dsimp only at hSw); go_simp; (try with_reducible rfl))
      (try simp only [Act.put, List.setIfInBounds_toArray, List.set_cons_zero, List.set_cons_succ])
      refine wpAnyT_take3 (i := 9) (v := ?_) rfl (by kernel_rfl) (by kernel_rfl) (by kernel_rfl) (by kernel_rfl) (by kernel_rfl) (fun _ _ _ h => h) hS (Or.inl ⟨by rfl, ?_⟩) ?_
      rotate_left
      · (intro w' hSw; (try dsimp only at hSw); go_simp; (try with_reducible rfl))
      (try simp only [Act.put, List.setIfInBounds_toArray, List.set_cons_zero, List.set_cons_succ])
      refine wpAnyT_one (i := 10) (by kernel_rfl) rfl (fun K hK => ?_)
      go_simp
      refine HMC.out.mono ?_
      rintro e wF ⟨rfl, ⟨q8, rfl⟩⟩
      have HTF := Lib.hid (HTE.out.fresh (below_drewN (Below.refl wE.heap.size wE) q8))
      have HBF := Lib.hid (below_drewN HBE.out q8)
      refine hK _ _ (fun _ => (HKP.out _ HBF.out).2.1) ?_
      clear hK K
      (try simp only [Act.put, List.setIfInBounds_toArray, List.set_cons_zero, List.set_cons_succ])
      generalize wE.drewN q8 = wF at *
      clear hS HTE HBE HMC
      have z11 := (HKP.out _ HBF.out).2.2.2.2.2
      have hbA : Below wF.heap.size wF (wF.alloc (.cells #[.int .u64 pv] 22)) := (Below.refl _ _).alloc (Nat.le_refl _) _
      have HTF2 := Lib.hid (HTF.out.fresh hbA)
      have HBF2 : Hid (Below rs V (wF.alloc (.cells #[.int .u64 pv] 22))) := Lib.hid (HBF.out.trans (hbA.mono z11))
      have HZF := Lib.hid (Nat.le_trans z11 hbA.size)
      have HRW : Hid (Row (wF.alloc (.cells #[.int .u64 pv] 22)) (some ⟨wF.heap.size, 0, none⟩) [.int .u64 pv]) := Lib.hid (row_new wF [.int .u64 pv] 22)
      clear hbA z11
      refine wpAnyT_one (i := 11) (by kernel_rfl) rfl (fun K hK => ?_)
      go_simp
      refine hK _ _ (fun _ => (HKP.out _ HBF2.out).2.1) ?_
      clear hK K
      (try simp only [Act.put, List.setIfInBounds_toArray, List.set_cons_zero, List.set_cons_succ])
      generalize (wF.alloc (.cells #[.int .u64 pv] 22)) = wH at *
      generalize (⟨wF.heap.size, 0, none⟩ : Addr) = yh at *
      refine wpAnyT_one (i := 12) (by kernel_rfl) rfl (fun K hK => ?_)
      refine step_append_at wH Tryd.underlying41 info_u64 rfl _ _ rfl rs u c3 C1 yh ps pv rfl rfl HTF2.out.c HRW.out HZF.out (by omega) (by omega) ?_
      intro g11 cap11 w11 hown hbel hgrow hloc
      have HTG := Lib.hid (HTF2.out.pushC hown hgrow hloc)
      have HBG2 := Lib.hid (HBF2.out.trans hbel)
      clear hown hbel hgrow hloc
      refine hK _ _ (fun h => absurd h (by decide)) ?_
      clear hK K
      (try simp only [Act.put, List.setIfInBounds_toArray, List.set_cons_zero, List.set_cons_succ])
      refine wpAnyT_one (i := 13) (by kernel_rfl) rfl (fun K hK => ?_)
      go_simp
      refine hK _ _ (fun h => absurd h (by decide)) ?_
      clear hK K
      (try simp only [Act.put, List.setIfInBounds_toArray, List.set_cons_zero, List.set_cons_succ])
      refine wpAnyT_done (by kernel_rfl) ?_ _
      refine NoPanic.normal ?_
      go_wp2
      go_roundw
      case rel => exact ⟨u + 1, _, _, _, _, _, _, by omega, by go_num, rfl, rfl, rfl, Lib.hid (by rw [HE1.out, HE2.out, HE3.out]; exact HTG.out), HBG2⟩
      case measure => simp [intOf]; omega
    · have hue : u = r := by omega
      have HT2 : Hid (Thr rs A1 B1 C1 r c1 r c2 r c3 (gatL x I) (gatL tab F) (plcL p tab F O) wr) := Lib.hid (by
        have h1 := HTH.out
        rw [hue, List.take_of_length_le (by rw [gatL_length, HI.out]; exact Nat.le_refl _), List.take_of_length_le (by rw [gatL_length, HF.out]; exact Nat.le_refl _), List.take_of_length_le (by rw [plcL_length, HF.out]; exact Nat.le_refl _)] at h1
        exact h1)
      have hu0 : u ≤ r := hu
      clear HTH hu hlu
      subst hue
      obtain ⟨ga, capa, hA1, _, _⟩ := World.ownsRow.form HT2.out.a (show 0 < u by omega)
      obtain ⟨gx, capx, hB1, _, _⟩ := World.ownsRow.form HT2.out.b (show 0 < u by omega)
      obtain ⟨gy, capy, hC1, _, _⟩ := World.ownsRow.form HT2.out.c (show 0 < u by omega)
      cases hA1
      cases hB1
      cases hC1
      have hbL : Below wr.heap.size wr (wr.alloc (.cells #[.slice (some ⟨gx, 0, none⟩) u c2, .slice (some ⟨gy, 0, none⟩) u c3] 41)) := (Below.refl _ _).alloc (Nat.le_refl _) _
      have HGR : Hid (og < rs) := Lib.hid (by rw [HRS.out]; exact HGB.out)
      have hrw : rs ≤ wr.heap.size := by rw [HRS.out]; exact (show Below V.heap.size V wr by rw [← HRS.out]; exact HBW.out).size
      have HBV2 : Hid (Below V.heap.size V (wr.alloc (.cells #[.slice (some ⟨gx, 0, none⟩) u c2, .slice (some ⟨gy, 0, none⟩) u c3] 41))) := Lib.hid (by rw [← HRS.out]; exact HBW.out.trans (hbL.mono hrw))
      have HXA : Hid (RowX og (wr.alloc (.cells #[.slice (some ⟨gx, 0, none⟩) u c2, .slice (some ⟨gy, 0, none⟩) u c3] 41)) (some ⟨ga, 0, none⟩) (nums .u64 (gatL x I))) := Lib.hid (Own.rowX (HT2.out.a.grown hbL) HGR.out)
      have HXB : Hid (RowX og (wr.alloc (.cells #[.slice (some ⟨gx, 0, none⟩) u c2, .slice (some ⟨gy, 0, none⟩) u c3] 41)) (some ⟨gx, 0, none⟩) (nums .u64 (gatL tab F))) := Lib.hid (Own.rowX (HT2.out.b.grown hbL) HGR.out)
      have HXC : Hid (RowX og (wr.alloc (.cells #[.slice (some ⟨gx, 0, none⟩) u c2, .slice (some ⟨gy, 0, none⟩) u c3] 41)) (some ⟨gy, 0, none⟩) (nums .u64 (plcL p tab F O))) := Lib.hid (Own.rowX (HT2.out.c.grown hbL) HGR.out)
      have HXL : Hid (RowX og (wr.alloc (.cells #[.slice (some ⟨gx, 0, none⟩) u c2, .slice (some ⟨gy, 0, none⟩) u c3] 41)) (some ⟨wr.heap.size, 0, none⟩) [.slice (some ⟨gx, 0, none⟩) u c2, .slice (some ⟨gy, 0, none⟩) u c3]) :=
        Lib.hid (Own.rowX (own_one wr wr.heap.size 41 [.slice (some ⟨gx, 0, none⟩) u c2, .slice (some ⟨gy, 0, none⟩) u c3] 2 (Nat.le_refl _) rfl (by decide)) (by have := HGR.out; omega))
      clear hbL hrw HT2 HBW HRA HRB HRC HRX HRT HBX HBT
      go_wp2
      generalize (wr.alloc (.cells #[.slice (some ⟨gx, 0, none⟩) u c2, .slice (some ⟨gy, 0, none⟩) u c3] 41)) = V2 at *
      generalize wr.heap.size = sb at *
      have HOW2 : Hid (Own V2 og 77 1 (some ⟨og, 0, none⟩) 2 2 (nums .u64 (st2 p a b y0 y1 0))) := Lib.hid (HOW.out.grown HBV2.out)
      go_loopw [64] (fun q ws => ∃ k : Nat, k ≤ 2 ∧ q = .int .i64 k ∧ Hid (Own ws og 77 1 (some ⟨og, 0, none⟩) 2 2 (nums .u64 (st2 p a b y0 y1 k))) ∧ Hid (Grown og V2 ws)) (fun q _ => 2 - (intOf q).toNat)
      case atStart => exact ⟨0, by decide, rfl, HOW2, Lib.hid (Grown.refl _ _)⟩
      case round =>
        obtain ⟨k, hk, rfl, HOK, HGK⟩ := hrel
        by_cases hk2 : k < 2
        · have hkk : ∃ (gk ck : Nat) (l : List Int) (yk cur : Int), wr.cell? ⟨sb, k, none⟩ = some (.slice (some ⟨gk, 0, none⟩) u ck) ∧ RowX og V2 (some ⟨gk, 0, none⟩) (nums .u64 l) ∧ l.length = u ∧ (∀ d ∈ l, U64 d) ∧ (t = false → weighS p inv (gatL x I) l = (yk, 0)) ∧ (t = true → mulS p ((gatL x I).getD 0 0) (l.getD 0 0) = yk) ∧ U64 yk ∧ U64 cur ∧
              wr.cell? ⟨og, k, none⟩ = some (.int .u64 cur) ∧ (nums .u64 (st2 p a b y0 y1 k)).set k (.int .u64 (addS p cur yk)) = nums .u64 (st2 p a b y0 y1 (k + 1)) := by
            rcases (show k = 0 ∨ k = 1 by omega) with rfl | rfl
            · exact ⟨gx, c2, gatL tab F, y0, a, RowX.cellB (HXL.out.grown HGK.out) (i := 0) rfl, HXB.out, by rw [gatL_length]; exact HF.out, gatL_u64 HUT.out, HW0.out, HV0.out, HY0.out, HUA.out, HOK.out.cellAt 0 (by decide), rfl⟩
            · exact ⟨gy, c3, plcL p tab F O, y1, b, RowX.cellB (HXL.out.grown HGK.out) (i := 1) rfl, HXC.out, by rw [plcL_length]; exact HF.out, plcL_u64 _ _ _ _, HW1.out, HV1.out, HY1.out, HUB.out, HOK.out.cellAt 1 (by decide), rfl⟩
          obtain ⟨gk, ck, l, yk, cur, kc0, kr, kl, ku, kw, kv, ky, kcu, kcc, kst⟩ := hkk
          have HKR := Lib.hid kr
          have HKL := Lib.hid kl
          have HKU := Lib.hid ku
          have HKW := Lib.hid kw
          have HKY := Lib.hid ky
          have HKC := Lib.hid kcu
          have HST := Lib.hid kst
          have hl0 : 0 < l.length := by omega
          have hg0 : 0 < (gatL x I).length := by rw [gatL_length, HI.out]; omega
          have e1 : l.getD 0 0 = l[0] := getD_of hl0 0
          have e2 : (gatL x I).getD 0 0 = (gatL x I)[0] := getD_of hg0 0
          have HU0 : Hid (U64 (gatL x I)[0]) := Lib.hid (gatL_u64 HUX.out _ (List.getElem_mem hg0))
          have HU1 : Hid (U64 l[0]) := Lib.hid (HKU.out _ (List.getElem_mem hl0))
          rw [e1, e2] at kv
          have HKV := Lib.hid kv
          have HX0 : Hid (∀ ws, Grown og V2 ws → ws.cell? ⟨bp, 0, none⟩ = some (.int .u64 p) ∧ ws.cell? ⟨ga, 0, none⟩ = some (.int .u64 (gatL x I)[0]) ∧ ws.cell? ⟨gk, 0, none⟩ = some (.int .u64 l[0])) := Lib.hid fun ws h =>
            ⟨RowX.cellB ((HBP.out.below HBV2.out).grown h) (i := 0) rfl, RowX.cellB (HXA.out.grown h) (nums_get .u64 _ 0 hg0), RowX.cellB (HKR.out.grown h) (nums_get .u64 _ 0 hl0)⟩
          clear kr kl ku kw kv ky kcu kst e1 e2
          generalize (gatL x I)[0] = x0 at *
          generalize l[0] = l0 at *
          clear hl0 hg0
          go_wp2
          have hu1 : 0 < u := by omega
          have HGD : Hid (Grown og V2 wr.drew) := Lib.hid (HGK.out.drewN 1)
          have HOD : Hid (Own wr.drew og 77 1 (some ⟨og, 0, none⟩) 2 2 (nums .u64 (st2 p a b y0 y1 k))) := Lib.hid (HOK.out.drewN 1)
          have hcc : wr.drew.cell? ⟨og, k, none⟩ = some (.int .u64 cur) := kcc
          refine region_marks2 (k := 10) (S := (fun w' => w'.cell? ⟨bp, 0, none⟩ = some (.int .u64 p) ∧ w'.cell? ⟨ga, 0, none⟩ = some (.int .u64 x0) ∧ w'.cell? ⟨gk, 0, none⟩ = some (.int .u64 l0))) (T := fun _ => true) HMX.out rfl (HX0.out _ HGD.out) (fun hS => ?_)
          clear HGK HOK kc0 kcc
          generalize wr.drew = wD at *
          have HMC := Lib.hid (mul_calls p x0 l0 wD HP.out HU0.out HU1.out)
          generalize mulS p x0 l0 = z at *
          refine wpAnyT_take3 (i := 0) (v := ?_) rfl (by kernel_rfl) (by kernel_rfl) (by kernel_rfl) (by kernel_rfl) (by kernel_rfl) (fun _ _ _ h => h) hS (Or.inl ⟨by rfl, ?_⟩) ?_
          rotate_left
          · (intro w' hSw; (try dsimp only at hSw); go_simp; (try with_reducible rfl))
          (try simp only [Act.put, List.setIfInBounds_toArray, List.set_cons_zero, List.set_cons_succ])
          refine wpAnyT_take3 (i := 1) (v := ?_) rfl (by kernel_rfl) (by kernel_rfl) (by kernel_rfl) (by kernel_rfl) (by kernel_rfl) (fun _ _ _ h => h) hS (Or.inl ⟨by rfl, ?_⟩) ?_
          rotate_left
          · (intro w' hSw; (try dsimp only at hSw); go_simp; (try with_reducible rfl))
          (try simp only [Act.put, List.setIfInBounds_toArray, List.set_cons_zero, List.set_cons_succ])
          refine wpAnyT_take3 (i := 2) (v := ?_) rfl (by kernel_rfl) (by kernel_rfl) (by kernel_rfl) (by kernel_rfl) (by kernel_rfl) (fun _ _ _ h => h) hS (Or.inl ⟨by rfl, ?_⟩) ?_
          rotate_left
          · (intro w' hSw; (try dsimp only at hSw); go_simp; (try with_reducible rfl))
          (try simp only [Act.put, List.setIfInBounds_toArray, List.set_cons_zero, List.set_cons_succ])
          refine wpAnyT_take3 (i := 3) (v := ?_) rfl (by kernel_rfl) (by kernel_rfl) (by kernel_rfl) (by kernel_rfl) (by kernel_rfl) (fun _ _ _ h => h) hS (Or.inl ⟨by rfl, ?_⟩) ?_
          rotate_left
          · (intro w' hSw; (try dsimp only at hSw); go_simp; (try with_reducible rfl))
          (try simp only [Act.put, List.setIfInBounds_toArray, List.set_cons_zero, List.set_cons_succ])
          refine wpAnyT_take3 (i := 4) (v := ?_) rfl (by kernel_rfl) (by kernel_rfl) (by kernel_rfl) (by kernel_rfl) (by kernel_rfl) (fun _ _ _ h => h) hS (Or.inl ⟨by rfl, ?_⟩) ?_
          rotate_left
          · (intro w' hSw; (try dsimp only at hSw); go_simp; (try with_reducible rfl))
          (try simp only [Act.put, List.setIfInBounds_toArray, List.set_cons_zero, List.set_cons_succ])
          refine wpAnyT_take3 (i := 5) (v := ?_) rfl (by kernel_rfl) (by kernel_rfl) (by kernel_rfl) (by kernel_rfl) (by kernel_rfl) (fun _ _ _ h => h) hS (Or.inl ⟨by rfl, ?_⟩) ?_
          rotate_left
          · (intro w' hSw; (try dsimp only at hSw); go_simp; (try with_reducible rfl))
          (try simp only [Act.put, List.setIfInBounds_toArray, List.set_cons_zero, List.set_cons_succ])
          refine wpAnyT_take3 (i := 6) (v := ?_) rfl (by kernel_rfl) (by kernel_rfl) (by kernel_rfl) (by kernel_rfl) (by kernel_rfl) (fun _ _ _ h => h) hS (Or.inl ⟨by rfl, ?_⟩) ?_
          rotate_left
          · (intro w' hSw; (try dsimp only at hSw); go_simp; (try with_reducible rfl))
          (try simp only [Act.put, List.setIfInBounds_toArray, List.set_cons_zero, List.set_cons_succ])
          refine wpAnyT_one (i := 7) (by kernel_rfl) rfl (fun K hK => ?_)
          go_simp
          refine HMC.out.mono ?_
          rintro e wE ⟨rfl, ⟨q7, rfl⟩⟩
          have HGE := Lib.hid (HGD.out.drewN q7)
          have HOE := Lib.hid (HOD.out.drewN q7)
          have hce : (wD.drewN q7).cell? ⟨og, k, none⟩ = some (.int .u64 cur) := hcc
          refine hK _ _ (fun _ => HX0.out _ HGE.out) ?_
          clear hK K
          (try simp only [Act.put, List.setIfInBounds_toArray, List.set_cons_zero, List.set_cons_succ])
          clear hS
          have hS := HX0.out _ HGE.out
          refine wpAnyT_take3 (i := 8) (v := ?_) rfl (by kernel_rfl) (by kernel_rfl) (by kernel_rfl) (by kernel_rfl) (by kernel_rfl) (fun _ _ _ h => h) hS (Or.inl ⟨by rfl, ?_⟩) ?_
          rotate_left
          · (intro w' hSw; (try dsimp only at hSw); go_simp; (try with_reducible rfl))
          (try simp only [Act.put, List.setIfInBounds_toArray, List.set_cons_zero, List.set_cons_succ])
          refine wpAnyT_take3 (i := 9) (v := ?_) rfl (by kernel_rfl) (by kernel_rfl) (by kernel_rfl) (by kernel_rfl) (by kernel_rfl) (fun _ _ _ h => h) hS (Or.inl ⟨by rfl, ?_⟩) ?_
          rotate_left
          · (intro w' hSw; (try dsimp only at hSw); go_simp; (try with_reducible rfl))
          (try simp only [Act.put, List.setIfInBounds_toArray, List.set_cons_zero, List.set_cons_succ])
          refine wpAnyT_done (by kernel_rfl) ?_ _
          refine NoPanic.normal ?_
          generalize wD.drewN q7 = wE at *
          clear hS hcc HMC HGD HOD
          have hs1 := RowX.cellB ((HBS.out.below HBV2.out).grown HGE.out) HS1.out
          have hi1 := RowX.cellB ((HBI.out.below HBV2.out).grown HGE.out) (i := 0) rfl
          have hp1 := (HX0.out _ HGE.out).1
          cases t
          case true =>
            have hz : yk = z := (HKV.out rfl).symm
            subst hz
            go_wp2
            clear hs1 hi1 hp1
            have hwn : ∃ wN, wN = wE := ⟨_, rfl⟩
            obtain ⟨wN, hwn⟩ := hwn
            rw [← hwn] at HGE HOE hce ⊢
            clear hwn
            have HGN := HGE
            have HON := HOE
            have hcn := hce
            have HGQ : Hid (Grown og V2 wN.drew) := Lib.hid (HGN.out.drewN 1)
            have HOQ : Hid (Own wN.drew og 77 1 (some ⟨og, 0, none⟩) 2 2 (nums .u64 (st2 p a b y0 y1 k))) := Lib.hid (HON.out.drewN 1)
            have HSQ : Hid ((fun w' => w'.cell? ⟨bp, 0, none⟩ = some (.int .u64 p) ∧ w'.cell? ⟨og, k, none⟩ = some (.int .u64 cur)) wN.drew) := Lib.hid ⟨(HX0.out _ HGQ.out).1, hcn⟩
            refine region_marks2 (k := 9) (S := (fun w' => w'.cell? ⟨bp, 0, none⟩ = some (.int .u64 p) ∧ w'.cell? ⟨og, k, none⟩ = some (.int .u64 cur))) (T := fun i => decide (i < 8)) HMX.out rfl HSQ.out (fun hS => ?_)
            clear HGN HON hcn
            generalize wN.drew = wP at *
            have HAC := Lib.hid (add_calls p cur yk wP HP.out HKC.out HKY.out)
            refine wpAnyT_take3 (i := 0) (v := ?_) rfl (by kernel_rfl) (by kernel_rfl) (by kernel_rfl) (by kernel_rfl) (by kernel_rfl) (fun _ _ _ h => h) hS (Or.inl ⟨by rfl, ?_⟩) ?_
            rotate_left
            · (intro w' hSw; (try dsimp only at hSw); go_simp; (try with_reducible rfl))
            (try simp only [Act.put, List.setIfInBounds_toArray, List.set_cons_zero, List.set_cons_succ])
            refine wpAnyT_take3 (i := 1) (v := ?_) rfl (by kernel_rfl) (by kernel_rfl) (by kernel_rfl) (by kernel_rfl) (by kernel_rfl) (fun _ _ _ h => h) hS (Or.inl ⟨by rfl, ?_⟩) ?_
            rotate_left
            · (intro w' hSw; (try dsimp only at hSw); go_simp; (try with_reducible rfl))
            (try simp only [Act.put, List.setIfInBounds_toArray, List.set_cons_zero, List.set_cons_succ])
            refine wpAnyT_take3 (i := 2) (v := ?_) rfl (by kernel_rfl) (by kernel_rfl) (by kernel_rfl) (by kernel_rfl) (by kernel_rfl) (fun _ _ _ h => h) hS (Or.inl ⟨by rfl, ?_⟩) ?_
            rotate_left
            · (intro w' hSw; (try dsimp only at hSw); go_simp; (try with_reducible rfl))
            (try simp only [Act.put, List.setIfInBounds_toArray, List.set_cons_zero, List.set_cons_succ])
            refine wpAnyT_take3 (i := 3) (v := ?_) rfl (by kernel_rfl) (by kernel_rfl) (by kernel_rfl) (by kernel_rfl) (by kernel_rfl) (fun _ _ _ h => h) hS (Or.inl ⟨by rfl, ?_⟩) ?_
            rotate_left
            · (intro w' hSw; (try dsimp only at hSw); go_simp; (try with_reducible rfl))
            (try simp only [Act.put, List.setIfInBounds_toArray, List.set_cons_zero, List.set_cons_succ])
            refine wpAnyT_take3 (i := 4) (v := ?_) rfl (by kernel_rfl) (by kernel_rfl) (by kernel_rfl) (by kernel_rfl) (by kernel_rfl) (fun _ _ _ h => h) hS (Or.inl ⟨by rfl, ?_⟩) ?_
            rotate_left
            · (intro w' hSw; (try dsimp only at hSw); go_simp; (try with_reducible rfl))
            (try simp only [Act.put, List.setIfInBounds_toArray, List.set_cons_zero, List.set_cons_succ])
            refine wpAnyT_take3 (i := 5) (v := ?_) rfl (by kernel_rfl) (by kernel_rfl) (by kernel_rfl) (by kernel_rfl) (by kernel_rfl) (fun _ _ _ h => h) hS (Or.inl ⟨by rfl, ?_⟩) ?_
            rotate_left
            · (intro w' hSw; (try dsimp only at hSw); go_simp; (try with_reducible rfl))
            (try simp only [Act.put, List.setIfInBounds_toArray, List.set_cons_zero, List.set_cons_succ])
            refine wpAnyT_one (i := 6) (by kernel_rfl) rfl (fun K hK => ?_)
            go_simp
            refine HAC.out.mono ?_
            rintro e wR ⟨rfl, hwR⟩
            have HOR : Hid (Own wR og 77 1 (some ⟨og, 0, none⟩) 2 2 (nums .u64 (st2 p a b y0 y1 k))) := Lib.hid (by rw [hwR]; exact HOQ.out)
            have HGR9 : Hid (Grown og V2 wR) := Lib.hid (by rw [hwR]; exact HGQ.out)
            have HSR : Hid ((fun w' => w'.cell? ⟨bp, 0, none⟩ = some (.int .u64 p) ∧ w'.cell? ⟨og, k, none⟩ = some (.int .u64 cur)) wR) := Lib.hid (by rw [hwR]; exact HSQ.out)
            have hfr : wR.frozen? ⟨og, k, none⟩ = false := HOR.out.frozenAt k
            have hcr : wR.cell? ⟨og, k, none⟩ = some (.int .u64 cur) := HSR.out.2
            refine hK _ _ (fun _ => HSR.out) ?_
            clear hK K
            (try simp only [Act.put, List.setIfInBounds_toArray, List.set_cons_zero, List.set_cons_succ])
            clear hwR
            clear hS
            have hS := HSR.out
            refine wpAnyT_take3 (i := 7) (v := ?_) rfl (by kernel_rfl) (by kernel_rfl) (by kernel_rfl) (by kernel_rfl) (by kernel_rfl) (fun _ _ _ h => h) hS (Or.inl ⟨by rfl, ?_⟩) ?_
            rotate_left
            · (intro w' hSw; (try dsimp only at hSw); go_simp; (try with_reducible rfl))
            (try simp only [Act.put, List.setIfInBounds_toArray, List.set_cons_zero, List.set_cons_succ])
            have HO9 : Hid (Own (wR.setCell ⟨og, k, none⟩ (.int .u64 (addS p cur yk))) og 77 1 (some ⟨og, 0, none⟩) 2 2 (nums .u64 (st2 p a b y0 y1 (k + 1)))) := Lib.hid (by rw [← HST.out]; exact HOR.out.stored k _)
            have HG9 : Hid (Grown og V2 (wR.setCell ⟨og, k, none⟩ (.int .u64 (addS p cur yk)))) := Lib.hid (HGR9.out.setCell k _)
            refine wpAnyT_one (i := 8) (by kernel_rfl) rfl (fun K hK => ?_)
            go_simp
            refine hK _ _ (fun h => absurd h (by decide)) ?_
            clear hK K
            (try simp only [Act.put, List.setIfInBounds_toArray, List.set_cons_zero, List.set_cons_succ])
            refine wpAnyT_done (by kernel_rfl) ?_ _
            refine NoPanic.normal ?_
            clear hS hfr hcr HAC HOQ HGQ HSQ HSR
            go_wp2
            go_roundw
            case rel => exact ⟨k + 1, by omega, by go_num, HO9, HG9⟩
            case measure => simp [intOf]; omega
          case false =>
            go_wp2_with fail
            clear hs1 hi1 hp1
            refine (weigh_n p inv (some ⟨ga, 0, none⟩) (some ⟨gk, 0, none⟩) u c1 u ck (gatL x I) l wE (by rw [gatL_length]; exact HI.out) HKL.out HP.out (HXA.out.grown HGE.out).1 (by omega) (gatL_u64 HUX.out) (HKR.out.grown HGE.out).1 (by omega) HKU.out).mono ?_
            rw [HKW.out (by first | rfl | trivial)]
            rintro e wN ⟨rfl, hb⟩
            have HGN := Lib.hid (HGE.out.below hb)
            have HON := Lib.hid (Own.grown HOE.out hb)
            have hcn : wN.cell? ⟨og, k, none⟩ = some (.int .u64 cur) := (hb.cell (Own.base HOE.out).2).trans hce
            clear hb hce HGE HOE
            go_wp2
            have HGQ : Hid (Grown og V2 wN.drew) := Lib.hid (HGN.out.drewN 1)
            have HOQ : Hid (Own wN.drew og 77 1 (some ⟨og, 0, none⟩) 2 2 (nums .u64 (st2 p a b y0 y1 k))) := Lib.hid (HON.out.drewN 1)
            have HSQ : Hid ((fun w' => w'.cell? ⟨bp, 0, none⟩ = some (.int .u64 p) ∧ w'.cell? ⟨og, k, none⟩ = some (.int .u64 cur)) wN.drew) := Lib.hid ⟨(HX0.out _ HGQ.out).1, hcn⟩
            refine region_marks2 (k := 9) (S := (fun w' => w'.cell? ⟨bp, 0, none⟩ = some (.int .u64 p) ∧ w'.cell? ⟨og, k, none⟩ = some (.int .u64 cur))) (T := fun i => decide (i < 8)) HMX.out rfl HSQ.out (fun hS => ?_)
            clear HGN HON hcn
            generalize wN.drew = wP at *
            have HAC := Lib.hid (add_calls p cur yk wP HP.out HKC.out HKY.out)
            refine wpAnyT_take3 (i := 0) (v := ?_) rfl (by kernel_rfl) (by kernel_rfl) (by kernel_rfl) (by kernel_rfl) (by kernel_rfl) (fun _ _ _ h => h) hS (Or.inl ⟨by rfl, ?_⟩) ?_
            rotate_left
            · (intro w' hSw; (try dsimp only at hSw); go_simp; (try with_reducible rfl))
            (try simp only [Act.put, List.setIfInBounds_toArray, List.set_cons_zero, List.set_cons_succ])
            refine wpAnyT_take3 (i := 1) (v := ?_) rfl (by kernel_rfl) (by kernel_rfl) (by kernel_rfl) (by kernel_rfl) (by kernel_rfl) (fun _ _ _ h => h) hS (Or.inl ⟨by rfl, ?_⟩) ?_
            rotate_left
            · (intro w' hSw; (try dsimp only at hSw); go_simp; (try with_reducible rfl))
            (try simp only [Act.put, List.setIfInBounds_toArray, List.set_cons_zero, List.set_cons_succ])
            refine wpAnyT_take3 (i := 2) (v := ?_) rfl (by kernel_rfl) (by kernel_rfl) (by kernel_rfl) (by kernel_rfl) (by kernel_rfl) (fun _ _ _ h => h) hS (Or.inl ⟨by rfl, ?_⟩) ?_
            rotate_left
            · (intro w' hSw; (try dsimp only at hSw); go_simp; (try with_reducible rfl))
            (try simp only [Act.put, List.setIfInBounds_toArray, List.set_cons_zero, List.set_cons_succ])
            refine wpAnyT_take3 (i := 3) (v := ?_) rfl (by kernel_rfl) (by kernel_rfl) (by kernel_rfl) (by kernel_rfl) (by kernel_rfl) (fun _ _ _ h => h) hS (Or.inl ⟨by rfl, ?_⟩) ?_
            rotate_left
            · (intro w' hSw; (try dsimp only at hSw); go_simp; (try with_reducible rfl))
            (try simp only [Act.put, List.setIfInBounds_toArray, List.set_cons_zero, List.set_cons_succ])
            refine wpAnyT_take3 (i := 4) (v := ?_) rfl (by kernel_rfl) (by kernel_rfl) (by kernel_rfl) (by kernel_rfl) (by kernel_rfl) (fun _ _ _ h => h) hS (Or.inl ⟨by rfl, ?_⟩) ?_
            rotate_left
            · (intro w' hSw; (try dsimp only at hSw); go_simp; (try with_reducible rfl))
            (try simp only [Act.put, List.setIfInBounds_toArray, List.set_cons_zero, List.set_cons_succ])
            refine wpAnyT_take3 (i := 5) (v := ?_) rfl (by kernel_rfl) (by kernel_rfl) (by kernel_rfl) (by kernel_rfl) (by kernel_rfl) (fun _ _ _ h => h) hS (Or.inl ⟨by rfl, ?_⟩) ?_
            rotate_left
            · (intro w' hSw; (try dsimp only at hSw); go_simp; (try with_reducible rfl))
            (try simp only [Act.put, List.setIfInBounds_toArray, List.set_cons_zero, List.set_cons_succ])
            refine wpAnyT_one (i := 6) (by kernel_rfl) rfl (fun K hK => ?_)
            go_simp
            refine HAC.out.mono ?_
            rintro e wR ⟨rfl, hwR⟩
            have HOR : Hid (Own wR og 77 1 (some ⟨og, 0, none⟩) 2 2 (nums .u64 (st2 p a b y0 y1 k))) := Lib.hid (by rw [hwR]; exact HOQ.out)
            have HGR9 : Hid (Grown og V2 wR) := Lib.hid (by rw [hwR]; exact HGQ.out)
            have HSR : Hid ((fun w' => w'.cell? ⟨bp, 0, none⟩ = some (.int .u64 p) ∧ w'.cell? ⟨og, k, none⟩ = some (.int .u64 cur)) wR) := Lib.hid (by rw [hwR]; exact HSQ.out)
            have hfr : wR.frozen? ⟨og, k, none⟩ = false := HOR.out.frozenAt k
            have hcr : wR.cell? ⟨og, k, none⟩ = some (.int .u64 cur) := HSR.out.2
            refine hK _ _ (fun _ => HSR.out) ?_
            clear hK K
            (try simp only [Act.put, List.setIfInBounds_toArray, List.set_cons_zero, List.set_cons_succ])
            clear hwR
            clear hS
            have hS := HSR.out
            refine wpAnyT_take3 (i := 7) (v := ?_) rfl (by kernel_rfl) (by kernel_rfl) (by kernel_rfl) (by kernel_rfl) (by kernel_rfl) (fun _ _ _ h => h) hS (Or.inl ⟨by rfl, ?_⟩) ?_
            rotate_left
            · (intro w' hSw; (try dsimp only at hSw); go_simp; (try with_reducible rfl))
            (try simp only [Act.put, List.setIfInBounds_toArray, List.set_cons_zero, List.set_cons_succ])
            have HO9 : Hid (Own (wR.setCell ⟨og, k, none⟩ (.int .u64 (addS p cur yk))) og 77 1 (some ⟨og, 0, none⟩) 2 2 (nums .u64 (st2 p a b y0 y1 (k + 1)))) := Lib.hid (by rw [← HST.out]; exact HOR.out.stored k _)
            have HG9 : Hid (Grown og V2 (wR.setCell ⟨og, k, none⟩ (.int .u64 (addS p cur yk)))) := Lib.hid (HGR9.out.setCell k _)
            refine wpAnyT_one (i := 8) (by kernel_rfl) rfl (fun K hK => ?_)
            go_simp
            refine hK _ _ (fun h => absurd h (by decide)) ?_
            clear hK K
            (try simp only [Act.put, List.setIfInBounds_toArray, List.set_cons_zero, List.set_cons_succ])
            refine wpAnyT_done (by kernel_rfl) ?_ _
            refine NoPanic.normal ?_
            clear hS hfr hcr HAC HOQ HGQ HSQ HSR
            go_wp2
            go_roundw
            case rel => exact ⟨k + 1, by omega, by go_num, HO9, HG9⟩
            case measure => simp [intOf]; omega
        · have hk3 : k = 2 := by omega
          have HOE : Hid (Own wr og 77 1 (some ⟨og, 0, none⟩) 2 2 (nums .u64 [addS p a y0, addS p b y1])) := Lib.hid (by have h1 := HOK.out; rw [hk3] at h1; exact h1)
          have HGE : Hid (Grown og w wr) := Lib.hid ((HG0.out.below HBV2.out).trans HGK.out)
          clear hk3
          go_wp2
          first | go_end0 | skip
          exact ⟨rfl, HOE.out, HGE.out⟩
end Go.Proofs.YtohcoidbncbijaaDoor.P
/- step.each, told to step.Predict's closure: the sums of all words. Conditions: the step may be; the rows lie where the sums don't. -/
namespace Go.Proofs.YtohcoidbncbijaaDoor.P
open Go.RowKit
set_option linter.unusedVariables false
def InvP (og : Nat) (V : World) (p : Int) (y : List Int) (G : Nat → Nat) (g : Nat) (ws : World) : Prop :=
  Grown og V ws ∧ Own ws og 77 1 (some ⟨og, 0, none⟩) 2 2 (nums .u64 [redS p (csum one' (outN y G g)), redS p (csum plc' (outN y G g))])
theorem tellsP (og : Nat) (V : World) (p : Int) (y : List Int) (G : Nat → Nat) : Tells (InvP og V p y G) (MineB og) :=
  ⟨fun g w b hi hb => by have h1 := (Own.base hi.2).2; rw [show b = og from hb]; exact h1,
   fun g w w' hi hb => ⟨⟨hi.1.below hb, hi.2.grown hb⟩, fun b h => h⟩⟩
theorem pr1_cf (args : Array Value) (w : World) : (callFunc 94 args).run Tryd.prog w = .ok (.enter 94 args) w := by kernel_rfl
theorem hb_one (p : Int) (tab F O : List Int) {u : Nat} (hu : u < F.length) : redS p ((gatL tab F).getD u 0) = redS p (tab.getD (F.getD u 0).toNat 0 * one' (O.getD u 0).toNat) := by
  rw [gatL_at _ _ hu]; unfold one'; rw [Int.mul_one]
theorem hb_plc (p : Int) (tab F O : List Int) {u : Nat} (hu : u < F.length) (hO : 0 ≤ O.getD u 0) : redS p ((plcL p tab F O).getD u 0) = redS p (tab.getD (F.getD u 0).toNat 0 * plc' (O.getD u 0).toNat) := by
  rw [plcL_at p tab F O hu]; unfold mulS plc'; rw [redS_redS, Int.toNat_of_nonneg hO]
theorem tabR_in {p : Int} (hk : knownS p = true) (W : Int) (r m : Nat) : inS p (tabR p W r m) = true := by
  rw [inS_all, hk]
  intro j hj
  have h1 := List.getElem_mem hj
  simp only [tabR, List.mem_map] at h1
  obtain ⟨u, _, h2⟩ := h1
  rw [show (tabR p W r m)[j] = powS p (powS p W (u / r)) (u % r) from h2.symm]
  exact redS_hi _ hk
theorem plcL_in {p : Int} (hk : knownS p = true) (tab F O : List Int) : inS p (plcL p tab F O) = true := by
  rw [inS_all, hk]
  intro j hj
  have h1 := List.getElem_mem hj
  simp only [plcL, List.mem_map] at h1
  obtain ⟨u, _, h2⟩ := h1
  rw [show (plcL p tab F O)[j] = mulS p (tab.getD (F.getD u 0).toNat 0) (O.getD u 0 + 1) from h2.symm]
  exact redS_hi _ hk
theorem weigh_ok {p : Int} {inv : Bool} {X v Y : List Int} {R : Nat} (hd : doS p inv X = (Y, 0)) (hX : X.length = R) (hv : v.length = R) (hi : inS p v = true) : weighS p inv X v = (weighF p (rtS p (R : Int) inv) X v, 0) := by
  unfold weighS
  rw [if_pos (by rw [hd]), if_pos (by rw [hv, hX]), if_pos hi, hX]
  rfl
theorem each_pred (p : Int) (A : Option Addr) (c n : Nat) (ax : List (Int × Bool)) (inv : Bool) (k : Nat) (s1 : Bool) (s2 s3 s4 : Int) (N : Nat) (neg : Bool) (X : Option Addr) (cx m : Nat) (x : List Int) (T : Option Addr) (tl tc : Nat) (og bx bs bp bi bb bt : Nat) (V : World)
    (hK : StepK p ax ((k : Int), s1, s2, s3, s4) k N neg) (hn : ax.length = n) (hl : n ≤ 8796093022208) (hw : ∀ a ∈ ax, i64 a.1) (hm : x.length = m) (hpx : prodL (dimsA ax) = x.length) (hin : inS p x = true) (hux : ∀ d ∈ x, U64 d) (hp : U64 p)
    (htl : (tabL p N neg inv ((k : Int), s1, s2, s3, s4)).length = tl)
    (hr : RowX og V A (axR ax)) (hrX : RowX og V X (nums .u64 x)) (hrT : RowX og V T (nums .u64 (tabL p N neg inv ((k : Int), s1, s2, s3, s4))))
    (hbx : RowX og V (some ⟨bx, 0, none⟩) [.slice X m cx]) (hbs : RowX og V (some ⟨bs, 0, none⟩) [.int .i64 (k : Int), .bool s1, .int .i64 s2, .int .i64 s3, .int .i64 s4]) (hbp : RowX og V (some ⟨bp, 0, none⟩) [.int .u64 p]) (hbi : RowX og V (some ⟨bi, 0, none⟩) [.bool inv])
    (hbt : RowX og V (some ⟨bt, 0, none⟩) [.slice T tl tc]) (hown : Own V og 77 1 (some ⟨og, 0, none⟩) 2 2 (nums .u64 [0, 0])) :
    Calls Tryd.prog 76 #[.slice A n c, .agg #[.int .i64 (k : Int), .bool s1, .int .i64 s2, .int .i64 s3, .int .i64 s4], .func (.func 94) #[] #[.pointer (some ⟨bt, 0, none⟩), .pointer (some ⟨bx, 0, none⟩), .pointer (some ⟨bp, 0, none⟩), .pointer (some ⟨bs, 0, none⟩), .pointer (some ⟨bi, 0, none⟩), .pointer (some ⟨bb, 0, none⟩), .pointer (some ⟨og, 0, none⟩)]] V fun e w' =>
      e = .returned (.int .i64 0) ∧ Own w' og 77 1 (some ⟨og, 0, none⟩) 2 2 (nums .u64 [redS p (csum one' (stepDo p ax inv ((k : Int), s1, s2, s3, s4) x)), redS p (csum plc' (stepDo p ax inv ((k : Int), s1, s2, s3, s4) x))]) ∧ Grown og V w' := by
  have hAx := (hK.chk.at hK.lt).1
  have hm4 : m ≤ 4096 := by have h1 := hK.chk.dims.all; omega
  have hN4 := hK.c6.n2
  have hN1 := hK.c6.n1
  have htl4 : tl ≤ 4096 := by have := tabL_len hK inv; omega
  have hy : stepDo p ax inv ((k : Int), s1, s2, s3, s4) x = linA p (dimsA ax) k (stepM p N neg inv ((k : Int), s1, s2, s3, s4)) x := by
    unfold stepDo
    dsimp only
    rw [Int.toNat_natCast, hK.get, hK.dim, Int.toNat_natCast]
  have hut := tabL_u64 p N neg inv ((k : Int), s1, s2, s3, s4)
  rcases hK.kind with ⟨ht, hz⟩ | ⟨ht, hz⟩
  · dsimp only at ht hz
    subst ht
    simp only [Prod.mk.injEq] at hz
    obtain ⟨rfl, rfl, rfl⟩ := hz
    rw [hy]
    generalize hyy : linA p (dimsA ax) k (stepM p N neg inv ((k : Int), true, 0, 0, 0)) x = y
    have hyl : y.length = m := by rw [← hyy, linA_length, hm]
    refine (seach_twist _ _ p A c n ax k N neg m (InvP og V p y (gNo (dimsA ax) k true 0 0 0)) (MineB og) V pr1_cf hn hr.rowM hl hw hK (tellsP ..) (by rw [hpx, hm]) ?_ ?_).mono ?_
    · intro g hg w A1 B1 C1 ca cb cc hi ra rb rc
      have hok := twist_ok hAx hK.dim p inv neg (k : Int) 0 0 0 hpx (g := g) (by omega)
      rw [hyy, ← tabL_twist p N neg inv (k : Int) 0 0 0] at hok
      have hxv := hAx.xv (g : Int)
      have hdim := hK.dim
      have hs0 := hok.sum (twist_apart (dimsA ax) k g) rfl one' (by' := gatL (tabL p N neg inv ((k : Int), true, 0, 0, 0)) [P.xv (dimsA ax) k g]) (fun u hu => hb_one p _ _ _ hu)
      have hs1 := hok.sum (twist_apart (dimsA ax) k g) rfl plc' (by' := plcL p (tabL p N neg inv ((k : Int), true, 0, 0, 0)) [P.xv (dimsA ax) k g] [(g : Int)]) (fun u hu => hb_plc p _ _ _ hu (by
        have hu0 : u = 0 := by have h1 : u < 1 := hu; omega
        subst hu0
        show (0 : Int) ≤ (g : Int)
        omega))
      have e1 : ∀ l m : List Int, redS p (S ((grpT (dimsA ax) k g).2.2).length (fun u => l.getD u 0 * m.getD u 0)) = mulS p (l.getD 0 0) (m.getD 0 0) := fun l m => by
        show redS p (0 + l.getD 0 0 * m.getD 0 0) = _
        rw [Int.zero_add]
        rfl
      rw [e1] at hs0 hs1
      refine (spr1_calls p inv true _ A1 B1 C1 ca cb cc 1 [(g : Int)] [P.xv (dimsA ax) k g] [(g : Int)] X cx m x T tl tc _ og bx bs bp bi bb bt _ _ _ _ w
        rfl rfl rfl (by decide) (by decide) hm hm4 (by intro v hv; simp at hv; omega) (by intro v hv; simp at hv; omega) htl htl4 ?_ hux hut (u64_redS _ _) (u64_redS _ _) hp (fun h => by cases h) (fun h => by cases h) (fun _ => rfl) (fun _ => rfl) (u64_mulS _ _ _) (u64_mulS _ _ _)
        (ra.rowX (List.cons_ne_nil _ _)) (rb.rowX (List.cons_ne_nil _ _)) (rc.rowX (List.cons_ne_nil _ _)) (hrX.grown hi.1) (hrT.grown hi.1) (hbx.grown hi.1) (hbs.grown hi.1) rfl (hbp.grown hi.1) (hbi.grown hi.1) (hbt.grown hi.1) hi.2).mono ?_
      · intro v hv
        simp at hv
        rw [tabL_twist] at htl
        simp at htl
        omega
      · rintro e w' ⟨rfl, ho, hg'⟩
        refine ⟨rfl, ⟨hi.1.trans hg', ?_⟩, hg'.kp⟩
        rw [hs0, hs1]
        exact ho
    · refine ⟨Grown.refl _ _, ?_⟩
      rw [outN_zero, csum_zero, csum_zero, redS_zero]
      exact hown
    · rintro e w' ⟨rfl, hi, _⟩
      refine ⟨rfl, ?_, hi.1⟩
      have h1 := hi.2
      rw [outN_all y _ (fun v hv => by unfold gNo; rw [if_pos rfl]; omega)] at h1
      exact h1
  · dsimp only at ht hz
    subst ht
    obtain ⟨R, L, M, hs, hS⟩ := stg_mem hK.c6.smooth hz
    simp only [Prod.mk.injEq] at hs
    obtain ⟨rfl, rfl, rfl⟩ := hs
    have hX : AxSt (dimsA ax) k R L M N := ⟨hAx, hK.dim, hS⟩
    obtain ⟨K, hKK⟩ := Int.eq_ofNat_of_zero_le (show 0 ≤ prodL (dimsA ax) / (N : Int) from Int.ediv_nonneg (by omega) (by omega))
    rw [hy]
    generalize hyy : linA p (dimsA ax) k (stepM p N neg inv ((k : Int), false, (R : Int), (L : Int), (M : Int))) x = y
    have hyl : y.length = m := by rw [← hyy, linA_length, hm]
    have hR := hS.r2
    have hR5 := hS.r5
    refine (seach_stage _ _ p A c n ax k N neg R L M K (InvP og V p y (gNo (dimsA ax) k false R L M)) (MineB og) V pr1_cf hn hr.rowM hl hw hK hS (tellsP ..) hKK ?_ ?_).mono ?_
    · intro g hg w A1 B1 C1 ca cb cc hi ra rb rc
      have hL1 := hS.l1
      have hM1 := hS.m1
      have g1 : g % L < L := Nat.mod_lt _ (by omega)
      have g2 : g / L % M < M := Nat.mod_lt _ (by omega)
      have g3 : g / L / M < K := by
        rw [Nat.div_lt_iff_lt_mul (by omega), Nat.div_lt_iff_lt_mul (by omega)]; exact hg
      have ge : g = (g / L / M * M + g / L % M) * L + g % L := by
        rw [Nat.mul_comm (g / L / M) M, Nat.div_add_mod (g / L) M, Nat.mul_comm (g / L) L, Nat.div_add_mod]
      have hG := grpG_stage (dimsA ax) k R (j := g / L / M) g2 g1
      rw [← ge] at hG
      rw [hG] at ra rb rc
      generalize g / L / M = j at *
      generalize g / L % M = a at *
      generalize g % L = b at *
      have hj : (j : Int) < prodL (dimsA ax) / (N : Int) := by rw [hKK]; omega
      have hok := hX.grp_ok p inv neg (k : Int) hpx g2 g1 hj
      rw [hyy, ← ge, ← tabL_stage p N neg inv (k : Int) hS] at hok
      have hap := hX.apart hj g2 g1
      have hlen := grpS_len (dimsA ax) k R L M j a b
      have iI : ∀ v ∈ (grpS (dimsA ax) k R L M j a b).1, 0 ≤ v ∧ v < (m : Int) := by
        intro v hv
        obtain ⟨t, ht, rfl⟩ := List.getElem_of_mem hv
        have h1 := hX.in_at j g2 g1 (t := t) (by omega) 0
        rw [getD_of ht] at h1
        rw [h1]
        have h2 := hX.q_in g2 g1 (t := t) (by omega)
        rw [q_form] at h2
        have h3 := hAx.plc_in hK.dim hj h2
        omega
      have iO : ∀ v ∈ (grpS (dimsA ax) k R L M j a b).2.2, 0 ≤ v ∧ v < (m : Int) := by
        intro v hv
        obtain ⟨t, ht, rfl⟩ := List.getElem_of_mem hv
        have h1 := hX.out_at j g2 g1 (t := t) (by omega) 0
        rw [getD_of ht] at h1
        rw [h1]
        have h2 := hX.q_out g2 g1 (t := t) (by omega)
        rw [q_form2] at h2
        have h3 := hAx.plc_in hK.dim hj h2
        omega
      have iF : ∀ v ∈ (grpS (dimsA ax) k R L M j a b).2.1, 0 ≤ v ∧ v < (tl : Int) := by
        intro v hv
        obtain ⟨t, ht, rfl⟩ := List.getElem_of_mem hv
        have h1 := fac_at (dimsA ax) k R L M j a b (t := t) (by omega) 0
        rw [getD_of ht] at h1
        rw [h1]
        have h2 : a * R + t < M * R := digit_lt2 g2 (by omega)
        rw [tabL_stage p N neg inv (k : Int) hS, tabR_length] at htl
        omega
      have hdo := hX.do_zero hK.c6 inv (w := gatL x (grpS (dimsA ax) k R L M j a b).1) (by rw [gatL_length]; exact hlen.1) (gatL_in hin (by intro v hv; have := iI v hv; omega))
      generalize hgr : grpS (dimsA ax) k R L M j a b = gr at *
      obtain ⟨I, F, O⟩ := gr
      dsimp only at *
      have hne : ∀ l : List Int, l.length = R → nums .i64 l ≠ [] := by
        intro l hl2 h0
        have h1 := nums_length .i64 l
        rw [h0] at h1
        simp at h1
        omega
      have hdl : (gatL x I).length = R := by rw [gatL_length]; exact hlen.1
      have hOl : O.length = (gatL x I).length := by rw [hdl]; exact hlen.2.2
      have hkn := hK.c6.known
      have e1 : ∀ m : List Int, redS p (S O.length (fun u => (grpY p false R inv (gatL x I)).getD u 0 * m.getD u 0)) = weighF p (rtS p (R : Int) inv) (gatL x I) m := fun m => by
        rw [hOl]
        exact dotF_weigh p (rtS p (R : Int) inv) (gatL x I) m
      have hs0 := hok.sum hap (by rw [hlen.2.1, hlen.2.2]) one' (by' := gatL (tabL p N neg inv ((k : Int), false, (R : Int), (L : Int), (M : Int))) F) (fun u hu => hb_one p _ _ _ (by rw [hlen.2.1, ← hlen.2.2]; exact hu))
      have hs1 := hok.sum hap (by rw [hlen.2.1, hlen.2.2]) plc' (by' := plcL p (tabL p N neg inv ((k : Int), false, (R : Int), (L : Int), (M : Int))) F O) (fun u hu => hb_plc p _ _ _ (by rw [hlen.2.1, ← hlen.2.2]; exact hu) (by
        rw [getD_of hu 0]
        exact (iO _ (List.getElem_mem hu)).1))
      rw [e1] at hs0 hs1
      have htin : inS p (tabL p N neg inv ((k : Int), false, (R : Int), (L : Int), (M : Int))) = true := by rw [tabL_stage p N neg inv (k : Int) hS]; exact tabR_in hkn _ _ _
      refine (spr1_calls p inv false _ A1 B1 C1 ca cb cc R I F O X cx m x T tl tc _ og bx bs bp bi bb bt _ _ _ _ w
        hlen.1 hlen.2.1 hlen.2.2 (by omega) (by omega) hm hm4 iI iO htl htl4 iF hux hut (u64_redS _ _) (u64_redS _ _) hp
        (fun _ => weigh_ok hdo hdl (by rw [gatL_length]; exact hlen.2.1) (gatL_in htin (by intro v hv; have := iF v hv; omega))) (fun _ => weigh_ok hdo hdl (by rw [plcL_length]; exact hlen.2.1) (plcL_in hkn _ _ _)) (fun h => by cases h) (fun h => by cases h) (u64_redS _ _) (u64_redS _ _)
        (ra.rowX (hne I hlen.1)) (rb.rowX (hne F hlen.2.1)) (rc.rowX (hne O hlen.2.2)) (hrX.grown hi.1) (hrT.grown hi.1) (hbx.grown hi.1) (hbs.grown hi.1) rfl (hbp.grown hi.1) (hbi.grown hi.1) (hbt.grown hi.1) hi.2).mono ?_
      rintro e w' ⟨rfl, ho, hg'⟩
      refine ⟨rfl, ⟨hi.1.trans hg', ?_⟩, hg'.kp⟩
      rw [hs0, hs1]
      exact ho
    · refine ⟨Grown.refl _ _, ?_⟩
      rw [outN_zero, csum_zero, csum_zero, redS_zero]
      exact hown
    · rintro e w' ⟨rfl, hi, _⟩
      refine ⟨rfl, ?_, hi.1⟩
      have h1 := hi.2
      rw [outN_all y _ (fun v hv => ?_)] at h1
      · exact h1
      · obtain ⟨h2, h3, h4⟩ := hAx.plc_of hK.dim (v := v) (by omega)
        rw [hKK] at h3
        unfold gNo
        rw [if_neg (by decide)]
        generalize (P.xv (dimsA ax) k (v : Int)).toNat = q at *
        have hL1 := hS.l1
        have e0 := hS.all
        have d3 : q / L / R < M := by
          rw [Nat.div_lt_iff_lt_mul (by omega), Nat.div_lt_iff_lt_mul (by omega), Nat.mul_comm (M * R) L]; omega
        exact digit_lt2 (digit_lt2 (by omega) d3) (Nat.mod_lt _ (by omega))
end Go.Proofs.YtohcoidbncbijaaDoor.P
/- The contract of step.Predict. Conditions: words of their kinds; slices read as lists; the library's table lies as it was laid. -/
namespace Go.Proofs.YtohcoidbncbijaaDoor.P
open Go.RowKit
set_option linter.unusedVariables false
set_option linter.unusedSimpArgs false
/-- What is predicted. -/
def predS (p : Int) (ax : List (Int × Bool)) (inv : Bool) (s : Stp) (x : List Int) : Int × Int × Int :=
  if wrd16 p ax s x = 0 then (redS p (csum one' (stepDo p ax inv s x)), redS p (csum plc' (stepDo p ax inv s x)), 0) else (0, 0, wrd16 p ax s x)
theorem Own.off' {w w' : World} {B gs : Nat} {E : TypeId} {s g n c : Nat} {cs : List Value} (h : Own w B E s (some ⟨g, 0, none⟩) n c cs) (hg : Grown gs w w') (hne : g ≠ gs) : Own w' B E s (some ⟨g, 0, none⟩) n c cs :=
  World.ownsRow.kept (row := some gs) h hg (.inr (by simp [Value.ownBlock]; exact hne))
theorem load_pair (w : World) (b : Nat) (v0 v1 : Value) (c0 : w.cell? ⟨b, 0, none⟩ = some v0) (c1 : w.cell? ⟨b, 1, none⟩ = some v1) :
    (loadVar 77 ⟨b, 0, none⟩).run Tryd.prog w = .ok (.agg #[v0, v1]) w := by
  go_simp
theorem pair_ret {fn : Func} {pp u : Tmp} (h : fn.results = #[.cell pp 77, .tmp u]) (tmps : Array Value) (w : World) (b : Nat) (v0 v1 e : Value) (hp : tmps.getD pp undef = .pointer (some ⟨b, 0, none⟩)) (he : tmps.getD u undef = e) (c0 : w.cell? ⟨b, 0, none⟩ = some v0) (c1 : w.cell? ⟨b, 1, none⟩ = some v1) :
    (results fn tmps).run Tryd.prog w = .ok (.tuple #[.agg #[v0, v1], e]) w := by
  rw [results_cell_tmp h, hp, he]
  have h1 := load_pair w b v0 v1 c0 c1
  simp [asAddr, Result.andThen, h1]
theorem own2 {w : World} {B E b : Nat} {v0 v1 : Value} (h : Own w B E 1 (some ⟨b, 0, none⟩) 2 2 [v0, v1]) (u0 u1 : Value) : Own ((w.setCell ⟨b, 0, none⟩ u0).setCell ⟨b, 1, none⟩ u1) B E 1 (some ⟨b, 0, none⟩) 2 2 [u0, u1] :=
  (h.stored 0 u0).stored 1 u1
theorem own2_cells {w : World} {B E b : Nat} {v0 v1 : Value} (h : Own w B E 1 (some ⟨b, 0, none⟩) 2 2 [v0, v1]) : w.cell? ⟨b, 0, none⟩ = some v0 ∧ w.cell? ⟨b, 1, none⟩ = some v1 ∧ w.frozen? ⟨b, 0, none⟩ = false ∧ w.frozen? ⟨b, 1, none⟩ = false :=
  ⟨h.cellAt 0 (by decide), h.cellAt 1 (by decide), h.frozenAt 0, h.frozenAt 1⟩
theorem below_set2 {B : Nat} {w0 w : World} (h : Below B w0 w) {b : Nat} (hb : B ≤ b) (u0 u1 : Value) : Below B w0 ((w.setCell ⟨b, 0, none⟩ u0).setCell ⟨b, 1, none⟩ u1) :=
  (h.setCell (p := ⟨b, 0, none⟩) hb u0).setCell (p := ⟨b, 1, none⟩) hb u1
set_option maxRecDepth 100000 in
set_option maxHeartbeats 4000000 in
theorem spr_calls (p : Int) (A : Option Addr) (c n : Nat) (ax : List (Int × Bool)) (inv : Bool) (s0 : Int) (s1 : Bool) (s2 s3 s4 : Int) (X : Option Addr) (cx m : Nat) (x : List Int) (w : World) (hn : ax.length = n) (hm : x.length = m) (hp : U64 p) (hr : Row w A (axR ax)) (hl : n ≤ 8796093022208) (hw : ∀ a ∈ ax, i64 a.1)
    (hrx : Row w X (nums .u64 x)) (hlm : m ≤ 9223372036854775807) (hwx : ∀ d ∈ x, U64 d) (hT : Tab w) :
    Calls Tryd.prog 49 #[.int .u64 p, .slice A n c, .bool inv, .agg #[.int .i64 s0, .bool s1, .int .i64 s2, .int .i64 s3, .int .i64 s4], .slice X m cx] w fun e w' =>
      e = .returned (.tuple #[.agg #[.int .u64 (predS p ax inv (s0, s1, s2, s3, s4) x).1, .int .u64 (predS p ax inv (s0, s1, s2, s3, s4) x).2.1], .int .i64 (predS p ax inv (s0, s1, s2, s3, s4) x).2.2]) ∧ Below w.heap.size w w' := by
  have HP := Lib.hid hp
  have HN := Lib.hid hn
  have HM := Lib.hid hm
  have HW := Lib.hid hw
  have HWX := Lib.hid hwx
  have hb0 : Below w.heap.size w (((((w.alloc (.cells #[.int .u64 p] 22)).alloc (.cells #[.bool inv] 4)).alloc (.cells #[.int .i64 s0, .bool s1, .int .i64 s2, .int .i64 s3, .int .i64 s4] 39)).alloc (.cells #[.slice X m cx] 41)).alloc (.cells #[.int .u64 0, .int .u64 0] 77)) := ((((((Below.refl _ _).alloc (Nat.le_refl _) (.cells #[.int .u64 p] 22)).alloc (by simp only [size_alloc]; omega) (.cells #[.bool inv] 4)).alloc (by simp only [size_alloc]; omega) (.cells #[.int .i64 s0, .bool s1, .int .i64 s2, .int .i64 s3, .int .i64 s4] 39)).alloc (by simp only [size_alloc]; omega) (.cells #[.slice X m cx] 41)).alloc (by simp only [size_alloc]; omega) (.cells #[.int .u64 0, .int .u64 0] 77))
  have HB0 := Lib.hid hb0
  have HR0 := Lib.hid (hr.below hb0)
  have HRX0 := Lib.hid (hrx.below hb0)
  have HT0 := Lib.hid (hT.below hb0)
  have hp0 : Row (((((w.alloc (.cells #[.int .u64 p] 22)).alloc (.cells #[.bool inv] 4)).alloc (.cells #[.int .i64 s0, .bool s1, .int .i64 s2, .int .i64 s3, .int .i64 s4] 39)).alloc (.cells #[.slice X m cx] 41)).alloc (.cells #[.int .u64 0, .int .u64 0] 77)) (some ⟨w.heap.size, 0, none⟩) [.int .u64 p] := (row_new w [.int .u64 p] 22).below (((((Below.refl _ _).alloc (Nat.le_refl _) (.cells #[.bool inv] 4)).alloc (by simp only [size_alloc]; omega) (.cells #[.int .i64 s0, .bool s1, .int .i64 s2, .int .i64 s3, .int .i64 s4] 39)).alloc (by simp only [size_alloc]; omega) (.cells #[.slice X m cx] 41)).alloc (by simp only [size_alloc]; omega) (.cells #[.int .u64 0, .int .u64 0] 77))
  have hi0 : Row (((((w.alloc (.cells #[.int .u64 p] 22)).alloc (.cells #[.bool inv] 4)).alloc (.cells #[.int .i64 s0, .bool s1, .int .i64 s2, .int .i64 s3, .int .i64 s4] 39)).alloc (.cells #[.slice X m cx] 41)).alloc (.cells #[.int .u64 0, .int .u64 0] 77)) (some ⟨w.heap.size + 1, 0, none⟩) [.bool inv] := by
    have h1 := (row_new (w.alloc (.cells #[.int .u64 p] 22)) [.bool inv] 4).below ((((Below.refl _ _).alloc (Nat.le_refl _) (.cells #[.int .i64 s0, .bool s1, .int .i64 s2, .int .i64 s3, .int .i64 s4] 39)).alloc (by simp only [size_alloc]; omega) (.cells #[.slice X m cx] 41)).alloc (by simp only [size_alloc]; omega) (.cells #[.int .u64 0, .int .u64 0] 77))
    simp only [size_alloc] at h1
    exact h1
  have hs0 : Row (((((w.alloc (.cells #[.int .u64 p] 22)).alloc (.cells #[.bool inv] 4)).alloc (.cells #[.int .i64 s0, .bool s1, .int .i64 s2, .int .i64 s3, .int .i64 s4] 39)).alloc (.cells #[.slice X m cx] 41)).alloc (.cells #[.int .u64 0, .int .u64 0] 77)) (some ⟨w.heap.size + 1 + 1, 0, none⟩) [.int .i64 s0, .bool s1, .int .i64 s2, .int .i64 s3, .int .i64 s4] := by
    have h1 := (row_new ((w.alloc (.cells #[.int .u64 p] 22)).alloc (.cells #[.bool inv] 4)) [.int .i64 s0, .bool s1, .int .i64 s2, .int .i64 s3, .int .i64 s4] 39).below (((Below.refl _ _).alloc (Nat.le_refl _) (.cells #[.slice X m cx] 41)).alloc (by simp only [size_alloc]; omega) (.cells #[.int .u64 0, .int .u64 0] 77))
    simp only [size_alloc] at h1
    exact h1
  have hx0 : Row (((((w.alloc (.cells #[.int .u64 p] 22)).alloc (.cells #[.bool inv] 4)).alloc (.cells #[.int .i64 s0, .bool s1, .int .i64 s2, .int .i64 s3, .int .i64 s4] 39)).alloc (.cells #[.slice X m cx] 41)).alloc (.cells #[.int .u64 0, .int .u64 0] 77)) (some ⟨w.heap.size + 1 + 1 + 1, 0, none⟩) [.slice X m cx] := by
    have h1 := (row_new (((w.alloc (.cells #[.int .u64 p] 22)).alloc (.cells #[.bool inv] 4)).alloc (.cells #[.int .i64 s0, .bool s1, .int .i64 s2, .int .i64 s3, .int .i64 s4] 39)) [.slice X m cx] 41).below ((Below.refl _ _).alloc (Nat.le_refl _) (.cells #[.int .u64 0, .int .u64 0] 77))
    simp only [size_alloc] at h1
    exact h1
  have ho0 : Own (((((w.alloc (.cells #[.int .u64 p] 22)).alloc (.cells #[.bool inv] 4)).alloc (.cells #[.int .i64 s0, .bool s1, .int .i64 s2, .int .i64 s3, .int .i64 s4] 39)).alloc (.cells #[.slice X m cx] 41)).alloc (.cells #[.int .u64 0, .int .u64 0] 77)) w.heap.size 77 1 (some ⟨w.heap.size + 1 + 1 + 1 + 1, 0, none⟩) 2 2 [.int .u64 0, .int .u64 0] := by
    have h1 := own_one ((((w.alloc (.cells #[.int .u64 p] 22)).alloc (.cells #[.bool inv] 4)).alloc (.cells #[.int .i64 s0, .bool s1, .int .i64 s2, .int .i64 s3, .int .i64 s4] 39)).alloc (.cells #[.slice X m cx] 41)) w.heap.size 77 [.int .u64 0, .int .u64 0] 2 (by simp only [size_alloc]; omega) rfl (by decide)
    simp only [size_alloc] at h1
    exact h1
  have HX0 := Lib.hid hx0
  have HS0 := Lib.hid hs0
  have HI0 := Lib.hid hi0
  have HP0 := Lib.hid hp0
  have HO0 := Lib.hid ho0
  have HSZ : Hid ((((((w.alloc (.cells #[.int .u64 p] 22)).alloc (.cells #[.bool inv] 4)).alloc (.cells #[.int .i64 s0, .bool s1, .int .i64 s2, .int .i64 s3, .int .i64 s4] 39)).alloc (.cells #[.slice X m cx] 41)).alloc (.cells #[.int .u64 0, .int .u64 0] 77)).heap.size = w.heap.size + 5) := Lib.hid (by simp)
  clear hn hm hp hr hw hrx hwx hT hb0 hx0 hs0 hi0 hp0 ho0
  by_cases hc : wrd16 p ax (s0, s1, s2, s3, s4) x = 0
  case neg =>
    have HF : Hid (predS p ax inv (s0, s1, s2, s3, s4) x = (0, 0, wrd16 p ax (s0, s1, s2, s3, s4) x)) := Lib.hid (by rw [predS, if_neg hc])
    have t0 : (wrd16 p ax (s0, s1, s2, s3, s4) x != 0) = true := by simpa using hc
    rw [HF.out]
    clear hc
    have p0 := HP0.out.cell (i := 0) rfl
    have x0 := HX0.out.cell (i := 0) rfl
    have b0 := HS0.out.cell (i := 0) rfl
    have b1 := HS0.out.cell (i := 1) rfl
    have b2 := HS0.out.cell (i := 2) rfl
    have b3 := HS0.out.cell (i := 3) rfl
    have b4 := HS0.out.cell (i := 4) rfl
    go_enter Tryd.func49, Tryd.ntmps49
    go_wp2_with fail
    clear p0 x0 b0 b1 b2 b3 b4
    generalize (((((w.alloc (.cells #[.int .u64 p] 22)).alloc (.cells #[.bool inv] 4)).alloc (.cells #[.int .i64 s0, .bool s1, .int .i64 s2, .int .i64 s3, .int .i64 s4] 39)).alloc (.cells #[.slice X m cx] 41)).alloc (.cells #[.int .u64 0, .int .u64 0] 77)) = V0 at *
    refine (swrd_calls p _ _ _ ax s0 s1 s2 s3 s4 X cx m x V0 HN.out HM.out HP.out HR0.out hl HW.out HRX0.out hlm HT0.out).mono ?_
    rintro e w2 ⟨rfl, hb⟩
    have HB2 := Lib.hid (HB0.out.trans (hb.mono (by have := HSZ.out; omega)))
    have HO2 := Lib.hid (HO0.out.grown hb)
    clear hb
    obtain ⟨c0, c1, f0, f1⟩ := own2_cells HO2.out
    go_wp2
    clear c0 c1 f0 f1
    obtain ⟨c0, c1, _, _⟩ := own2_cells (own2 HO2.out (.int .u64 0) (.int .u64 0))
    exact bodyPost_ret (pair_ret rfl _ _ (w.heap.size + 1 + 1 + 1 + 1) _ _ _ rfl rfl c0 c1) rfl ⟨rfl, below_set2 HB2.out (by omega) _ _⟩
  have HC := Lib.hid hc
  have hc16 : chk16 p ax (s0, s1, s2, s3, s4) = 0 := by
    unfold wrd16 at hc
    split at hc
    · assumption
    · exact hc
  have hc2 := hc
  rw [wrd16, if_pos hc16] at hc2
  have hpx : prodL (dimsA ax) = x.length := by
    split at hc2
    · assumption
    · cases hc2
  rw [if_pos hpx] at hc2
  have hin : inS p x = true := by
    split at hc2
    · assumption
    · cases hc2
  obtain ⟨k, N, neg, hK⟩ := chk16_ok hc16
  have hsk := hK.axis
  dsimp only at hsk
  subst hsk
  have HF : Hid (predS p ax inv ((k : Int), s1, s2, s3, s4) x = (redS p (csum one' (stepDo p ax inv ((k : Int), s1, s2, s3, s4) x)), redS p (csum plc' (stepDo p ax inv ((k : Int), s1, s2, s3, s4) x)), 0)) := Lib.hid (by rw [predS, if_pos hc])
  have HTS : Hid (tabS p ax inv ((k : Int), s1, s2, s3, s4) = (tabL p N neg inv ((k : Int), s1, s2, s3, s4), 0)) := Lib.hid (by
    rw [tabS, if_pos hc16]
    dsimp only
    rw [Int.toNat_natCast, hK.get, hK.dim, Int.toNat_natCast])
  have hm4 : m ≤ 4096 := by have h1 := hK.chk.dims.all; have h2 := HM.out; omega
  have hm1 : 1 ≤ m := by have h1 := hK.chk.dims.pos.prod; have h2 := HM.out; omega
  have HKK := Lib.hid hK
  have HPX := Lib.hid hpx
  have HIN := Lib.hid hin
  obtain ⟨tl, htl⟩ : ∃ tl, (tabL p N neg inv ((k : Int), s1, s2, s3, s4)).length = tl := ⟨_, rfl⟩
  have HTL := Lib.hid htl
  have HTL2 : Hid (((tabL p N neg inv ((k : Int), s1, s2, s3, s4), (0 : Int)).1).length = tl) := Lib.hid htl
  clear hc hc16 hc2 hpx hin hK htl
  have p0 := HP0.out.cell (i := 0) rfl
  have i0 := HI0.out.cell (i := 0) rfl
  have x0 := HX0.out.cell (i := 0) rfl
  have b0 := HS0.out.cell (i := 0) rfl
  have b1 := HS0.out.cell (i := 1) rfl
  have b2 := HS0.out.cell (i := 2) rfl
  have b3 := HS0.out.cell (i := 3) rfl
  have b4 := HS0.out.cell (i := 4) rfl
  rw [HF.out]
  go_enter Tryd.func49, Tryd.ntmps49
  go_wp2_with fail
  clear b0 b1 b2 b3 b4
  generalize (((((w.alloc (.cells #[.int .u64 p] 22)).alloc (.cells #[.bool inv] 4)).alloc (.cells #[.int .i64 (k : Int), .bool s1, .int .i64 s2, .int .i64 s3, .int .i64 s4] 39)).alloc (.cells #[.slice X m cx] 41)).alloc (.cells #[.int .u64 0, .int .u64 0] 77)) = V0 at *
  refine (swrd_calls p _ _ _ ax (k : Int) s1 s2 s3 s4 X cx m x V0 HN.out HM.out HP.out HR0.out hl HW.out HRX0.out hlm HT0.out).mono ?_
  rw [HC.out]
  rintro e w1 ⟨rfl, hb⟩
  have HB1 := Lib.hid (HB0.out.trans (hb.mono (by have := HSZ.out; omega)))
  have HR1 := Lib.hid (HR0.out.below hb)
  have HRX1 := Lib.hid (HRX0.out.below hb)
  have HT1 := Lib.hid (HT0.out.below hb)
  have HX1 := Lib.hid (HX0.out.below hb)
  have HS1 := Lib.hid (HS0.out.below hb)
  have HI1 := Lib.hid (HI0.out.below hb)
  have HP1 := Lib.hid (HP0.out.below hb)
  have HO1 := Lib.hid (HO0.out.grown hb)
  have HZ1 : Hid (w.heap.size + 5 ≤ w1.heap.size) := Lib.hid (by have h1 := HSZ.out; have h2 := hb.size; omega)
  clear hb p0 i0 x0
  have p1 : w1.cell? ⟨w.heap.size, 0, none⟩ = some (.int .u64 p) := HP1.out.cell (i := 0) rfl
  have i1 : w1.cell? ⟨w.heap.size + 1, 0, none⟩ = some (.bool inv) := HI1.out.cell (i := 0) rfl
  have b0 : w1.cell? ⟨w.heap.size + 1 + 1, 0, none⟩ = some (.int .i64 (k : Int)) := HS1.out.cell (i := 0) rfl
  have b1 : w1.cell? ⟨w.heap.size + 1 + 1, 1, none⟩ = some (.bool s1) := HS1.out.cell (i := 1) rfl
  have b2 : w1.cell? ⟨w.heap.size + 1 + 1, 2, none⟩ = some (.int .i64 s2) := HS1.out.cell (i := 2) rfl
  have b3 : w1.cell? ⟨w.heap.size + 1 + 1, 3, none⟩ = some (.int .i64 s3) := HS1.out.cell (i := 3) rfl
  have b4 : w1.cell? ⟨w.heap.size + 1 + 1, 4, none⟩ = some (.int .i64 s4) := HS1.out.cell (i := 4) rfl
  go_wp2_with fail
  clear p1 i1 b0 b1 b2 b3 b4
  refine (stab_calls p A c n ax inv (k : Int) s1 s2 s3 s4 w1 HN.out HP.out HR1.out hl HW.out HT1.out).mono ?_
  rw [HTS.out, HTL2.out]
  rintro e w2 ⟨Tb, tc, rfl, ho, hb⟩
  have HB2 := Lib.hid (HB1.out.trans (hb.mono (by have := HZ1.out; omega)))
  have HR2 := Lib.hid (HR1.out.below hb)
  have HRX2 := Lib.hid (HRX1.out.below hb)
  have HX2 := Lib.hid (HX1.out.below hb)
  have HS2 := Lib.hid (HS1.out.below hb)
  have HI2 := Lib.hid (HI1.out.below hb)
  have HP2 := Lib.hid (HP1.out.below hb)
  have HO2 := Lib.hid (HO1.out.grown hb)
  have HTB := Lib.hid ho.row
  have HZ2 : Hid (w.heap.size + 5 ≤ w2.heap.size) := Lib.hid (by have h1 := HZ1.out; have h2 := hb.size; omega)
  clear ho hb
  have hbV : Below w2.heap.size w2 (((w2.alloc (.cells #[.slice Tb tl tc] 41)).alloc (.cells #[.int .u64 0, .int .u64 0] 77)).alloc (.cells #[.int .i64 0] 27)) := ((((Below.refl _ _).alloc (Nat.le_refl _) _).alloc (by simp only [size_alloc]; omega) _).alloc (by simp only [size_alloc]; omega) _)
  have b0 : (((w2.alloc (.cells #[.slice Tb tl tc] 41)).alloc (.cells #[.int .u64 0, .int .u64 0] 77)).alloc (.cells #[.int .i64 0] 27)).cell? ⟨w.heap.size + 1 + 1, 0, none⟩ = some (.int .i64 (k : Int)) := (HS2.out.below hbV).cell (i := 0) rfl
  have b1 : (((w2.alloc (.cells #[.slice Tb tl tc] 41)).alloc (.cells #[.int .u64 0, .int .u64 0] 77)).alloc (.cells #[.int .i64 0] 27)).cell? ⟨w.heap.size + 1 + 1, 1, none⟩ = some (.bool s1) := (HS2.out.below hbV).cell (i := 1) rfl
  have b2 : (((w2.alloc (.cells #[.slice Tb tl tc] 41)).alloc (.cells #[.int .u64 0, .int .u64 0] 77)).alloc (.cells #[.int .i64 0] 27)).cell? ⟨w.heap.size + 1 + 1, 2, none⟩ = some (.int .i64 s2) := (HS2.out.below hbV).cell (i := 2) rfl
  have b3 : (((w2.alloc (.cells #[.slice Tb tl tc] 41)).alloc (.cells #[.int .u64 0, .int .u64 0] 77)).alloc (.cells #[.int .i64 0] 27)).cell? ⟨w.heap.size + 1 + 1, 3, none⟩ = some (.int .i64 s3) := (HS2.out.below hbV).cell (i := 3) rfl
  have b4 : (((w2.alloc (.cells #[.slice Tb tl tc] 41)).alloc (.cells #[.int .u64 0, .int .u64 0] 77)).alloc (.cells #[.int .i64 0] 27)).cell? ⟨w.heap.size + 1 + 1, 4, none⟩ = some (.int .i64 s4) := (HS2.out.below hbV).cell (i := 4) rfl
  go_wp2_with fail
  have HOG : Hid (w2.heap.size ≤ w2.heap.size + 1) := Lib.hid (by omega)
  have xR := HR2.out.toX (by intro h0; have h1 := axR_length ax; rw [h0] at h1; simp at h1; have h2 := HKK.out.lt; omega) hbV HOG.out
  have xX := HRX2.out.toX (nums_ne (by rw [HM.out]; exact hm1)) hbV HOG.out
  have xT := HTB.out.toX (nums_ne (tabL_pos HKK.out inv)) hbV HOG.out
  have xbx := HX2.out.toX (List.cons_ne_nil _ _) hbV HOG.out
  have xbs := HS2.out.toX (List.cons_ne_nil _ _) hbV HOG.out
  have xbp := HP2.out.toX (List.cons_ne_nil _ _) hbV HOG.out
  have xbi := HI2.out.toX (List.cons_ne_nil _ _) hbV HOG.out
  have xbt : RowX (w2.heap.size + 1) (((w2.alloc (.cells #[.slice Tb tl tc] 41)).alloc (.cells #[.int .u64 0, .int .u64 0] 77)).alloc (.cells #[.int .i64 0] 27)) (some ⟨w2.heap.size, 0, none⟩) [.slice Tb tl tc] := by
    refine (row_new w2 [.slice Tb tl tc] 41).toX (List.cons_ne_nil _ _) ?_ (by simp)
    exact (((Below.refl _ _).alloc (Nat.le_refl _) _).alloc (by simp only [size_alloc]; omega) _)
  have xbb : RowX (w2.heap.size + 1) (((w2.alloc (.cells #[.slice Tb tl tc] 41)).alloc (.cells #[.int .u64 0, .int .u64 0] 77)).alloc (.cells #[.int .i64 0] 27)) (some ⟨w2.heap.size + 1 + 1, 0, none⟩) [.int .i64 0] := by
    refine ⟨?_, fun y hy => by cases hy; dsimp only; omega⟩
    have h1 := row_new ((w2.alloc (.cells #[.slice Tb tl tc] 41)).alloc (.cells #[.int .u64 0, .int .u64 0] 77)) [.int .i64 0] 27
    simp only [size_alloc] at h1
    exact h1
  have xow : Own (((w2.alloc (.cells #[.slice Tb tl tc] 41)).alloc (.cells #[.int .u64 0, .int .u64 0] 77)).alloc (.cells #[.int .i64 0] 27)) (w2.heap.size + 1) 77 1 (some ⟨w2.heap.size + 1, 0, none⟩) 2 2 (nums .u64 [0, 0]) := by
    have h1 := (own_one (w2.alloc (.cells #[.slice Tb tl tc] 41)) (w2.heap.size + 1) 77 [.int .u64 0, .int .u64 0] 2 (by simp only [size_alloc]; omega) rfl (by decide)).grown ((Below.refl _ _).alloc (Nat.le_refl _) (.cells #[.int .i64 0] 27))
    simp only [size_alloc] at h1
    exact h1
  have HOV := Lib.hid (HO2.out.grown hbV)
  have HBV := Lib.hid hbV
  have HXBB := Lib.hid xbb
  clear hbV b0 b1 b2 b3 b4
  generalize (((w2.alloc (.cells #[.slice Tb tl tc] 41)).alloc (.cells #[.int .u64 0, .int .u64 0] 77)).alloc (.cells #[.int .i64 0] 27)) = V at *
  refine (each_pred p A c n ax inv k s1 s2 s3 s4 N neg X cx m x Tb tl tc (w2.heap.size + 1) _ _ _ _ _ _ V HKK.out HN.out hl HW.out HM.out HPX.out HIN.out HWX.out HP.out HTL.out xR xX xT xbx xbs xbp xbi xbt xow).mono ?_
  rintro e w3 ⟨rfl, ho, hg⟩
  have HB3 : Hid (Below w.heap.size w w3) := Lib.hid ((HB2.out.trans (HBV.out.mono (by have := HZ2.out; omega))).trans (hg.of_below (by have := HZ2.out; omega) (by have h1 := HZ2.out; have h2 := HBV.out.size; omega)))
  have c2 := RowX.cellB (HXBB.out.grown hg) (i := 0) rfl
  have HO3 : Hid (Own w3 w.heap.size 77 1 (some ⟨w.heap.size + 1 + 1 + 1 + 1, 0, none⟩) 2 2 [.int .u64 0, .int .u64 0]) := Lib.hid (HOV.out.off' hg (by have := HZ2.out; omega))
  obtain ⟨za, hza⟩ : ∃ z, z = redS p (csum one' (stepDo p ax inv ((k : Int), s1, s2, s3, s4) x)) := ⟨_, rfl⟩
  obtain ⟨zb, hzb⟩ : ∃ z, z = redS p (csum plc' (stepDo p ax inv ((k : Int), s1, s2, s3, s4) x)) := ⟨_, rfl⟩
  rw [← hza, ← hzb] at ho
  have HZA := Lib.hid hza
  have HZB := Lib.hid hzb
  clear hza hzb
  have HOG3 : Hid (Own w3 (w2.heap.size + 1) 77 1 (some ⟨w2.heap.size + 1, 0, none⟩) 2 2 [.int .u64 za, .int .u64 zb]) := Lib.hid ho
  clear ho hg xR xX xT xbx xbs xbp xbi xbt xow xbb
  obtain ⟨c0, c1, f0, f1⟩ := own2_cells HO3.out
  obtain ⟨d0, d1, _, _⟩ := own2_cells HOG3.out
  go_wp2
  clear c0 c1 f0 f1 d0 d1
  obtain ⟨c0, c1, _, _⟩ := own2_cells (own2 HO3.out (.int .u64 za) (.int .u64 zb))
  exact bodyPost_ret (pair_ret rfl _ _ (w.heap.size + 1 + 1 + 1 + 1) _ _ _ rfl rfl c0 c1) rfl ⟨by rw [← HZA.out, ← HZB.out]; rfl, below_set2 HB3.out (by omega) _ _⟩
end Go.Proofs.YtohcoidbncbijaaDoor.P
/- Sums of words and of words times their places, from the end on and from the start on, plainly. Under no condition beside those of each lemma. -/
namespace Go.Proofs.YtohcoidbncbijaaDoor.P
open Go.RowKit
set_option linter.unusedVariables false
theorem csum_one_cons (x : Int) (l : List Int) : csum one' (x :: l) = x + csum one' l := by
  unfold csum
  rw [List.length_cons, S_head]
  show x * 1 + S l.length (fun i => l.getD i 0 * 1) = x + S l.length (fun i => l.getD i 0 * 1)
  rw [Int.mul_one]
theorem csum_plc_cons (x : Int) (l : List Int) : csum plc' (x :: l) = csum plc' l + csum one' (x :: l) := by
  rw [csum_one_cons]
  unfold csum
  rw [List.length_cons, S_head]
  show x * (((0 : Nat) : Int) + 1) + S l.length (fun i => l.getD i 0 * (((i + 1 : Nat) : Int) + 1)) = S l.length (fun i => l.getD i 0 * ((i : Int) + 1)) + (x + S l.length (fun i => l.getD i 0 * 1))
  have e : S l.length (fun i => l.getD i 0 * (((i + 1 : Nat) : Int) + 1)) = S l.length (fun i => l.getD i 0 * ((i : Int) + 1)) + S l.length (fun i => l.getD i 0 * 1) := by
    rw [← S_add]
    refine S_congr fun i _ => ?_
    rw [← Int.mul_add]
    congr 1
  rw [e]
  have e2 : x * (((0 : Nat) : Int) + 1) = x := by rw [Int.natCast_zero, Int.zero_add, Int.mul_one]
  rw [e2]
  omega
/-- The sums of the last words. -/
def sufA (p : Int) (l : List Int) (k : Nat) : Int := redS p (csum one' (l.drop (l.length - k)))
def sufB (p : Int) (l : List Int) (k : Nat) : Int := redS p (csum plc' (l.drop (l.length - k)))
theorem sufA_zero (p : Int) (l : List Int) : sufA p l 0 = 0 := by
  unfold sufA
  rw [Nat.sub_zero, List.drop_length]
  exact redS_zero p
theorem sufB_zero (p : Int) (l : List Int) : sufB p l 0 = 0 := by
  unfold sufB
  rw [Nat.sub_zero, List.drop_length]
  exact redS_zero p
theorem sufA_all (p : Int) (l : List Int) : sufA p l l.length = redS p (csum one' l) := by unfold sufA; rw [Nat.sub_self, List.drop_zero]
theorem sufB_all (p : Int) (l : List Int) : sufB p l l.length = redS p (csum plc' l) := by unfold sufB; rw [Nat.sub_self, List.drop_zero]
theorem suf_drop (l : List Int) {k : Nat} (hk : k < l.length) : l.drop (l.length - (k + 1)) = l.getD (l.length - (k + 1)) 0 :: l.drop (l.length - k) := by
  have h1 : l.length - (k + 1) < l.length := by omega
  rw [List.drop_eq_getElem_cons h1, getD_of h1, show l.length - (k + 1) + 1 = l.length - k by omega]
theorem sufA_succ (p : Int) (l : List Int) {k : Nat} (hk : k < l.length) : addS p (sufA p l k) (l.getD (l.length - (k + 1)) 0) = sufA p l (k + 1) := by
  unfold sufA addS
  rw [suf_drop l hk, csum_one_cons, redS_add_left, Int.add_comm]
theorem sufB_succ (p : Int) (l : List Int) {k : Nat} (hk : k < l.length) : addS p (sufB p l k) (sufA p l (k + 1)) = sufB p l (k + 1) := by
  unfold sufB sufA addS
  rw [suf_drop l hk, csum_plc_cons, redS_add_left, redS_add_right]
/-- The sums of the first words. -/
def preC (p : Int) (c : Nat → Int) (l : List Int) (k : Nat) : Int := redS p (S k (fun v => l.getD v 0 * c v))
theorem preC_zero (p : Int) (c : Nat → Int) (l : List Int) : preC p c l 0 = 0 := redS_zero p
theorem preC_all (p : Int) (c : Nat → Int) (l : List Int) : preC p c l l.length = redS p (csum c l) := rfl
theorem preC_one (p : Int) (l : List Int) (k : Nat) : addS p (preC p one' l k) (l.getD k 0) = preC p one' l (k + 1) := by
  unfold preC addS
  rw [redS_add_left]
  show redS p (_ + l.getD k 0) = redS p (_ + l.getD k 0 * 1)
  rw [Int.mul_one]
theorem preC_plc (p : Int) (l : List Int) (k : Nat) : addS p (preC p plc' l k) (mulS p (l.getD k 0) ((k : Int) + 1)) = preC p plc' l (k + 1) := by
  unfold preC addS mulS
  rw [redS_add_left, redS_add_right]
  rfl
theorem u64_sufA (p : Int) (l : List Int) (k : Nat) : U64 (sufA p l k) := u64_redS _ _
theorem u64_sufB (p : Int) (l : List Int) (k : Nat) : U64 (sufB p l k) := u64_redS _ _
theorem u64_preC (p : Int) (c : Nat → Int) (l : List Int) (k : Nat) : U64 (preC p c l k) := u64_redS _ _
end Go.Proofs.YtohcoidbncbijaaDoor.P
/- The contract of package code's Sums. Conditions: words of their kinds; the slice reads as a list. -/
namespace Go.Proofs.YtohcoidbncbijaaDoor.P
open Go.RowKit
set_option linter.unusedVariables false
set_option linter.unusedSimpArgs false
theorem csum2_calls (p a v : Int) (bp : Nat) (w : World) (hp : U64 p) (ha : U64 a) (hv : U64 v) (hb : w.cell? ⟨bp, 0, none⟩ = some (.int .u64 p)) :
    Calls Tryd.prog 132 #[.int .u64 a, .int .u64 v, .pointer (some ⟨bp, 0, none⟩)] w fun e w' => e = .returned (.int .u64 (addS p a v)) ∧ w' = w := by
  go_enter Tryd.func132, Tryd.ntmps132
  go_wp2_with fail
  refine (add_calls p a v w hp ha hv).mono ?_
  rintro e w1 ⟨rfl, h1⟩
  go_wp2
  go_ret
  exact ⟨rfl, rfl⟩
set_option maxHeartbeats 1000000 in
theorem csum3_calls (p a t v : Int) (bp bt B : Nat) (w : World) (hp : U64 p) (ha : U64 a) (ht : U64 t) (hv : U64 v) (hb : RowX bt w (some ⟨bp, 0, none⟩) [.int .u64 p]) (ho : Own w B 22 1 (some ⟨bt, 0, none⟩) 1 1 [.int .u64 t]) :
    Calls Tryd.prog 133 #[.int .u64 a, .int .u64 v, .pointer (some ⟨bp, 0, none⟩), .pointer (some ⟨bt, 0, none⟩)] w fun e w' =>
      e = .returned (.int .u64 (addS p a (addS p t v))) ∧ Own w' B 22 1 (some ⟨bt, 0, none⟩) 1 1 [.int .u64 (addS p t v)] ∧ Grown bt w w' := by
  have HP := Lib.hid hp
  have HA := Lib.hid ha
  have HB := Lib.hid hb
  have HO := Lib.hid ho
  have HS := Lib.hid (u64_addS p t v)
  have c0 := RowX.cellB hb (i := 0) rfl
  have c1 : w.cell? ⟨bt, 0, none⟩ = some (.int .u64 t) := ho.cellAt 0 (by decide)
  have f1 : w.frozen? ⟨bt, 0, none⟩ = false := ho.frozenAt 0
  have HADD := Lib.hid (add_calls p t v w hp ht hv)
  clear hb ho
  generalize addS p t v = s at *
  go_enter Tryd.func133, Tryd.ntmps133
  go_wp2_with fail
  refine HADD.out.mono ?_
  rintro e w1 ⟨rfl, h1⟩
  subst h1
  have HO2 : Hid (Own (w1.setCell ⟨bt, 0, none⟩ (.int .u64 s)) B 22 1 (some ⟨bt, 0, none⟩) 1 1 [.int .u64 s]) := Lib.hid (HO.out.stored 0 _)
  have HG2 : Hid (Grown bt w1 (w1.setCell ⟨bt, 0, none⟩ (.int .u64 s))) := Lib.hid ((Grown.refl bt w1).setCell 0 _)
  have d0 := RowX.cellB (HB.out.grown HG2.out) (i := 0) rfl
  have d1 : (w1.setCell ⟨bt, 0, none⟩ (.int .u64 s)).cell? ⟨bt, 0, none⟩ = some (.int .u64 s) := HO2.out.cellAt 0 (by decide)
  go_wp2_with fail
  clear c0 c1 f1 d0 d1
  generalize (w1.setCell ⟨bt, 0, none⟩ (.int .u64 s)) = w2 at *
  refine (add_calls p a s w2 HP.out HA.out HS.out).mono ?_
  rintro e w3 ⟨rfl, h3⟩
  go_wp2
  go_ret
  exact ⟨rfl, HO2.out, HG2.out⟩
set_option maxRecDepth 100000 in
set_option maxHeartbeats 1000000 in
theorem csum1_calls (fk : Nat) (cap : Array Value) (acc : Nat → Int) (Inv : Nat → World → Prop) (bl : Nat) (X : Option Addr) (m cx : Nat) (x : List Int) (w : World)
    (hcf : ∀ (args : Array Value) (w : World), (callFunc fk args).run Tryd.prog w = .ok (.enter fk args) w)
    (hm : x.length = m) (hm4 : m ≤ 9000000000) (h0 : acc 0 = 0) (hI : Inv 0 w) (hrow : ∀ k ws, Inv k ws → ws.cell? ⟨bl, 0, none⟩ = some (.slice X m cx) ∧ Row ws X (nums .u64 x))
    (hstep : ∀ k, k < m → ∀ ws, Inv k ws → Calls Tryd.prog fk (#[.int .u64 (acc k), .int .u64 (x.getD (m - (k + 1)) 0)] ++ cap) ws fun e w' => e = .returned (.int .u64 (acc (k + 1))) ∧ Inv (k + 1) w') :
    Calls Tryd.prog 131 #[.func (.func fk) #[] cap, .pointer (some ⟨bl, 0, none⟩)] w fun e w' => e = .returned (.int .u64 (acc m)) ∧ Inv m w' := by
  have HM := Lib.hid hm
  have HI := Lib.hid hI
  have HROW := Lib.hid hrow
  have HST := Lib.hid hstep
  have HA0 := Lib.hid h0
  have c0 := (hrow 0 w hI).1
  clear hm hI hrow hstep h0
  go_enter Tryd.func131, Tryd.ntmps131
  go_wp2
  clear c0
  go_loopw [4, 5] (fun s4 s5 wr => ∃ k : Nat, k ≤ m ∧ s4 = .int .u64 (acc k) ∧ s5 = .int .i64 ((m : Int) - 1 - (k : Int)) ∧ Hid (Inv k wr)) (fun _ s5 _ => (intOf s5 + 1).toNat)
  case atStart => exact ⟨0, Nat.zero_le _, by rw [HA0.out], by go_num, HI⟩
  case round =>
    obtain ⟨k, hk, rfl, rfl, HIK⟩ := hrel
    by_cases hlk : k < m
    · obtain ⟨j, hj⟩ : ∃ j, m = j + k + 1 := ⟨m - (k + 1), by omega⟩
      have hjl : j < x.length := by have := HM.out; omega
      have HC := Lib.hid (HST.out k hlk _ HIK.out)
      rw [show m - (k + 1) = j by omega, getD_of hjl] at HC
      have c1 := (HROW.out k _ HIK.out).1
      have hrx := (HROW.out k _ HIK.out).2
      obtain ⟨xa, rfl⟩ := hrx.some_of (by intro h0; have h1 := nums_length .u64 x; rw [h0] at h1; simp at h1; omega)
      have c2 := hrx.num hjl
      rw [show (m : Int) - 1 - (k : Int) = (j : Int) by omega]
      generalize x[j] = v at *
      clear hrx hjl
      have hj0 : (0 : Int) ≤ (j : Int) := by omega
      have HJ := Lib.hid hj
      have hjm : j < m := by omega
      clear hj hlk
      go_wp2_with fail
      refine HC.out.mono ?_
      rintro e w1 ⟨rfl, hi⟩
      have HI1 := Lib.hid hi
      clear hi HC c1 c2
      go_wp2
      go_roundw
      case rel => exact (by have hj := HJ.out; exact ⟨k + 1, by omega, rfl, (show Value.int .i64 ((j : Int) - 1) = Value.int .i64 ((m : Int) - 1 - ((k + 1 : Nat) : Int)) by congr 1; omega), HI1⟩)
      case measure => have hj := HJ.out; simp [intOf]; try omega
    · have hke : k = m := by omega
      subst hke
      rw [show (k : Int) - 1 - (k : Int) = -1 by omega]
      go_wp2
      go_ret
      exact ⟨rfl, HIK.out⟩
theorem results_cell1 {fn : Func} {p : Tmp} {ty : TypeId} (h : fn.results = #[.cell p ty]) (tmps : Array Value) (P : Program) (w : World) :
    (results fn tmps).run P w = ((asAddr (tmps.getD p undef)).run P w).andThen fun a w₁ => (loadVar ty a).run P w₁ := by
  simp only [results, h]
  simp [Sem.run_bind, Result.andThen]
theorem load_pair2 (w : World) (b : Nat) (v0 v1 : Value) (c0 : w.cell? ⟨b, 0, none⟩ = some v0) (c1 : w.cell? ⟨b, 1, none⟩ = some v1) :
    (loadVar 118 ⟨b, 0, none⟩).run Tryd.prog w = .ok (.agg #[v0, v1]) w := by
  go_simp
theorem pair1_ret {fn : Func} {pp : Tmp} (h : fn.results = #[.cell pp 118]) (tmps : Array Value) (w : World) (b : Nat) (v0 v1 : Value) (hp : tmps.getD pp undef = .pointer (some ⟨b, 0, none⟩)) (c0 : w.cell? ⟨b, 0, none⟩ = some v0) (c1 : w.cell? ⟨b, 1, none⟩ = some v1) :
    (results fn tmps).run Tryd.prog w = .ok (.agg #[v0, v1]) w := by
  rw [results_cell1 h, hp]
  have h1 := load_pair2 w b v0 v1 c0 c1
  simp [asAddr, Result.andThen, h1]
end Go.Proofs.YtohcoidbncbijaaDoor.P
/- The contract of package code's Sums, second part. Conditions: words of their kinds; the slice reads as a list. -/
namespace Go.Proofs.YtohcoidbncbijaaDoor.P
open Go.RowKit
set_option linter.unusedVariables false
set_option linter.unusedSimpArgs false
theorem cs2_cf (args : Array Value) (w : World) : (callFunc 132 args).run Tryd.prog w = .ok (.enter 132 args) w := by kernel_rfl
theorem cs3_cf (args : Array Value) (w : World) : (callFunc 133 args).run Tryd.prog w = .ok (.enter 133 args) w := by kernel_rfl
set_option maxRecDepth 100000 in
set_option maxHeartbeats 2000000 in
theorem csum_calls (p : Int) (X : Option Addr) (cnt cx : Nat) (x : List Int) (w : World) (hx : x.length = cnt) (hp : U64 p) (hr : Row w X (nums .u64 x)) (hl : cnt ≤ 9000000000) (hux : ∀ d ∈ x, U64 d) :
    Calls Tryd.prog 98 #[.int .u64 p, .slice X cnt cx] w fun e w' => e = .returned (.agg #[.int .u64 (redS p (csum one' x)), .int .u64 (redS p (csum plc' x))]) ∧ Below w.heap.size w w' := by
  have HP := Lib.hid hp
  have HN := Lib.hid hx
  have HU := Lib.hid hux
  have HF1 : Hid (redS p (csum one' x) = sufA p x cnt) := Lib.hid (by rw [← hx, sufA_all])
  have HF2 : Hid (redS p (csum plc' x) = sufB p x cnt) := Lib.hid (by rw [← hx, sufB_all])
  have hb0 : Below w.heap.size w ((((w.alloc (.cells #[.int .u64 p] 22)).alloc (.cells #[.slice X cnt cx] 41)).alloc (.cells #[.int .u64 0, .int .u64 0] 118)).alloc (.cells #[.int .u64 0, .int .u64 0] 118)) := (((((Below.refl _ _).alloc (Nat.le_refl _) (.cells #[.int .u64 p] 22)).alloc (by simp only [size_alloc]; omega) (.cells #[.slice X cnt cx] 41)).alloc (by simp only [size_alloc]; omega) (.cells #[.int .u64 0, .int .u64 0] 118)).alloc (by simp only [size_alloc]; omega) (.cells #[.int .u64 0, .int .u64 0] 118))
  have HB0 := Lib.hid hb0
  have hr0 := hr.below hb0
  have hp0 : Row ((((w.alloc (.cells #[.int .u64 p] 22)).alloc (.cells #[.slice X cnt cx] 41)).alloc (.cells #[.int .u64 0, .int .u64 0] 118)).alloc (.cells #[.int .u64 0, .int .u64 0] 118)) (some ⟨w.heap.size, 0, none⟩) [.int .u64 p] := (row_new w [.int .u64 p] 22).below ((((Below.refl _ _).alloc (Nat.le_refl _) (.cells #[.slice X cnt cx] 41)).alloc (by simp only [size_alloc]; omega) (.cells #[.int .u64 0, .int .u64 0] 118)).alloc (by simp only [size_alloc]; omega) (.cells #[.int .u64 0, .int .u64 0] 118))
  have hx0 : Row ((((w.alloc (.cells #[.int .u64 p] 22)).alloc (.cells #[.slice X cnt cx] 41)).alloc (.cells #[.int .u64 0, .int .u64 0] 118)).alloc (.cells #[.int .u64 0, .int .u64 0] 118)) (some ⟨w.heap.size + 1, 0, none⟩) [.slice X cnt cx] := by
    have h1 := (row_new (w.alloc (.cells #[.int .u64 p] 22)) [.slice X cnt cx] 41).below (((Below.refl _ _).alloc (Nat.le_refl _) (.cells #[.int .u64 0, .int .u64 0] 118)).alloc (by simp only [size_alloc]; omega) (.cells #[.int .u64 0, .int .u64 0] 118))
    simp only [size_alloc] at h1
    exact h1
  have ho0 : Own ((((w.alloc (.cells #[.int .u64 p] 22)).alloc (.cells #[.slice X cnt cx] 41)).alloc (.cells #[.int .u64 0, .int .u64 0] 118)).alloc (.cells #[.int .u64 0, .int .u64 0] 118)) w.heap.size 118 1 (some ⟨w.heap.size + 1 + 1, 0, none⟩) 2 2 [.int .u64 0, .int .u64 0] := by
    have h1 := (own_one ((w.alloc (.cells #[.int .u64 p] 22)).alloc (.cells #[.slice X cnt cx] 41)) w.heap.size 118 [.int .u64 0, .int .u64 0] 2 (by simp only [size_alloc]; omega) rfl (by decide)).grown ((Below.refl _ _).alloc (Nat.le_refl _) (.cells #[.int .u64 0, .int .u64 0] 118))
    simp only [size_alloc] at h1
    exact h1
  have ht0 : Own ((((w.alloc (.cells #[.int .u64 p] 22)).alloc (.cells #[.slice X cnt cx] 41)).alloc (.cells #[.int .u64 0, .int .u64 0] 118)).alloc (.cells #[.int .u64 0, .int .u64 0] 118)) w.heap.size 118 1 (some ⟨w.heap.size + 1 + 1 + 1, 0, none⟩) 2 2 [.int .u64 0, .int .u64 0] := by
    have h1 := own_one (((w.alloc (.cells #[.int .u64 p] 22)).alloc (.cells #[.slice X cnt cx] 41)).alloc (.cells #[.int .u64 0, .int .u64 0] 118)) w.heap.size 118 [.int .u64 0, .int .u64 0] 2 (by simp only [size_alloc]; omega) rfl (by decide)
    simp only [size_alloc] at h1
    exact h1
  have HSZ : Hid (((((w.alloc (.cells #[.int .u64 p] 22)).alloc (.cells #[.slice X cnt cx] 41)).alloc (.cells #[.int .u64 0, .int .u64 0] 118)).alloc (.cells #[.int .u64 0, .int .u64 0] 118)).heap.size = w.heap.size + 1 + 1 + 1 + 1) := Lib.hid (by simp)
  have HR0 := Lib.hid hr0
  have HRW := Lib.hid hr
  have HP0 := Lib.hid hp0
  have HX0 := Lib.hid hx0
  have HO0 := Lib.hid ho0
  have HT0 := Lib.hid ht0
  clear hb0 hr hr0 hp0 hx0 ho0 ht0 hx hux
  go_enter Tryd.func98, Tryd.ntmps98
  go_wp2_with fail
  generalize ((((w.alloc (.cells #[.int .u64 p] 22)).alloc (.cells #[.slice X cnt cx] 41)).alloc (.cells #[.int .u64 0, .int .u64 0] 118)).alloc (.cells #[.int .u64 0, .int .u64 0] 118)) = W at *
  refine (csum1_calls 132 #[.pointer (some ⟨w.heap.size, 0, none⟩)] (sufA p x) (fun _ ws => ws = W) (w.heap.size + 1) X cnt cx x W cs2_cf HN.out hl (sufA_zero p x) rfl
    (fun k ws h => by subst h; exact ⟨HX0.out.cell (i := 0) rfl, HR0.out⟩) (fun k hk ws h => ?_)).mono ?_
  · subst h
    have h1 := csum2_calls p (sufA p x k) (x.getD (cnt - (k + 1)) 0) w.heap.size ws HP.out (u64_sufA p x k) (by
      have h3 : cnt - (k + 1) < x.length := by have := HN.out; omega
      rw [getD_of h3]; exact HU.out _ (List.getElem_mem h3)) (HP0.out.cell (i := 0) rfl)
    have h2 := sufA_succ p x (k := k) (by rw [HN.out]; exact hk)
    rw [HN.out] at h2
    rw [h2] at h1
    exact h1
  rintro e w1 ⟨rfl, h1⟩
  subst h1
  obtain ⟨c0, c1, f0, f1⟩ := own2_cells HT0.out
  have HT1 : Hid (Own (w1.setCell ⟨w.heap.size + 1 + 1 + 1, 0, none⟩ (.int .u64 (sufA p x cnt))) w.heap.size 118 1 (some ⟨w.heap.size + 1 + 1 + 1, 0, none⟩) 2 2 [.int .u64 (sufA p x cnt), .int .u64 0]) := Lib.hid (HT0.out.stored 0 _)
  have HG1 : Hid (Grown (w.heap.size + 1 + 1 + 1) w1 (w1.setCell ⟨w.heap.size + 1 + 1 + 1, 0, none⟩ (.int .u64 (sufA p x cnt)))) := Lib.hid ((Grown.refl _ w1).setCell 0 _)
  have HZ1 : Hid ((w1.setCell ⟨w.heap.size + 1 + 1 + 1, 0, none⟩ (.int .u64 (sufA p x cnt))).heap.size = w.heap.size + 1 + 1 + 1 + 1) := Lib.hid (by rw [World.size_setCell]; exact HSZ.out)
  have hsz : w1.heap.size = w.heap.size + 1 + 1 + 1 + 1 := HSZ.out
  go_wp2_with fail
  clear c0 c1 f0 f1
  have hRP : RowX (w.heap.size + 1 + 1 + 1) w1 (some ⟨w.heap.size, 0, none⟩) [.int .u64 p] := ⟨HP0.out, fun y hy => by cases hy; dsimp only; omega⟩
  have hRX : RowX (w.heap.size + 1 + 1 + 1) w1 (some ⟨w.heap.size + 1, 0, none⟩) [.slice X cnt cx] := ⟨HX0.out, fun y hy => by cases hy; dsimp only; omega⟩
  have hbV : Below w.heap.size w (w1.setCell ⟨w.heap.size + 1 + 1 + 1, 0, none⟩ (.int .u64 (sufA p x cnt))) := HB0.out.setCell (p := ⟨w.heap.size + 1 + 1 + 1, 0, none⟩) (by dsimp only; omega) _
  have hO1 := HO0.out.off' HG1.out (by omega)
  have hRP2 := hRP.grown HG1.out
  have hRX2 := hRX.grown HG1.out
  have hT2 := HT1.out
  have hz2 := HZ1.out
  clear hRP hRX HT1 HG1 HZ1 HSZ hsz HT0 HO0 HP0 HX0 HR0 HB0
  generalize (w1.setCell ⟨w.heap.size + 1 + 1 + 1, 0, none⟩ (.int .u64 (sufA p x cnt))) = V at *
  have hbA : Below V.heap.size V (V.alloc (.cells #[.int .u64 0] 22)) := (Below.refl _ _).alloc (Nat.le_refl _) _
  have hOT : Own (V.alloc (.cells #[.int .u64 0] 22)) w.heap.size 22 1 (some ⟨w.heap.size + 1 + 1 + 1 + 1, 0, none⟩) 1 1 [.int .u64 0] := by
    have h1 := own_one V w.heap.size 22 [.int .u64 0] 1 (by omega) rfl (by decide)
    rw [hz2] at h1
    exact h1
  have HBW := Lib.hid (hbV.trans (hbA.mono (by omega)))
  have HOW := Lib.hid (hO1.grown hbA)
  have HTW := Lib.hid (hT2.grown hbA)
  have HRPW : Hid (RowX (w.heap.size + 1 + 1 + 1 + 1) (V.alloc (.cells #[.int .u64 0] 22)) (some ⟨w.heap.size, 0, none⟩) [.int .u64 p]) := Lib.hid ⟨hRP2.1.below hbA, fun y hy => by cases hy; dsimp only; omega⟩
  have HRXW : Hid (RowX (w.heap.size + 1 + 1 + 1 + 1) (V.alloc (.cells #[.int .u64 0] 22)) (some ⟨w.heap.size + 1, 0, none⟩) [.slice X cnt cx]) := Lib.hid ⟨hRX2.1.below hbA, fun y hy => by cases hy; dsimp only; omega⟩
  have HZW : Hid (w.heap.size ≤ (V.alloc (.cells #[.int .u64 0] 22)).heap.size) := Lib.hid (by simp only [size_alloc]; omega)
  have HOT := Lib.hid hOT
  clear hbV hO1 hRP2 hRX2 hT2 hz2 hbA hOT
  generalize (V.alloc (.cells #[.int .u64 0] 22)) = W2 at *
  refine (csum1_calls 133 #[.pointer (some ⟨w.heap.size, 0, none⟩), .pointer (some ⟨w.heap.size + 1 + 1 + 1 + 1, 0, none⟩)] (sufB p x) (fun k ws => Grown (w.heap.size + 1 + 1 + 1 + 1) W2 ws ∧ Own ws w.heap.size 22 1 (some ⟨w.heap.size + 1 + 1 + 1 + 1, 0, none⟩) 1 1 [.int .u64 (sufA p x k)]) (w.heap.size + 1) X cnt cx x W2 cs3_cf HN.out hl (sufB_zero p x)
    ⟨Grown.refl _ _, by rw [sufA_zero]; exact HOT.out⟩
    (fun k ws h => ⟨RowX.cellB (HRXW.out.grown h.1) (i := 0) rfl, HRW.out.below (HBW.out.trans (h.1.of_below (by omega) HZW.out))⟩) (fun k hk ws h => ?_)).mono ?_
  · have h3 : cnt - (k + 1) < x.length := by have := HN.out; omega
    have h1 := csum3_calls p (sufB p x k) (sufA p x k) (x.getD (cnt - (k + 1)) 0) w.heap.size (w.heap.size + 1 + 1 + 1 + 1) w.heap.size ws HP.out (u64_sufB p x k) (u64_sufA p x k) (by
      rw [getD_of h3]; exact HU.out _ (List.getElem_mem h3)) (HRPW.out.grown h.1) h.2
    have h2 := sufA_succ p x (k := k) (by rw [HN.out]; exact hk)
    have h4 := sufB_succ p x (k := k) (by rw [HN.out]; exact hk)
    rw [HN.out] at h2
    rw [h2, h4] at h1
    refine h1.mono ?_
    rintro e w' ⟨rfl, ho, hg⟩
    exact ⟨rfl, h.1.trans hg, ho⟩
  rintro e w4 ⟨rfl, hg, ho⟩
  have HO4 := Lib.hid (HOW.out.off' hg (by omega))
  have HT4 := Lib.hid (HTW.out.off' hg (by omega))
  have HB4 : Hid (Below w.heap.size w w4) := Lib.hid (HBW.out.trans (hg.of_below (by omega) HZW.out))
  clear hg ho
  have HT5 : Hid (Own (w4.setCell ⟨w.heap.size + 1 + 1 + 1, 1, none⟩ (.int .u64 (sufB p x cnt))) w.heap.size 118 1 (some ⟨w.heap.size + 1 + 1 + 1, 0, none⟩) 2 2 [.int .u64 (sufA p x cnt), .int .u64 (sufB p x cnt)]) := Lib.hid (HT4.out.stored 1 _)
  have HO5 : Hid (Own (w4.setCell ⟨w.heap.size + 1 + 1 + 1, 1, none⟩ (.int .u64 (sufB p x cnt))) w.heap.size 118 1 (some ⟨w.heap.size + 1 + 1, 0, none⟩) 2 2 [.int .u64 0, .int .u64 0]) := Lib.hid (HO4.out.off' ((Grown.refl (w.heap.size + 1 + 1 + 1) w4).setCell 1 (.int .u64 (sufB p x cnt))) (by omega))
  have HB5 : Hid (Below w.heap.size w (w4.setCell ⟨w.heap.size + 1 + 1 + 1, 1, none⟩ (.int .u64 (sufB p x cnt)))) := Lib.hid (HB4.out.setCell (p := ⟨w.heap.size + 1 + 1 + 1, 1, none⟩) (by dsimp only; omega) _)
  obtain ⟨_, c1, _, f1⟩ := own2_cells HT4.out
  obtain ⟨d0, d1, _, _⟩ := own2_cells HT5.out
  obtain ⟨e0, e1, g0, g1⟩ := own2_cells HO5.out
  go_wp2
  clear c1 f1 d0 d1 e0 e1 g0 g1
  obtain ⟨c0, c1, _, _⟩ := own2_cells (own2 HO5.out (.int .u64 (sufA p x cnt)) (.int .u64 (sufB p x cnt)))
  exact bodyPost_ret (pair1_ret rfl _ _ (w.heap.size + 1 + 1) _ _ rfl c0 c1) rfl ⟨by rw [HF1.out, HF2.out], below_set2 HB5.out (by omega) _ _⟩
set_option maxRecDepth 100000 in
set_option maxHeartbeats 1000000 in
theorem ccsums_calls (p : Int) (X : Option Addr) (cnt cx : Nat) (x : List Int) (w : World) (hx : x.length = cnt) (hp : U64 p) (hr : Row w X (nums .u64 x)) (hl : cnt ≤ 4096) (hux : ∀ d ∈ x, U64 d) (hk : knownS p = true) :
    Calls Tryd.prog 53 #[.int .u64 p, .slice X cnt cx] w fun e w' => e = .returned (.tuple #[.agg #[.int .u64 (redS p (csum one' x)), .int .u64 (redS p (csum plc' x))], .int .i64 0]) ∧ Below w.heap.size w w' := by
  have HP := Lib.hid hp
  have HK := Lib.hid hk
  have hbA : Below w.heap.size w (w.alloc (.cells #[.int .u64 0, .int .u64 0] 77)) := (Below.refl _ _).alloc (Nat.le_refl _) _
  have HBA := Lib.hid hbA
  have HRA := Lib.hid (hr.below hbA)
  have HOA : Hid (Own (w.alloc (.cells #[.int .u64 0, .int .u64 0] 77)) w.heap.size 77 1 (some ⟨w.heap.size, 0, none⟩) 2 2 [.int .u64 0, .int .u64 0]) := Lib.hid (own_one w w.heap.size 77 [.int .u64 0, .int .u64 0] 2 (Nat.le_refl _) rfl (by decide))
  have HS := Lib.hid fun w h => csum_calls p X cnt cx x w hx hp h (by omega) hux
  have f0 : decide ((4096 : Int) < (cnt : Int)) = false := by simp; omega
  have f1 : decide (4096 < cnt) = false := by simp; omega
  clear hbA hr hx hux hk
  generalize redS p (csum one' x) = za at *
  generalize redS p (csum plc' x) = zb at *
  go_enter Tryd.func53, Tryd.ntmps53
  go_wp2_with fail
  generalize (w.alloc (.cells #[.int .u64 0, .int .u64 0] 77)) = w1 at *
  refine (known_calls p w1).mono ?_
  rw [HK.out]
  rintro e w2 ⟨rfl, h2⟩
  subst h2
  go_wp2_with fail
  refine (HS.out _ HRA.out).mono ?_
  rintro e w3 ⟨rfl, hb⟩
  have HB3 := Lib.hid (blT HBA.out hb)
  have HO3 := Lib.hid (HOA.out.grown hb)
  clear hb
  obtain ⟨c0, c1, g0, g1⟩ := own2_cells HO3.out
  go_wp2
  clear c0 c1 g0 g1
  obtain ⟨c0, c1, _, _⟩ := own2_cells (own2 HO3.out (.int .u64 za) (.int .u64 zb))
  exact bodyPost_ret (pair_ret rfl _ _ w.heap.size _ _ _ rfl rfl c0 c1) rfl ⟨rfl, below_set2 HB3.out (Nat.le_refl _) _ _⟩
/-- Pairs of words are the same. -/
theorem eq_pair (a b c d : Int) (w : World) : (Op.equalIn 10000 77 (.agg #[.int .u64 a, .int .u64 b]) (.agg #[.int .u64 c, .int .u64 d])).run Tryd.prog w = .ok ((a == c) && (b == d)) w := by
  have hu : Tryd.prog.underlying 77 = some (.array 2 22) := by kernel_rfl
  have he : Tryd.prog.underlying 22 = some (.int .u64) := by kernel_rfl
  have hp : Tryd.prog.plainKey 22 = true := by kernel_rfl
  have hc : Tryd.prog.cellsOf 22 = 1 := by kernel_rfl
  obtain ⟨i, hi⟩ := Option.isSome_iff_exists.1 (show (Tryd.prog.info? 22).isSome = true by kernel_rfl)
  have p0 : ∀ u v : Value, (part 22 #[u, v] 0).run Tryd.prog w = .ok u w := fun u v => run_part_plain w hp rfl
  have p1 : ∀ u v : Value, (part 22 #[u, v] 1).run Tryd.prog w = .ok v w := fun u v => run_part_plain w hp rfl
  have q : ∀ x y : Int, (Op.equalIn 9999 22 (.int .u64 x) (.int .u64 y)).run Tryd.prog w = .ok (x == y) w := fun x y => run_equalIn_int w 9998 22 .u64 .u64 x y he
  rw [run_equalIn_array w 9999 _ _ hu hi, hc]
  show (Op.eqItems 9999 22 1 _ _ [0, 1]).run _ w = _
  simp only [Op.eqItems, Sem.run_bind, Nat.zero_mul, Nat.one_mul, p0, p1, q, Result.andThen_ok]
  have q2 := q b d
  cases h1 : (a == c) <;> cases h2 : (b == d) <;> rw [h2] at q2 <;> simp [p1, q2]
end Go.Proofs.YtohcoidbncbijaaDoor.P
