
/- Sums over the lines of an axis; what a seed makes of a transform, plainly. Under no condition beside those of each lemma. -/
import Derived.Test.YtnlmmgcjhedjkaaDoorPlainB
import Derived.Test.YtnlmmgcjhedjkaaDoorGeomB
namespace Go.Proofs.YtnlmmgcjhedjkaaDoor.P
set_option linter.unusedVariables false
theorem metB_step {I d : Int} (hI : 1 ≤ I) {k c v0 : Nat} (hc : (c : Int) < d) (hv : (v0 : Int) = vOf I d k c) (u : Nat) : metB I d k (c + 1) u = if u = v0 then true else metB I d k c u := by
  have ek : kOf I d v0 = k := by rw [hv, kOf_vOf hI (by omega) hc]
  have ex : xOf I d v0 = c := by rw [hv, xOf_vOf hI (by omega) hc]
  by_cases e : u = v0
  · subst e
    rw [if_pos rfl]
    unfold metB
    rw [decide_eq_true (p := kOf _ _ (u : Int) = k) ek, decide_eq_true (p := xOf _ _ (u : Int) < _) (by omega)]; simp
  · rw [if_neg e]
    unfold metB
    by_cases hku : kOf I d u = k
    · have hxu : xOf I d u ≠ c := by
        intro hxu
        apply e
        have h3 := vOf_of (I := I) (d := d) (v := (u : Int)) hI
        rw [hku, hxu, ← hv] at h3
        omega
      have : (xOf I d u < ((c + 1 : Nat) : Int)) ↔ (xOf I d u < (c : Int)) := by omega
      rw [decide_eq_decide.2 this]
    · rw [decide_eq_false (p := kOf _ _ (u : Int) = k) hku]; simp
theorem metB_not {I d : Int} (hI : 1 ≤ I) {k c v0 : Nat} (hc : (c : Int) < d) (hv : (v0 : Int) = vOf I d k c) : metB I d k c v0 = false := by
  have ek : kOf I d v0 = k := by rw [hv, kOf_vOf hI (by omega) hc]
  have ex : xOf I d v0 = c := by rw [hv, xOf_vOf hI (by omega) hc]
  unfold metB
  rw [decide_eq_false (p := kOf I d v0 < _) (by omega), decide_eq_false (p := xOf I d v0 < _) (by omega)]; simp
theorem metB_line {I d : Int} {D : Nat} (hd : 1 ≤ d) (hD : (D : Int) = d) (k u : Nat) : metB I d k D u = metB I d (k + 1) 0 u := by
  have hx := xOf_bound (I := I) (v := (u : Int)) hd
  unfold metB
  rw [decide_eq_true (p := xOf I d u < (D : Int)) (by omega), decide_eq_false (p := xOf I d u < ((0 : Nat) : Int)) (by omega), Bool.and_true, Bool.and_false, Bool.or_false, ← Bool.decide_or]
  apply decide_eq_decide.2
  omega
def msk (I d : Int) (f : Nat → Int) (k c v : Nat) : Int := if metB I d k c v then f v else 0
theorem S_msk {I d : Int} (hI : 1 ≤ I) {n k c v0 : Nat} (hc : (c : Int) < d) (hv : (v0 : Int) = vOf I d k c) (hn : v0 < n) (f : Nat → Int) : S n (msk I d f k (c + 1)) = S n (msk I d f k c) + f v0 := by
  have e1 : S n (msk I d f k (c + 1)) = S n (fun v => msk I d f k c v + if v = v0 then f v else 0) := by
    refine S_congr fun v _ => ?_
    unfold msk
    rw [metB_step hI hc hv]
    by_cases e : v = v0
    · subst e
      rw [if_pos rfl, if_pos rfl, metB_not hI hc hv]; simp
    · rw [if_neg e, if_neg e, Int.add_zero]
  rw [e1, S_add, S_one hn (fun i _ hi => if_neg hi), if_pos rfl]
/-- A sum over all places is one over all lines. -/
theorem AxAt.S_lines {l : List Int} {N : Nat} (h : AxAt l N) {n K : Nat} (hn : prodL l = n) (hK : (n : Int) / l.getD N 1 = K) (f : Nat → Int) :
    S n f = S K (fun k => S (l.getD N 1).toNat (fun c => f (vOf (prodL (l.drop (N + 1))) (l.getD N 1) k c).toNat)) := by
  have hI := h.I1
  have hd := h.D1
  have hp := h.prod
  have hKK : (K : Int) = prodL (l.take N) * prodL (l.drop (N + 1)) := by
    rw [← hK, ← hn, hp, Int.mul_right_comm, Int.mul_ediv_cancel _ (by omega)]
  generalize prodL (l.drop (N + 1)) = I at *
  generalize l.getD N 1 = d at *
  generalize prodL (l.take N) = O at *
  have hb : ∀ k c : Nat, k < K → c < d.toNat → 0 ≤ vOf I d k c ∧ vOf I d k c < n := fun k c hk hc => by
    have := vOf_bound (O := O) (k := k) (x := c) hI hd (by omega) (by rw [← hKK]; omega) (by omega) (by omega)
    rw [← hp, hn] at this
    exact this
  have inner : ∀ k, k < K → ∀ c, c ≤ d.toNat → S n (msk I d f k c) = S n (msk I d f k 0) + S c (fun c => f (vOf I d k c).toNat) := fun k hk c => by
    induction c with
    | zero => intro _; simp [S]
    | succ c ih =>
      intro hc
      have h1 := hb k c hk (by omega)
      rw [S_msk hI (by omega) (v0 := (vOf I d k c).toNat) (by omega) (by omega), ih (by omega), S]
      omega
  have outer : ∀ k, k ≤ K → S n (msk I d f k 0) = S k (fun k => S d.toNat (fun c => f (vOf I d k c).toNat)) := fun k => by
    induction k with
    | zero =>
      intro _
      rw [S_congr (g := fun _ => 0) (fun v hv => ?_), S_zero]; · rfl
      have hk := kOf_bound hI hd (v := (v : Int)) (by omega) (by rw [← hp, hn]; omega)
      have hx := xOf_bound (I := I) (v := (v : Int)) hd
      unfold msk metB
      rw [decide_eq_false (by omega), decide_eq_false (p := xOf _ _ (v : Int) < _) (by omega)]; simp
    | succ k ih =>
      intro hk
      have e : S n (msk I d f (k + 1) 0) = S n (msk I d f k d.toNat) := S_congr fun v _ => by
        unfold msk; rw [← metB_line (D := d.toNat) hd (by omega) k v]
      rw [e, inner k (by omega) _ (Nat.le_refl _), ih (by omega), S]
  rw [← outer K (Nat.le_refl _)]
  refine S_congr fun v hv => ?_
  have hk := kOf_bound hI hd (v := (v : Int)) (by omega) (by rw [← hp, hn]; omega)
  unfold msk metB
  rw [decide_eq_true (p := kOf _ _ (v : Int) < _) (by omega)]; simp
/-- Over all places and a coordinate: the coordinate may change its part with the place's own. -/
theorem AxAt.S_turn {l : List Int} {N : Nat} (h : AxAt l N) {n : Nat} (hn : prodL l = n) (F : Nat → Nat → Int) :
    S n (fun v => S (l.getD N 1).toNat (fun c => F v c)) = S n (fun v => S (l.getD N 1).toNat (fun c => F (sv l N v c).toNat (P.xv l N v).toNat)) := by
  obtain ⟨K, hK⟩ := Int.eq_ofNat_of_zero_le (show 0 ≤ (n : Int) / l.getD N 1 from Int.ediv_nonneg (by omega) (by have := h.D1; omega))
  have hp := h.prod
  have hd := h.D1
  have hKK : (K : Int) = prodL (l.take N) * prodL (l.drop (N + 1)) := by
    rw [← hK, ← hn, hp, Int.mul_right_comm, Int.mul_ediv_cancel _ (by omega)]
  rw [h.S_lines hn hK, h.S_lines hn hK]
  refine S_congr fun k hk => ?_
  rw [S_comm]
  refine S_congr fun o ho => S_congr fun c hc => ?_
  have hb := vOf_bound (O := prodL (l.take N)) (k := k) (x := o) h.I1 h.D1 (by omega) (by rw [← hKK]; omega) (by omega) (by omega)
  rw [Int.toNat_of_nonneg hb.1]
  have e1 : sv l N (vOf (prodL (l.drop (N + 1))) (l.getD N 1) k o) c = vOf (prodL (l.drop (N + 1))) (l.getD N 1) k c := by
    unfold sv; rw [kOf_vOf h.I1 (by omega) (by omega)]
  have e2 : P.xv l N (vOf (prodL (l.drop (N + 1))) (l.getD N 1) k o) = o := xOf_vOf h.I1 (by omega) (by omega)
  rw [e1, e2, Int.toNat_natCast]
/-- Products. -/
def Pd : Nat → (Nat → Int) → Int
  | 0, _ => 1
  | n + 1, f => Pd n f * f n
theorem Pd_congr {f g : Nat → Int} : ∀ {n : Nat}, (∀ i, i < n → f i = g i) → Pd n f = Pd n g
  | 0, _ => rfl
  | n + 1, h => by rw [Pd, Pd, Pd_congr (fun i hi => h i (by omega)), h n (by omega)]
theorem Pd_split {f : Nat → Int} {k : Nat} : ∀ {n : Nat}, k < n → Pd n f = Pd n (fun j => if j = k then 1 else f j) * f k
  | 0, h => absurd h (Nat.not_lt_zero _)
  | n + 1, h => by
    rw [Pd, Pd]
    by_cases e : k = n
    · subst e
      rw [if_pos rfl, Int.mul_one, Pd_congr (g := fun j => if j = k then 1 else f j) (fun i hi => by rw [if_neg (by omega)])]
    · rw [if_neg (fun x => e x.symm), Pd_split (k := k) (n := n) (by omega)]
      grind
theorem red_Pd {p : Int} {f g : Nat → Int} : ∀ {n : Nat}, (∀ i, i < n → redS p (f i) = redS p (g i)) → redS p (Pd n f) = redS p (Pd n g)
  | 0, _ => rfl
  | n + 1, h => by rw [Pd, Pd]; exact red_mul (red_Pd fun i hi => h i (by omega)) (h n (by omega))
/-- What a word weighs, by a power. -/
def wghF (p : Int) (l : List Int) (N : Nat) (neg inv : Bool) (z : Int) (c : Nat) : Int := redS p (S (l.getD N 1).toNat (fun o => axW p l N neg inv c o * z ^ o))
def inA (l : List Int) (j : Nat) : Nat := (prodL (l.drop (j + 1))).toNat
/-- A place's weight when k axes have been gone through. -/
def Uf (p : Int) (ax : List (Int × Bool)) (inv : Bool) (r : Int) (k : Nat) (v j : Nat) : Int :=
  if j < k then (r ^ inA (dimsA ax) j) ^ (P.xv (dimsA ax) j v).toNat else wghF p (dimsA ax) j (ax.getD j (1, false)).2 inv (powS p r (inA (dimsA ax) j)) (P.xv (dimsA ax) j v).toNat
def UU (p : Int) (ax : List (Int × Bool)) (inv : Bool) (r : Int) (k : Nat) (v : Nat) : Int := Pd ax.length (Uf p ax inv r k v)
theorem UU_step {p : Int} {ax : List (Int × Bool)} (h : Chk7 p ax) (inv : Bool) (r : Int) {x : List Int} (hx : prodL (dimsA ax) = x.length) {k : Nat} (hk : k < ax.length) :
    redS p (S x.length (fun v => (axL p (dimsA ax) k (ax.getD k (1, false)).2 inv x).getD v 0 * UU p ax inv r (k + 1) v)) = redS p (S x.length (fun v => x.getD v 0 * UU p ax inv r k v)) := by
  obtain ⟨ha, hc⟩ := h.at hk
  generalize hR : (fun v : Nat => Pd ax.length (fun j => if j = k then 1 else Uf p ax inv r k v j)) = R
  have hR' : ∀ v, Pd ax.length (fun j => if j = k then 1 else Uf p ax inv r k v j) = R v := fun v => by rw [← hR]
  have e1 : ∀ v, UU p ax inv r k v = R v * wghF p (dimsA ax) k (ax.getD k (1, false)).2 inv (powS p r (inA (dimsA ax) k)) (P.xv (dimsA ax) k v).toNat := fun v => by
    rw [← hR']
    unfold UU
    rw [Pd_split hk]
    congr 1
    rw [Uf, if_neg (by omega)]
  have e2 : ∀ v, UU p ax inv r (k + 1) v = R v * (r ^ inA (dimsA ax) k) ^ (P.xv (dimsA ax) k v).toNat := fun v => by
    rw [← hR']
    unfold UU
    rw [Pd_split hk]
    congr 1
    · refine Pd_congr fun j _ => ?_
      by_cases e : j = k
      · rw [if_pos e, if_pos e]
      · rw [if_neg e, if_neg e]
        unfold Uf
        by_cases e3 : j < k
        · rw [if_pos e3, if_pos (by omega)]
        · rw [if_neg e3, if_neg (by omega)]
    · rw [Uf, if_pos (by omega)]
  have hRs : ∀ (v : Nat), v < x.length → ∀ c : Nat, c < ((dimsA ax).getD k 1).toNat → R (sv (dimsA ax) k v c).toNat = R v := fun v hv c hc => by
    have hsv := ha.sv_in (v := (v : Int)) (by omega) (by rw [hx]; omega) (c := (c : Int)) (by omega) (by omega)
    rw [← hR', ← hR']
    refine Pd_congr fun j hj => ?_
    by_cases e : j = k
    · rw [if_pos e, if_pos e]
    · rw [if_neg e, if_neg e]
      unfold Uf
      rw [Int.toNat_of_nonneg hsv.1, ha.xv_other (h.at hj).1 (Ne.symm e) (v : Int) (by omega) (by omega)]
  have f1 : redS p (S x.length (fun v => (axL p (dimsA ax) k (ax.getD k (1, false)).2 inv x).getD v 0 * UU p ax inv r (k + 1) v)) =
      redS p (S x.length (fun v => S ((dimsA ax).getD k 1).toNat (fun c => x.getD (sv (dimsA ax) k v c).toNat 0 * axW p (dimsA ax) k (ax.getD k (1, false)).2 inv c (P.xv (dimsA ax) k v).toNat * (R v * (r ^ inA (dimsA ax) k) ^ (P.xv (dimsA ax) k v).toNat)))) := by
    refine red_S fun v hv => ?_
    rw [axL_at _ _ _ _ _ _ hv, axF_is, e2, redS_mul_left, ← S_mulr]
  have f2 : redS p (S x.length (fun v => x.getD v 0 * UU p ax inv r k v)) =
      redS p (S x.length (fun v => S ((dimsA ax).getD k 1).toNat (fun c => x.getD v 0 * axW p (dimsA ax) k (ax.getD k (1, false)).2 inv (P.xv (dimsA ax) k v).toNat c * (R v * (r ^ inA (dimsA ax) k) ^ c)))) := by
    refine red_S fun v hv => ?_
    rw [e1, wghF, show x.getD v 0 * (R v * redS p (S ((dimsA ax).getD k 1).toNat (fun o => axW p (dimsA ax) k (ax.getD k (1, false)).2 inv (P.xv (dimsA ax) k v).toNat o * powS p r (inA (dimsA ax) k) ^ o))) = (x.getD v 0 * R v) * redS p (S ((dimsA ax).getD k 1).toNat (fun o => axW p (dimsA ax) k (ax.getD k (1, false)).2 inv (P.xv (dimsA ax) k v).toNat o * powS p r (inA (dimsA ax) k) ^ o)) from by grind, redS_mul_right, ← S_mul]
    refine red_S fun o _ => ?_
    have : redS p (powS p r (inA (dimsA ax) k) ^ o) = redS p ((r ^ inA (dimsA ax) k) ^ o) := red_pow (redS_redS _ _) o
    rw [show x.getD v 0 * axW p (dimsA ax) k (ax.getD k (1, false)).2 inv (P.xv (dimsA ax) k v).toNat o * (R v * (r ^ inA (dimsA ax) k) ^ o) = (x.getD v 0 * R v) * (axW p (dimsA ax) k (ax.getD k (1, false)).2 inv (P.xv (dimsA ax) k v).toNat o * (r ^ inA (dimsA ax) k) ^ o) from by grind]
    exact red_mul rfl (red_mul rfl this)
  rw [f1, f2, ha.S_turn hx (fun v c => x.getD v 0 * axW p (dimsA ax) k (ax.getD k (1, false)).2 inv (P.xv (dimsA ax) k v).toNat c * (R v * (r ^ inA (dimsA ax) k) ^ c))]
  congr 1
  refine S_congr fun v hv => S_congr fun c hc => ?_
  have hsv := ha.sv_in (v := (v : Int)) (by omega) (by rw [hx]; omega) (c := (c : Int)) (by omega) (by omega)
  rw [hRs v hv c hc, Int.toNat_of_nonneg hsv.1, ha.xv_sv (v : Int) (by omega) (by omega), Int.toNat_natCast]
theorem UU_all {p : Int} {ax : List (Int × Bool)} (h : Chk7 p ax) (inv : Bool) (r : Int) {x : List Int} (hx : prodL (dimsA ax) = x.length) : ∀ k, k ≤ ax.length →
    redS p (S x.length (fun v => (grN p ax inv x k).getD v 0 * UU p ax inv r k v)) = redS p (S x.length (fun v => x.getD v 0 * UU p ax inv r 0 v))
  | 0, _ => rfl
  | k + 1, hk => by
    have h1 := UU_step h inv r (x := grN p ax inv x k) (by rw [grN_length]; exact hx) (k := k) (by omega)
    rw [grN_length] at h1
    rw [grN, h1, UU_all h inv r hx k (by omega)]
theorem hor_S {l : List Int} (c : List Int) : ∀ k, k ≤ l.length → hor l c k * prodL (l.drop k) = S k (fun j => prodL (l.drop (j + 1)) * c.getD j 0)
  | 0, _ => by simp [hor, S]
  | k + 1, hk => by
    have e := prodL_drop l k (by omega)
    have ih := hor_S (l := l) c k (by omega)
    rw [hor, S, ← ih, e, getD_at (l := l) (show k < l.length by omega)]
    grind
theorem Pd_pow (r : Int) (e : Nat → Nat) : ∀ n, Pd n (fun j => r ^ e j) = r ^ ((List.range n).map e).sum
  | 0 => by simp [Pd]
  | n + 1 => by rw [Pd, Pd_pow r e n, ← Int.pow_add, List.range_succ, List.map_append]; simp
theorem S_nat (e : Nat → Nat) : ∀ n, S n (fun j => (e j : Int)) = (((List.range n).map e).sum : Nat)
  | 0 => rfl
  | n + 1 => by rw [S, S_nat e n, List.range_succ, List.map_append]; simp
theorem UU_end {p : Int} {ax : List (Int × Bool)} (h : Chk7 p ax) (inv : Bool) (r : Int) {n : Nat} (hn : prodL (dimsA ax) = n) {v : Nat} (hv : v < n) : UU p ax inv r ax.length v = r ^ v := by
  have hp := h.dims.pos
  have hl := dimsA_length ax
  unfold UU
  rw [Pd_congr (g := fun j => r ^ (inA (dimsA ax) j * (P.xv (dimsA ax) j v).toNat)) (fun j hj => by rw [Uf, if_pos hj, Int.pow_mul]), Pd_pow]
  congr 1
  have h1 := hor_S (l := dimsA ax) (coordL (dimsA ax) v) ax.length (by omega)
  have h2 := hor_coord hp (i := (v : Int)) (by omega) (by rw [hn]; omega) ax.length (by omega)
  rw [h2, show ax.length = (dimsA ax).length from hl.symm, List.drop_length] at h1
  rw [hl] at h1
  have h3 : S ax.length (fun j => prodL ((dimsA ax).drop (j + 1)) * (coordL (dimsA ax) v).getD j 0) = S ax.length (fun j => ((inA (dimsA ax) j * (P.xv (dimsA ax) j v).toNat : Nat) : Int)) := by
    refine S_congr fun j hj => ?_
    have hI := (hp.drop (j + 1)).prod
    have hx := (h.at hj).1.xv v
    rw [coordL_at _ _ (by omega), ← xv_coord]
    unfold inA
    push_cast
    rw [Int.toNat_of_nonneg (by omega), Int.toNat_of_nonneg hx.1]
  rw [h3, S_nat] at h1
  simp only [prodL, Int.mul_one, Int.ediv_one] at h1
  omega
/-- What a seed makes of a transform. -/
def expF (p : Int) (ax : List (Int × Bool)) (inv : Bool) (x : List Int) (r : Int) : Int := redS p (S x.length (fun v => x.getD v 0 * UU p ax inv r 0 v))
theorem expF_is {p : Int} {ax : List (Int × Bool)} (h : Chk7 p ax) (inv : Bool) {x : List Int} (hx : prodL (dimsA ax) = x.length) (r : Int) : expF p ax inv x r = evalG p r (grN p ax inv x ax.length) := by
  rw [evalG_S, grN_length]
  unfold expF
  rw [← UU_all h inv r hx ax.length (Nat.le_refl _)]
  congr 1
  refine S_congr fun v hv => ?_
  rw [UU_end h inv r hx hv]
end Go.Proofs.YtnlmmgcjhedjkaaDoor.P
