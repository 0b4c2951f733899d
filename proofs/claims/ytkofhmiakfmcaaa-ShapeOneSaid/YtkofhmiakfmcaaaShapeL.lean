/- Lines, plainly: each place lies in one line. Under no condition beside those of each lemma. -/
import Derived.Test.YtkofhmiakfmcaaaShapeP
namespace Go.Proofs.Ytkofhmiakfmcaaa.P
set_option linter.unusedVariables false
/-- The line of a place, its coordinate, and the place back from both: I: how far two stand apart, d: how long the axis is. -/
def kOf (I d v : Int) : Int := v / I / d * I + v % I
def xOf (I d v : Int) : Int := v / I % d
def vOf (I d k x : Int) : Int := k / I * d * I + k % I + x * I
theorem vOf_div {I d k x : Int} (hI : 1 ≤ I) : vOf I d k x / I = k / I * d + x := by
  have h0 := Int.emod_nonneg k (b := I) (by omega)
  have h1 := Int.emod_lt_of_pos k (b := I) (by omega)
  have e : vOf I d k x = k % I + (k / I * d + x) * I := by unfold vOf; rw [Int.add_mul]; omega
  rw [e, Int.add_mul_ediv_right _ _ (by omega), Int.ediv_eq_zero_of_lt h0 h1, Int.zero_add]
theorem vOf_mod {I d k x : Int} (hI : 1 ≤ I) : vOf I d k x % I = k % I := by
  have e : vOf I d k x = k % I + (k / I * d + x) * I := by unfold vOf; rw [Int.add_mul]; omega
  rw [e, Int.add_mul_emod_self_right, Int.emod_emod_of_dvd _ (Int.dvd_refl I)]
theorem xOf_vOf {I d k x : Int} (hI : 1 ≤ I) (x0 : 0 ≤ x) (x1 : x < d) : xOf I d (vOf I d k x) = x := by
  rw [xOf, vOf_div hI, Int.add_comm, Int.add_mul_emod_self_right, Int.emod_eq_of_lt x0 x1]
theorem kOf_vOf {I d k x : Int} (hI : 1 ≤ I) (x0 : 0 ≤ x) (x1 : x < d) : kOf I d (vOf I d k x) = k := by
  rw [kOf, vOf_div hI, vOf_mod hI, Int.add_comm (k / I * d), Int.add_mul_ediv_right _ _ (by omega), Int.ediv_eq_zero_of_lt x0 x1, Int.zero_add]
  exact Int.ediv_mul_add_emod _ _
theorem vOf_of {I d v : Int} (hI : 1 ≤ I) : vOf I d (kOf I d v) (xOf I d v) = v := by
  have h0 := Int.emod_nonneg v (b := I) (by omega)
  have h1 := Int.emod_lt_of_pos v (b := I) (by omega)
  have e1 : kOf I d v / I = v / I / d := by
    rw [kOf, Int.add_comm, Int.add_mul_ediv_right _ _ (by omega), Int.ediv_eq_zero_of_lt h0 h1, Int.zero_add]
  have e2 : kOf I d v % I = v % I := by
    rw [kOf, Int.add_comm, Int.add_mul_emod_self_right, Int.emod_emod_of_dvd _ (Int.dvd_refl I)]
  rw [vOf, e1, e2, xOf]
  have e3 : v / I / d * d + v / I % d = v / I := Int.ediv_mul_add_emod _ _
  have e4 : v / I * I + v % I = v := Int.ediv_mul_add_emod _ _
  rw [← e3, Int.add_mul] at e4
  omega
theorem vOf_bound {I d O k x : Int} (hI : 1 ≤ I) (hd : 1 ≤ d) (k0 : 0 ≤ k) (k1 : k < O * I) (x0 : 0 ≤ x) (x1 : x < d) : 0 ≤ vOf I d k x ∧ vOf I d k x < O * d * I := by
  have hq0 : 0 ≤ k / I := Int.ediv_nonneg k0 (by omega)
  have hq1 : k / I < O := Int.ediv_lt_of_lt_mul (by omega) k1
  have h0 := Int.emod_nonneg k (b := I) (by omega)
  have h1 := Int.emod_lt_of_pos k (b := I) (by omega)
  have e : vOf I d k x = (k / I * d + x) * I + k % I := by unfold vOf; rw [Int.add_mul]; omega
  have h2 : 0 ≤ k / I * d := Int.mul_nonneg hq0 (by omega)
  have h3 : (k / I + 1) * d ≤ O * d := Int.mul_le_mul_of_nonneg_right (by omega) (by omega)
  rw [Int.add_mul, Int.one_mul] at h3
  have h4 : (k / I * d + x + 1) * I ≤ O * d * I := Int.mul_le_mul_of_nonneg_right (by omega) (by omega)
  have h5 : 0 ≤ (k / I * d + x) * I := Int.mul_nonneg (by omega) (by omega)
  rw [Int.add_mul, Int.one_mul] at h4
  rw [e]
  omega
theorem kOf_bound {I d O v : Int} (hI : 1 ≤ I) (hd : 1 ≤ d) (v0 : 0 ≤ v) (v1 : v < O * d * I) : 0 ≤ kOf I d v ∧ kOf I d v < O * I := by
  have h0 := Int.emod_nonneg v (b := I) (by omega)
  have h1 := Int.emod_lt_of_pos v (b := I) (by omega)
  have h2 : 0 ≤ v / I := Int.ediv_nonneg v0 (by omega)
  have h3 : v / I < O * d := Int.ediv_lt_of_lt_mul (by omega) v1
  have h4 : 0 ≤ v / I / d := Int.ediv_nonneg h2 (by omega)
  have h5 : v / I / d < O := Int.ediv_lt_of_lt_mul (by omega) h3
  have h6 : 0 ≤ v / I / d * I := Int.mul_nonneg h4 (by omega)
  have h7 : (v / I / d + 1) * I ≤ O * I := Int.mul_le_mul_of_nonneg_right (by omega) (by omega)
  rw [Int.add_mul, Int.one_mul] at h7
  unfold kOf
  omega
theorem xOf_bound {I d v : Int} (hd : 1 ≤ d) : 0 ≤ xOf I d v ∧ xOf I d v < d :=
  ⟨Int.emod_nonneg _ (by omega), Int.emod_lt_of_pos _ (by omega)⟩
theorem vOf_next {I d k : Int} (hI : 1 ≤ I) (hd : 1 ≤ d) : vOf I d k 0 < vOf I d (k + 1) 0 := by
  have h0 := Int.emod_nonneg k (b := I) (by omega)
  have h1 := Int.emod_lt_of_pos k (b := I) (by omega)
  have hk : k / I * I + k % I = k := Int.ediv_mul_add_emod _ _
  unfold vOf
  rw [Int.zero_mul, Int.add_zero, Int.add_zero]
  by_cases hr : k % I + 1 < I
  · have e1 : (k + 1) / I = k / I := by
      rw [show k + 1 = (k % I + 1) + k / I * I from by omega, Int.add_mul_ediv_right _ _ (by omega), Int.ediv_eq_zero_of_lt (by omega) hr, Int.zero_add]
    have e2 : (k + 1) % I = k % I + 1 := by
      have := Int.ediv_mul_add_emod (k + 1) I
      rw [e1] at this
      omega
    rw [e1, e2]; omega
  · have hr2 : k % I + 1 = I := by omega
    have e0 : k + 1 = (k / I + 1) * I := by rw [Int.add_mul, Int.one_mul]; omega
    have e1 : (k + 1) / I = k / I + 1 := by rw [e0, Int.mul_ediv_cancel _ (by omega)]
    have e2 : (k + 1) % I = 0 := by rw [e0, Int.mul_emod_left]
    rw [e1, e2, Int.add_mul, Int.one_mul, Int.add_mul]
    have h6 : 1 * I ≤ d * I := Int.mul_le_mul_of_nonneg_right hd (by omega)
    omega
/-- What has been met when k lines and x of the next are over. -/
def metB (I d : Int) (k x : Nat) (v : Nat) : Bool := decide (kOf I d v < k) || (decide (kOf I d v = k) && decide (xOf I d v < x))
def metL (I d : Int) (n k x : Nat) : List Int := (List.range n).map fun v => if metB I d k x v then 1 else 0
theorem metL_length (I d : Int) (n k x : Nat) : (metL I d n k x).length = n := by simp [metL]
theorem metL_at (I d : Int) (n k x v : Nat) (h : v < n) : (metL I d n k x)[v]'(by rw [metL_length]; exact h) = if metB I d k x v then 1 else 0 := by simp [metL]
theorem metL_start {I d O : Int} {n : Nat} (hI : 1 ≤ I) (hd : 1 ≤ d) (hn : (n : Int) = O * d * I) : metL I d n 0 0 = List.replicate n 0 := by
  apply List.ext_getElem
  · simp [metL]
  · intro v h1 h2
    have hv : v < n := by rw [metL_length] at h1; exact h1
    have hk := kOf_bound hI hd (v := (v : Int)) (by omega) (by rw [← hn]; omega)
    have hx := xOf_bound (I := I) (v := (v : Int)) hd
    rw [metL_at _ _ _ _ _ _ hv]
    have : metB I d 0 0 v = false := by
      unfold metB
      rw [decide_eq_false (by omega), decide_eq_false (p := xOf I d v < _) (by omega)]; simp
    rw [this]; simp
theorem metL_step {I d : Int} {n k x v : Nat} (hI : 1 ≤ I) (hx : (x : Int) < d) (hv : (v : Int) = vOf I d k x) (hvn : v < n) : (metL I d n k x).set v 1 = metL I d n k (x + 1) := by
  have ek : kOf I d v = k := by rw [hv, kOf_vOf hI (by omega) hx]
  have ex : xOf I d v = x := by rw [hv, xOf_vOf hI (by omega) hx]
  apply List.ext_getElem
  · simp [metL]
  · intro u h1 h2
    have hu : u < n := by rw [metL_length] at h2; exact h2
    rw [List.getElem_set, metL_at _ _ _ _ _ _ hu]
    split
    · rename_i e; subst e
      have : metB I d k (x + 1) v = true := by
        unfold metB
        rw [decide_eq_true (p := kOf I d v = k) ek, decide_eq_true (p := xOf I d v < _) (by omega)]; simp
      rw [metL_at _ _ _ _ _ _ hu, this]; rfl
    · rename_i e
      rw [metL_at _ _ _ _ _ _ hu]
      have : metB I d k (x + 1) u = metB I d k x u := by
        unfold metB
        by_cases hku : kOf I d u = k
        · have hxu : xOf I d u ≠ x := by
            intro hxu
            apply e
            have h3 := vOf_of (I := I) (d := d) (v := (u : Int)) hI
            rw [hku, hxu, ← hv] at h3
            omega
          have : (xOf I d u < ((x + 1 : Nat) : Int)) ↔ (xOf I d u < (x : Int)) := by omega
          rw [decide_eq_decide.2 this]
        · rw [decide_eq_false (p := kOf I d u = k) hku]; simp
      rw [this]
theorem metL_none {I d : Int} {n k x v : Nat} (hI : 1 ≤ I) (hx : (x : Int) < d) (hv : (v : Int) = vOf I d k x) (hvn : v < n) : (metL I d n k x)[v]'(by rw [metL_length]; exact hvn) = 0 := by
  have ek : kOf I d v = k := by rw [hv, kOf_vOf hI (by omega) hx]
  have ex : xOf I d v = x := by rw [hv, xOf_vOf hI (by omega) hx]
  rw [metL_at _ _ _ _ _ _ hvn]
  have : metB I d k x v = false := by
    unfold metB
    rw [decide_eq_false (p := kOf I d v < _) (by omega), decide_eq_false (p := xOf I d v < _) (by omega)]; simp
  rw [this]; rfl
theorem metL_line {I d : Int} {n k D : Nat} (hD : (D : Int) = d) (hd : 1 ≤ d) : metL I d n k D = metL I d n (k + 1) 0 := by
  apply List.ext_getElem
  · simp [metL]
  · intro u h1 h2
    have hu : u < n := by rw [metL_length] at h2; exact h2
    rw [metL_at _ _ _ _ _ _ hu, metL_at _ _ _ _ _ _ hu]
    have hx := xOf_bound (I := I) (v := (u : Int)) hd
    have : metB I d k D u = metB I d (k + 1) 0 u := by
      unfold metB
      rw [decide_eq_true (p := xOf I d u < (D : Int)) (by omega), decide_eq_false (p := xOf I d u < ((0 : Nat) : Int)) (by omega), Bool.and_true, Bool.and_false, Bool.or_false, ← Bool.decide_or]
      apply decide_eq_decide.2
      omega
    rw [this]
theorem metL_all {I d O : Int} {n K : Nat} (hI : 1 ≤ I) (hd : 1 ≤ d) (hn : (n : Int) = O * d * I) (hK : (K : Int) = O * I) {v : Nat} (h : v < n) : (metL I d n K 0)[v]'(by rw [metL_length]; exact h) = 1 := by
  have hk := kOf_bound hI hd (v := (v : Int)) (by omega) (by rw [← hn]; omega)
  rw [metL_at _ _ _ _ _ _ h]
  have : metB I d K 0 v = true := by
    unfold metB
    rw [decide_eq_true (p := kOf I d v < _) (by omega)]; simp
  rw [this]; rfl
end Go.Proofs.Ytkofhmiakfmcaaa.P
