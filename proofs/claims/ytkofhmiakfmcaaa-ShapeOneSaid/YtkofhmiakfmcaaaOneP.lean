/- An axis of length 1 put in, plainly. Under no condition beside those of each lemma. -/
import Derived.Test.YtkofhmiakfmcaaaLineP
namespace Go.Proofs.Ytkofhmiakfmcaaa.P
open Go.RowKit
set_option linter.unusedVariables false
/-- The list with u put in at k. -/
def ins (l : List Int) (k : Nat) (u : Int) : List Int := l.take k ++ u :: l.drop k
theorem ins_length (l : List Int) (k : Nat) (u : Int) (h : k ≤ l.length) : (ins l k u).length = l.length + 1 := by
  simp [ins]; omega
theorem ins_prod (l : List Int) (k : Nat) : prodL (ins l k 1) = prodL l := by
  unfold ins
  rw [prodL_append, prodL, Int.one_mul, ← prodL_append, List.take_append_drop]
theorem ins_pos (l : List Int) (k : Nat) : Pos (ins l k 1) ↔ Pos l := by
  unfold ins Pos
  constructor
  · intro h d hd
    rw [← List.take_append_drop k l, List.mem_append] at hd
    refine h d ?_
    rw [List.mem_append, List.mem_cons]
    rcases hd with h1 | h1
    · exact .inl h1
    · exact .inr (.inr h1)
  · intro h d hd
    rw [List.mem_append, List.mem_cons] at hd
    rcases hd with h1 | h1 | h1
    · exact h d (List.mem_of_mem_take h1)
    · omega
    · exact h d (List.mem_of_mem_drop h1)
theorem ins_dims (l : List Int) (k : Nat) (h : k ≤ l.length) (h1 : 1 ≤ l.length) (h3 : l.length ≤ 3) : Dims (ins l k 1) ↔ Dims l := by
  have e := ins_length l k 1 h
  constructor
  · intro d
    exact ⟨h1, by omega, (ins_pos l k).1 d.pos, by rw [← ins_prod l k]; exact d.all⟩
  · intro d
    exact ⟨by omega, by omega, (ins_pos l k).2 d.pos, by rw [ins_prod l k]; exact d.all⟩
theorem ins_drop_hi (l : List Int) (k j : Nat) (h : k ≤ l.length) (hj : k ≤ j) : (ins l k 1).drop (j + 1) = l.drop j := by
  unfold ins
  rw [List.drop_append]
  have e : (l.take k).length = k := by simp; omega
  rw [List.drop_eq_nil_of_le (by omega), List.nil_append, e, show j + 1 - k = (j - k) + 1 from by omega, List.drop_succ_cons, List.drop_drop]
  congr 1; omega
theorem ins_drop_lo (l : List Int) (k j : Nat) (h : k ≤ l.length) (hj : j ≤ k) : prodL ((ins l k 1).drop j) = prodL (l.drop j) := by
  unfold ins
  rw [List.drop_append]
  have e : (l.take k).length = k := by simp; omega
  rw [e, show j - k = 0 from by omega, List.drop_zero, prodL_append, prodL, Int.one_mul, ← prodL_append]
  congr 1
  rw [List.drop_take]
  have h1 := List.take_append_drop (k - j) (l.drop j)
  rw [List.drop_drop, show j + (k - j) = k from by omega] at h1
  exact h1
theorem ins_get_lo (l : List Int) (k j : Nat) (u : Int) (h : k ≤ l.length) (hj : j < k) : (ins l k u).getD j 1 = l.getD j 1 := by
  unfold ins
  rw [List.getD_eq_getElem?_getD, List.getD_eq_getElem?_getD, List.getElem?_append_left (by simp; omega), List.getElem?_take, if_pos hj]
theorem ins_get_hi (l : List Int) (k j : Nat) (u : Int) (h : k ≤ l.length) (hj : k ≤ j) : (ins l k u).getD (j + 1) 1 = l.getD j 1 := by
  unfold ins
  have e : (l.take k).length = k := by simp; omega
  rw [List.getD_eq_getElem?_getD, List.getD_eq_getElem?_getD, List.getElem?_append_right (by omega), e, show j + 1 - k = (j - k) + 1 from by omega, List.getElem?_cons_succ, List.getElem?_drop]
  congr 2; omega
theorem ins_get_at (l : List Int) (k : Nat) (u : Int) (h : k ≤ l.length) : (ins l k u).getD k 1 = u := by
  unfold ins
  have e : (l.take k).length = k := by simp; omega
  rw [List.getD_eq_getElem?_getD, List.getElem?_append_right (by omega), e, Nat.sub_self]; rfl
/-- The coordinates of a place: as they were, and 0 at the axis. -/
theorem ins_coord (l : List Int) (k : Nat) (h : k ≤ l.length) (i : Int) : coordL (ins l k 1) i = ins (coordL l i) k 0 := by
  have hc : k ≤ (coordL l i).length := by rw [coordL_length]; exact h
  apply List.ext_getElem
  · rw [coordL_length, ins_length _ _ _ h, ins_length _ _ _ hc, coordL_length]
  · intro j h1 h2
    have hj : j < l.length + 1 := by rw [coordL_length, ins_length _ _ _ h] at h1; exact h1
    have e1 : (coordL (ins l k 1) i)[j] = coordF (ins l k 1) i j := by simp [coordL]
    have e2 : ∀ t, (ht : t < l.length) → (coordL l i).getD t 1 = coordF l i t := fun t ht => by
      rw [List.getD_eq_getElem?_getD]; simp [coordL, ht]
    have e3 : (ins (coordL l i) k 0)[j] = (ins (coordL l i) k 0).getD j 1 := (getD_at h2 1).symm
    rw [e1, e3]
    unfold coordF
    rcases Nat.lt_trichotomy j k with hjk | hjk | hjk
    · rw [ins_get_lo l k j 1 h hjk, ins_get_lo _ k j 0 hc hjk, e2 j (by omega), ins_drop_lo l k (j + 1) h (by omega), coordF]
    · subst hjk
      rw [ins_get_at l j 1 h, ins_get_at _ j 0 hc, Int.emod_one]
    · obtain ⟨t, rfl⟩ : ∃ t, j = t + 1 := ⟨j - 1, by omega⟩
      rw [ins_get_hi l k t 1 h (by omega), ins_get_hi _ k t 0 hc (by omega), e2 t (by omega), ins_drop_hi l k (t + 1) h (by omega), coordF]
theorem ins_coordS (l : List Int) (k : Nat) (h : k ≤ l.length) (h1 : 1 ≤ l.length) (h3 : l.length ≤ 3) (i : Int) :
    coordS (ins l k 1) i = if (coordS l i).2 = 0 then (ins (coordL l i) k 0, 0) else ([], (coordS l i).2) := by
  unfold coordS
  by_cases hd : Dims l
  · rw [if_pos ((ins_dims l k h h1 h3).2 hd), if_pos hd, ins_prod]
    by_cases hi : 0 ≤ i ∧ i < prodL l
    · rw [if_pos hi, if_pos hi, if_pos rfl, ins_coord l k h]
    · rw [if_neg hi, if_neg hi, if_neg (by decide)]
  · rw [if_neg (fun c => hd ((ins_dims l k h h1 h3).1 c)), if_neg hd, if_neg (by decide)]
/-- Without what was put in. -/
theorem ins_out (l : List Int) (k : Nat) (u : Int) (h : k ≤ l.length) : (ins l k u).take k ++ (ins l k u).drop (k + 1) = l := by
  have e : (l.take k).length = k := by simp; omega
  have h1 : (ins l k u).take k = l.take k := by
    unfold ins
    rw [List.take_append_of_le_length (by omega), List.take_take, Nat.min_self]
  have h2 : (ins l k u).drop (k + 1) = l.drop k := by
    unfold ins
    rw [List.drop_append, e, List.drop_eq_nil_of_le (by omega), List.nil_append, show k + 1 - k = 1 from by omega, List.drop_succ_cons, List.drop_zero]
  rw [h1, h2, List.take_append_drop]
end Go.Proofs.Ytkofhmiakfmcaaa.P
