/- Transforms of few words, done at once, plainly. Under no condition beside those of each lemma. -/
import Derived.Test.YtkofhmiakfmcaaaFlyP
namespace Go.Proofs.Ytkofhmiakfmcaaa.P
set_option linter.unusedVariables false
set_option linter.unusedSimpArgs false
theorem red_off {p K A B : Int} (c : Int) (hK : redS p K = 0) (h : A = B + c * K) : redS p A = redS p B := by
  rw [h, ← redS_add_right, ← redS_mul_right, hK, Int.mul_zero, redS_zero, Int.add_zero]
theorem Turn.mod {p a b : Int} {n : Nat} (h : Turn p a b n) (k : Nat) : redS p (a ^ k) = redS p (a ^ (k % n)) := by
  have e : k = n * (k / n) + k % n := (Nat.div_add_mod k n).symm
  rw [e, Int.pow_add, ← redS_mul_left, h.pow_mul, Int.one_mul]
  congr 2
  rw [Nat.mul_add_mod, Nat.mod_mod]
theorem Turn.nought {p a b : Int} {n : Nat} (h : Turn p a b n) (h2 : 2 ≤ n) : redS p (S n (fun u => a ^ u)) = 0 := by
  refine red_geo h.known ?_ ?_
  · have := h.pow_mul 1
    rwa [Nat.mul_one] at this
  · intro h1
    have h3 := (h.ia 1).1 (by unfold powS; rw [Int.pow_succ, Int.pow_zero, Int.one_mul]; exact h1)
    have := Nat.le_of_dvd (by omega) h3
    omega
theorem Turn.half {p a b : Int} (h : Turn p a b 4) : redS p (a ^ 2 + 1) = 0 := by
  have h1 : redS p ((a ^ 2 - 1) * (a ^ 2 + 1)) = 0 := by
    have e : (a ^ 2 - 1) * (a ^ 2 + 1) = a ^ (4 * 1) - 1 := by grind
    rw [e, ← redS_sub_left, h.pow_mul 1, Int.sub_self, redS_zero]
  rcases redS_mul_zero h.known h1 with h2 | h2
  · exfalso
    have h3 : redS p ((a ^ 2 - 1) + 1) = redS p (0 + 1) := red_add (by rw [h2, redS_zero]) rfl
    rw [show a ^ 2 - 1 + 1 = a ^ 2 from by omega, Int.zero_add, one_red h.known] at h3
    have h4 := (h.ia 2).1 h3
    omega
  · exact h2
/-- A sum of words, counted by a prime. -/
def addL (p : Int) (l : List Int) : Int := l.foldl (addS p) 0
theorem u64_addL (p : Int) (l : List Int) : U64 (addL p l) := by
  rcases List.eq_nil_or_concat l with h | ⟨q, x, h⟩
  · subst h; exact (show U64 0 by decide)
  · rw [h, addL, List.concat_eq_append, List.foldl_append]; exact u64_addS _ _ _
def two (p x0 x1 : Int) : List Int := [addL p [x0, x1], subS p x0 x1]
def three (p w1 x0 x1 x2 : Int) : List Int :=
  [addL p [x0, x1, x2], addL p [subS p x0 x2, mulS p (subS p x1 x2) w1], subS p (subS p x0 x1) (mulS p (subS p x1 x2) w1)]
def four (p w1 x0 x1 x2 x3 : Int) : List Int :=
  [addL p [addL p [x0, x2], addL p [x1, x3]], addL p [subS p x0 x2, mulS p (subS p x1 x3) w1], subS p (addL p [x0, x2]) (addL p [x1, x3]), subS p (subS p x0 x2) (mulS p (subS p x1 x3) w1)]
theorem two_is {p a b x0 x1 : Int} (h : Turn p a b 2) : two p x0 x1 = doL p a [x0, x1] := by
  have hK := h.nought (by omega)
  simp only [S, Int.zero_add, Int.pow_zero] at hK
  simp only [two, doL, doF, addL, List.foldl, List.length_cons, List.length_nil, Nat.zero_add, Nat.reduceAdd, show List.range 2 = [0, 1] from rfl, List.map, S, List.getD_cons_zero, List.getD_cons_succ, addS, subS, mulS, redS_add_left, redS_sub_left, Int.zero_add, Nat.zero_mul, Nat.mul_zero, Nat.one_mul, Int.pow_zero, Int.mul_one]
  refine List.cons_eq_cons.2 ⟨rfl, List.cons_eq_cons.2 ⟨?_, rfl⟩⟩
  exact red_off (-x1) hK (by grind)
theorem three_is {p a b x0 x1 x2 : Int} (h : Turn p a b 3) : three p a x0 x1 x2 = doL p a [x0, x1, x2] := by
  have hK := h.nought (by omega)
  simp only [S, Int.zero_add, Int.pow_zero] at hK
  simp only [three, doL, doF, addL, List.foldl, List.length_cons, List.length_nil, Nat.zero_add, Nat.reduceAdd, show List.range 3 = [0, 1, 2] from rfl, List.map, S, List.getD_cons_zero, List.getD_cons_succ, addS, subS, mulS, redS_add_left, redS_add_right, redS_sub_left, redS_sub_right, redS_mul_left, redS_mul_right, Int.zero_add, Nat.zero_mul, Nat.mul_zero, Nat.one_mul, Nat.mul_one, Nat.reduceMul, Int.pow_zero, Int.mul_one]
  refine List.cons_eq_cons.2 ⟨rfl, List.cons_eq_cons.2 ⟨?_, List.cons_eq_cons.2 ⟨?_, rfl⟩⟩⟩
  · exact red_off (-x2) hK (by grind)
  · exact red_off (-x1 - x2 * (a ^ 2 - a)) hK (by grind)
theorem four_is {p a b x0 x1 x2 x3 : Int} (h : Turn p a b 4) : four p a x0 x1 x2 x3 = doL p a [x0, x1, x2, x3] := by
  have hK := h.half
  simp only [four, doL, doF, addL, List.foldl, List.length_cons, List.length_nil, Nat.zero_add, Nat.reduceAdd, show List.range 4 = [0, 1, 2, 3] from rfl, List.map, S, List.getD_cons_zero, List.getD_cons_succ, addS, subS, mulS, redS_add_left, redS_add_right, redS_sub_left, redS_sub_right, redS_mul_left, redS_mul_right, Int.zero_add, Nat.zero_mul, Nat.mul_zero, Nat.one_mul, Nat.mul_one, Nat.reduceMul, Int.pow_zero, Int.mul_one]
  refine List.cons_eq_cons.2 ⟨?_, List.cons_eq_cons.2 ⟨?_, List.cons_eq_cons.2 ⟨?_, List.cons_eq_cons.2 ⟨?_, rfl⟩⟩⟩⟩
  · congr 1; grind
  · exact red_off (-x2 - x3 * a) hK (by grind)
  · exact red_off (-x1 - x2 * (a ^ 2 - 1) - x3 * (a ^ 4 - a ^ 2 + 1)) hK (by grind)
  · exact red_off (-x1 * a - x2 * (a ^ 4 - a ^ 2 + 1) - x3 * (a ^ 7 - a ^ 5 + a ^ 3 - a)) hK (by grind)
/-- What five has summed at t of the word u. -/
def fiveF (p a : Int) (x : List Int) (u t : Nat) : Int := redS p (S t (fun i => x.getD i 0 * a ^ (i * u)))
theorem fiveF_all (p a : Int) (x : List Int) (u : Nat) : fiveF p a x u x.length = doF p a x u := rfl
theorem fiveF_step {p a b : Int} {n : Nat} (h : Turn p a b n) (x : List Int) (u t : Nat) : addS p (fiveF p a x u t) (mulS p (x.getD t 0) (powS p a (t * u % n))) = fiveF p a x u (t + 1) := by
  unfold fiveF addS mulS powS
  rw [redS_add_left, redS_add_right, S]
  refine red_add rfl ?_
  rw [redS_mul_right]
  exact red_mul rfl (h.mod _).symm
end Go.Proofs.Ytkofhmiakfmcaaa.P
