/- Sums of numbers times powers, plainly. Under no condition beside those of each lemma. -/
import Derived.Test.YtkofhmiakfmcaaaFlyP
import Derived.Test.YtkofhmiakfmcaaaRootsP
namespace Go.Proofs.Ytkofhmiakfmcaaa.P
set_option linter.unusedVariables false
def evalG (p r : Int) (l : List Int) : Int := l.foldr (fun a s => addS p (mulS p s r) a) 0
theorem evalG_ev (p r : Int) : ∀ l, evalG p r l = redS p (ev r l)
  | [] => (redS_zero p).symm
  | a :: l => by
    have e : evalG p r (a :: l) = addS p (mulS p (evalG p r l) r) a := rfl
    rw [e, evalG_ev p r l, ev]
    unfold addS mulS
    rw [redS_mul_left, redS_add_left]
theorem ev_S (r : Int) : ∀ l, ev r l = S l.length (fun i => l.getD i 0 * r ^ i)
  | [] => rfl
  | a :: l => by
    rw [ev, ev_S r l, List.length_cons, S_head]
    simp only [List.getD_cons_zero, List.getD_cons_succ, Int.pow_zero, Int.mul_one]
    rw [← S_mulr, Int.add_comm]
    congr 1
    exact S_congr fun i _ => by rw [Int.pow_succ, Int.mul_assoc]
theorem evalG_S (p r : Int) (l : List Int) : evalG p r l = redS p (S l.length (fun i => l.getD i 0 * r ^ i)) := by rw [evalG_ev, ev_S]
theorem u64_evalG (p r : Int) (l : List Int) : U64 (evalG p r l) := by rw [evalG_ev]; exact u64_redS _ _
def evalS (p r : Int) (l : List Int) : Int × Int := if knownS p then (if l.length ≤ 65536 then (evalG p r l, 0) else (0, 1)) else (0, 2)
theorem geoS_S (p x : Int) : ∀ n, geoS p x n = redS p (S n (fun i => x ^ i))
  | 0 => (redS_zero p).symm
  | n + 1 => by
    rw [geoS, geoS_S p x n, S]
    unfold addS powS
    rw [redS_add_left, redS_add_right]
/-- Sums of numbers, and numbers times one. -/
theorem evalG_sums (p r c : Int) (l m z : List Int) (hm : m.length = l.length) (hz : z.length = l.length) (h : ∀ t, t < l.length → z.getD t 0 = addS p (mulS p c (l.getD t 0)) (m.getD t 0)) :
    evalG p r z = addS p (mulS p c (evalG p r l)) (evalG p r m) := by
  rw [evalG_S, evalG_S, evalG_S, hm, hz]
  unfold addS mulS at *
  rw [redS_add_left, redS_add_right, ← redS_add_left, redS_mul_right, redS_add_left, ← S_mul, ← S_add]
  refine red_S fun t ht => ?_
  rw [h t ht, redS_add_left, redS_mul_left]
  congr 1
  rw [Int.add_mul, Int.mul_assoc]
/-- Of powers of a number it is a sum of powers. -/
theorem evalG_powers (p r c : Int) (n : Nat) : evalG p r ((List.range n).map (powS p c)) = geoS p (mulS p c r) n := by
  rw [evalG_S, geoS_S]
  have hl : ((List.range n).map (powS p c)).length = n := by simp
  rw [hl]
  refine red_S fun t ht => ?_
  have e : ((List.range n).map (powS p c)).getD t 0 = powS p c t := by rw [List.getD_eq_getElem?_getD]; simp [ht]
  rw [e]
  unfold powS mulS
  rw [redS_mul_left, red_pow (redS_redS p (c * r)), Int.mul_pow]
theorem evalG_ones (p r : Int) (n : Nat) : evalG p r (List.replicate n 1) = geoS p r n := by
  rw [evalG_S, geoS_S, List.length_replicate]
  refine red_S fun t ht => ?_
  have e : (List.replicate n (1 : Int)).getD t 0 = 1 := by rw [List.getD_eq_getElem?_getD]; simp [ht]
  rw [e, Int.one_mul]
/-- The sum of the first ones. -/
def evF (p r : Int) (l : List Int) (k : Nat) : Int := redS p (S k (fun i => l.getD i 0 * r ^ i))
theorem evF_step (p r : Int) (l : List Int) (k : Nat) : addS p (evF p r l k) (mulS p (l.getD k 0) (powS p r k)) = evF p r l (k + 1) := by
  unfold evF addS mulS powS
  rw [redS_add_left, redS_add_right, S]
  exact red_add rfl (redS_mul_right _ _ _)
theorem evF_all (p r : Int) (l : List Int) : evF p r l l.length = evalG p r l := (evalG_S p r l).symm
end Go.Proofs.Ytkofhmiakfmcaaa.P
