/- Of how many seeds a sum of powers is nothing, plainly. Under no condition beside those of each lemma. -/
import Derived.Test.YtkofhmiakfmcaaaPrime2
namespace Go.Proofs.Ytkofhmiakfmcaaa.P
set_option linter.unusedVariables false
/-- A sum of powers. -/
def ev (r : Int) : List Int → Int
  | [] => 0
  | a :: l => ev r l * r + a
/-- What is left of it without a seed. -/
def quo (r : Int) : List Int → List Int
  | [] => []
  | a :: l => ev r (a :: l) :: quo r l
theorem quo_length (r : Int) : ∀ l, (quo r l).length = l.length
  | [] => rfl
  | a :: l => by rw [quo, List.length_cons, List.length_cons, quo_length r l]
theorem ev_quo (r s : Int) : ∀ (a : Int) (l : List Int), ev r (a :: l) - ev s (a :: l) = (r - s) * ev r (quo s l)
  | a, [] => by simp [ev, quo]
  | a, b :: l => by
    have ih := ev_quo r s b l
    have e1 : ev r (a :: b :: l) = ev r (b :: l) * r + a := rfl
    have e2 : ev s (a :: b :: l) = ev s (b :: l) * s + a := rfl
    have e3 : ev r (quo s (b :: l)) = ev r (quo s l) * r + ev s (b :: l) := rfl
    rw [e1, e2, e3]
    generalize ev r (b :: l) = x at *
    generalize ev s (b :: l) = y at *
    generalize ev r (quo s l) = q at *
    have e4 : x = (r - s) * q + y := by omega
    rw [e4]
    grind
theorem quo_zero {p s : Int} : ∀ {l : List Int}, (∀ q ∈ quo s l, redS p q = 0) → (∀ a ∈ l, redS p a = 0) ∧ redS p (ev s l) = 0
  | [], _ => And.intro (fun _ h => by cases h) (redS_zero p)
  | a :: l, h => by
    have ih := quo_zero (l := l) fun q hq => h q (by rw [quo]; exact List.mem_cons_of_mem _ hq)
    have h0 : redS p (ev s (a :: l)) = 0 := h _ (by rw [quo]; exact List.mem_cons_self)
    refine ⟨fun b hb => ?_, h0⟩
    rcases List.mem_cons.1 hb with rfl | hb
    · have e : ev s (b :: l) = ev s l * s + b := rfl
      rw [e, ← redS_add_left, ← redS_mul_left, ih.2, Int.zero_mul, redS_zero, Int.zero_add] at h0
      exact h0
    · exact ih.1 b hb
/-- Fewer seeds than numbers. -/
theorem few_seeds {p : Int} (hk : knownS p = true) : ∀ (l R : List Int), R.Nodup → (∀ r ∈ R, 0 ≤ r ∧ r < p) → (∀ r ∈ R, redS p (ev r l) = 0) → ¬ (∀ a ∈ l, redS p a = 0) → R.length < l.length
  | [], R, _, _, _, hn => absurd (fun _ h => by cases h) hn
  | a :: l, [], _, _, _, _ => by simp
  | a :: l, s :: R, hnd, hb, hz, hn => by
    rw [List.nodup_cons] at hnd
    have hs0 := hz s List.mem_cons_self
    have hq : ¬ ∀ q ∈ quo s l, redS p q = 0 := fun hq => hn fun b hbm => by
      have h1 := quo_zero hq
      rcases List.mem_cons.1 hbm with rfl | hbm
      · have e : ev s (b :: l) = ev s l * s + b := rfl
        rw [e, ← redS_add_left, ← redS_mul_left, h1.2, Int.zero_mul, redS_zero, Int.zero_add] at hs0
        exact hs0
      · exact h1.1 b hbm
    have ih := few_seeds hk (quo s l) R hnd.2 (fun r hr => hb r (List.mem_cons_of_mem _ hr)) (fun r hr => ?_) hq
    · rw [quo_length] at ih
      simpa using ih
    · have h1 : redS p ((r - s) * ev r (quo s l)) = 0 := by
        rw [← ev_quo, ← redS_sub_left, ← redS_sub_right, hz r (List.mem_cons_of_mem _ hr), hs0, Int.sub_self, redS_zero]
      rcases redS_mul_zero hk h1 with h2 | h2
      · exfalso
        have h3 : redS p r = redS p s := (redS_eq_iff hk).2 (by
          have := (redS_eq_iff (a := r - s) (b := 0) hk).1 (by rw [h2, redS_zero])
          rwa [Int.sub_zero] at this)
        have b1 := hb r (List.mem_cons_of_mem _ hr)
        have b2 := hb s List.mem_cons_self
        rw [redS_small hk b1.1 b1.2, redS_small hk b2.1 b2.2] at h3
        subst h3
        exact hnd.1 hr
      · exact h2
  termination_by l => l.length
  decreasing_by rw [quo_length]; simp
end Go.Proofs.Ytkofhmiakfmcaaa.P
