/- The contract of package power's All. Conditions: words of their kinds; the slice reads as a list. -/
import Derived.Test.YtkofhmiakfmcaaaRound2
import Derived.Test.YtkofhmiakfmcaaaAllP
import Derived.Test.YtkofhmiakfmcaaaEval0
namespace Go.Proofs.Ytkofhmiakfmcaaa.P
open Go.RowKit Go.Shelf
set_option linter.unusedVariables false
set_option linter.unusedSimpArgs false
attribute [local go_sem] Oper.semAt_some
/-- The row, and what is carried back, behind some rounds. -/
def stepA (p : Int) (s : List Int × Int) (x : Nat × Int) : List Int × Int := (s.1.set x.1 (mulS p (s.1.getD x.1 0) s.2), mulS p s.2 x.2)
def foldA (p : Int) (l : List Int) (pre : List (Nat × Int)) : List Int × Int := pre.foldl (stepA p) (fillL (preS p l) l.length l.length, invP p (preS p l l.length))
theorem foldA_snoc (p : Int) (l : List Int) (pre : List (Nat × Int)) (x : Nat × Int) : foldA p l (pre ++ [x]) = stepA p (foldA p l pre) x := by simp [foldA]
theorem foldA_ind (p : Int) (l : List Int) (R : List Int × Int → Prop) (h0 : R (fillL (preS p l) l.length l.length, invP p (preS p l l.length))) (hs : ∀ s x, R s → R (stepA p s x)) (pre : List (Nat × Int)) : R (foldA p l pre) := by
  rcases List.eq_nil_or_concat pre with h | ⟨q, x, h⟩
  · subst h; exact h0
  · rw [h, List.concat_eq_append, foldA_snoc]
    exact hs _ _ (foldA_ind p l R h0 hs q)
  termination_by pre.length
  decreasing_by subst h; simp
theorem foldA_len (p : Int) (l : List Int) (pre : List (Nat × Int)) : (foldA p l pre).1.length = l.length :=
  foldA_ind p l (fun s => s.1.length = l.length) (fillL_length _ _ _) (fun s x h => by simp only [stepA, List.length_set]; exact h) pre
theorem foldA_u64 (p : Int) (l : List Int) (pre : List (Nat × Int)) : U64 (foldA p l pre).2 :=
  foldA_ind p l (fun s => U64 s.2) (u64_invP _ _) (fun s x h => u64_mulS _ _ _) pre
theorem foldA_u64s (p : Int) (l : List Int) (pre : List (Nat × Int)) : ∀ a ∈ (foldA p l pre).1, U64 a :=
  foldA_ind p l (fun s => ∀ a ∈ s.1, U64 a) (by
    intro a ha
    simp only [fillL, List.mem_map, List.mem_range] at ha
    obtain ⟨i, hi, rfl⟩ := ha
    rw [if_pos hi]; exact u64_preS _ _ _) (fun s x h a ha => by
    rcases List.mem_or_eq_of_mem_set ha with h1 | h1
    · exact h a h1
    · subst h1; exact u64_mulS _ _ _) pre
theorem foldA_upto {p : Int} (hk : knownS p = true) {l : List Int} (hz : ∀ a ∈ l, redS p a ≠ 0) : ∀ k, k ≤ l.length →
    foldA p l (upto (backAt l) k) = (mixL (preS p l) (fun j => invP p (l.getD j 0)) l.length (l.length - k), invP p (preS p l (l.length - k)))
  | 0, _ => by
    show (fillL (preS p l) l.length l.length, _) = _
    rw [fillL_all, Nat.sub_zero, mixL_full]
  | k + 1, h => by
    obtain ⟨j, hj⟩ : ∃ j, l.length = k + 1 + j := ⟨l.length - (k + 1), by omega⟩
    have hjl : j < l.length := by omega
    rw [upto_succ, foldA_snoc, foldA_upto hk hz k (by omega)]
    rw [show l.length - k = j + 1 by omega, show l.length - (k + 1) = j by omega]
    have hb : backAt l k = (j, l.getD j 0) := by unfold backAt; rw [show l.length - 1 - k = j by omega]
    have h1 := preS_ahead hk (l := l) (k := j) (fun i hi => all_ne hz i (by omega))
    have h2 := preS_back hk (l := l) (k := j) (all_ne hz j hjl)
    rw [hb]
    unfold stepA
    dsimp only
    have h3 : (mixL (preS p l) (fun j => invP p (l.getD j 0)) l.length (j + 1)).getD j 0 = preS p l j := by
      rw [List.getD_eq_getElem?_getD, List.getElem?_eq_getElem (by rw [mixL_length]; exact hjl), mixL_at _ _ _ hjl, if_neg (by omega)]; rfl
    rw [h3, h1, h2]
    have h4 := mixL_set (preS p l) (fun j => invP p (l.getD j 0)) hjl
    rw [h4]
theorem foldA_all {p : Int} (hk : knownS p = true) {l : List Int} (hz : ∀ a ∈ l, redS p a ≠ 0) : (foldA p l (upto (backAt l) l.length)).1 = l.map fun a => powS p a (p - 2).toNat := by
  rw [foldA_upto hk hz _ (Nat.le_refl _), Nat.sub_self]
  exact mix_end p l _
end Go.Proofs.Ytkofhmiakfmcaaa.P
