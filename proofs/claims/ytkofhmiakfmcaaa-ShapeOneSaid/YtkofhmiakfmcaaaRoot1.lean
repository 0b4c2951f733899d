/- The contracts of package root's ready and Root. Conditions: words of their kinds. -/
import Derived.Test.YtkofhmiakfmcaaaRoot0
import Derived.Test.YtkofhmiakfmcaaaQuietB
namespace Go.Proofs.Ytkofhmiakfmcaaa.P
open Go.RowKit
set_option linter.unusedVariables false
set_option linter.unusedSimpArgs false
def readyS (p n : Int) : Int := if knownS p then (if 1 ≤ n ∧ n ≤ 8192 then 0 else 1) else 2
theorem ready_calls (p n : Int) (w : World) :
    Calls Try.prog 98 #[.int .u64 p, .int .i64 n] w fun e w' => e = .returned (.int .i64 (readyS p n)) ∧ w' = w := by
  by_cases hk : knownS p = true
  · by_cases h0 : n < 1
    · have HF : Hid (readyS p n = 1) := Lib.hid (by rw [readyS, if_pos hk, if_neg (by omega)])
      have f0 : decide (n < 1) = true := by simpa using h0
      go_enter Try.func98, Try.ntmps98
      go_wp2_with (go_at_call 43; refine (known_calls _ _).mono ?_; rintro e w' ⟨rfl, rfl⟩)
      go_ret
      exact ⟨by rw [HF.out]; rfl, rfl⟩
    · have f0 : decide (n < 1) = false := by simpa using h0
      by_cases h1 : 8192 < n
      · have HF : Hid (readyS p n = 1) := Lib.hid (by rw [readyS, if_pos hk, if_neg (by omega)])
        have f1 : decide (8192 < n) = true := by simpa using h1
        go_enter Try.func98, Try.ntmps98
        go_wp2_with (go_at_call 43; refine (known_calls _ _).mono ?_; rintro e w' ⟨rfl, rfl⟩)
        go_ret
        exact ⟨by rw [HF.out]; rfl, rfl⟩
      · have HF : Hid (readyS p n = 0) := Lib.hid (by rw [readyS, if_pos hk, if_pos (by omega)])
        have f1 : decide (8192 < n) = false := by simpa using h1
        go_enter Try.func98, Try.ntmps98
        go_wp2_with (go_at_call 43; refine (known_calls _ _).mono ?_; rintro e w' ⟨rfl, rfl⟩)
        go_ret
        exact ⟨by rw [HF.out]; rfl, rfl⟩
  · have HF : Hid (readyS p n = 2) := Lib.hid (by rw [readyS, if_neg hk])
    have hk2 : knownS p = false := by simpa using hk
    clear hk
    go_enter Try.func98, Try.ntmps98
    go_wp2_with (go_at_call 43; refine (known_calls _ _).mono ?_; rintro e w' ⟨rfl, rfl⟩)
    go_ret
    exact ⟨by rw [HF.out]; rfl, rfl⟩
def rootS (p n : Int) : Int × Int :=
  if readyS p n = 0 then (if (p - 1) % n = 0 then (powS p (genS p) ((p - 1) / n).toNat, 0) else (0, 5)) else (0, readyS p n)
theorem root_calls (p n : Int) (w : World) (hp : U64 p) :
    Calls Try.prog 62 #[.int .u64 p, .int .i64 n] w fun e w' => e = .returned (.tuple #[.int .u64 (rootS p n).1, .int .i64 (rootS p n).2]) ∧ Below w.heap.size w w' := by
  have HP := Lib.hid hp
  by_cases hr : readyS p n = 0
  · have hk : knownS p = true := by
      by_cases h : knownS p = true
      · exact h
      · rw [readyS, if_neg h] at hr; omega
    have hn : 1 ≤ n ∧ n ≤ 8192 := by
      rw [readyS, if_pos hk] at hr
      by_cases h : 1 ≤ n ∧ n ≤ 8192
      · exact h
      · rw [if_neg h] at hr; omega
    obtain ⟨n0, n1⟩ := hn
    obtain ⟨p0, p1⟩ := known_pos hk
    have HR := Lib.hid hr
    clear hr hk hp
    by_cases hz : (p - 1) % n = 0
    · have f0 : decide (0 < (p - 1) % n) = false := by rw [hz]; rfl
      have HF : Hid (rootS p n = (powS p (genS p) ((p - 1) / n).toNat, 0)) := Lib.hid (by rw [rootS, if_pos HR.out, if_pos hz])
      have hq0 : 0 ≤ (p - 1) / n := Int.ediv_nonneg (by omega) (by omega)
      have hq1 : (p - 1) / n ≤ p - 1 := Int.ediv_le_self _ (by omega)
      have HU : Hid (U64 ((p - 1) / n)) := Lib.hid ⟨hq0, by omega⟩
      have HGU : Hid (U64 (genS p)) := Lib.hid (by unfold genS; split <;> (try split) <;> (try split) <;> decide)
      clear hz
      go_enter Try.func62, Try.ntmps62
      go_wp2_with (go_at_call 98; refine (ready_calls _ _ _).mono ?_; rw [HR.out]; rintro e w' ⟨rfl, rfl⟩)
      have hz0 : ¬ n = 0 := by omega
      have hw1 : IntKind.u64.wrap (p - 1) = p - 1 := by rw [wrap_u64]; omega
      have hw2 : IntKind.u64.wrap n = n := by rw [wrap_u64]; omega
      have hw3 : (p - 1).tdiv n = (p - 1) / n := Int.tdiv_eq_ediv_of_nonneg (by omega)
      have hw4 : IntKind.u64.wrap ((p - 1) / n) = (p - 1) / n := by rw [wrap_u64]; omega
      refine wp_region_below (by kernel_rfl) (by kernel_rfl) ?_
      repeat (first
        | (refine wpQuiet_step (fun K hK => ?_); go_simp; refine ⟨_, fun _ _ => rfl, hK _ ?_⟩; clear hK K)
        | (refine wpQuiet_step (fun K hK => ?_); go_simp; apply Exists.intro; refine ⟨fun W hW => ?qc, hK _ ?_⟩
           (case qc => first
            | (go_at_call 76; exact qb_make (gen_calls _ _) hW)
            | (go_at_call 47; exact qb_drawn (pow_calls _ _ _ _ HP.out HGU.out HU.out) hW))
           clear hK K))
      refine wpQuiet_nil ?_
      intro w2 hw2
      go_wp2
      go_ret2
      exact ⟨by rw [HF.out]; rfl, hw2⟩
    · have f0 : decide (0 < (p - 1) % n) = true := by
        have := Int.emod_nonneg (p - 1) (b := n) (by omega)
        simp; omega
      have HF : Hid (rootS p n = (0, 5)) := Lib.hid (by rw [rootS, if_pos HR.out, if_neg hz])
      clear hz
      go_enter Try.func62, Try.ntmps62
      go_wp2_with (go_at_call 98; refine (ready_calls _ _ _).mono ?_; rw [HR.out]; rintro e w' ⟨rfl, rfl⟩)
      go_ret2
      exact ⟨by rw [HF.out]; rfl, Below.refl _ _⟩
  · have HF : Hid (rootS p n = (0, readyS p n)) := Lib.hid (by rw [rootS, if_neg hr])
    have f0 : (readyS p n != 0) = true := by simpa using hr
    clear hr
    go_enter Try.func62, Try.ntmps62
    go_wp2_with (go_at_call 98; refine (ready_calls _ _ _).mono ?_; rintro e w' ⟨rfl, rfl⟩)
    go_ret2
    exact ⟨by rw [HF.out]; rfl, Below.refl _ _⟩
end Go.Proofs.Ytkofhmiakfmcaaa.P
