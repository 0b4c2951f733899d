/- The contract of package field's In. Conditions: the words are words of 64 bits; the slice reads as a list. -/
import Derived.Test.YtkofhmiakfmcaaaField4
import Derived.Test.YtkofhmiakfmcaaaMem
import Derived.LoopTactic
namespace Go.Proofs.Ytkofhmiakfmcaaa.P
open Go.RowKit
set_option linter.unusedVariables false
set_option linter.unusedSimpArgs false
def inS (p : Int) (l : List Int) : Bool := l.all (fun a => decide (a < p)) && knownS p
theorem inS_false {p : Int} {l : List Int} {k : Nat} (hk : k < l.length) (h : p ≤ l[k]) : inS p l = false := by
  have : l.all (fun a => decide (a < p)) = false := by
    rw [List.all_eq_false]; exact ⟨l[k], List.getElem_mem hk, by simp; omega⟩
  rw [inS, this, Bool.false_and]
theorem inS_all {p : Int} {l : List Int} (h : ∀ j, (hj : j < l.length) → l[j] < p) : inS p l = knownS p := by
  have : l.all (fun a => decide (a < p)) = true := by
    rw [List.all_eq_true]; intro a ha
    obtain ⟨j, hj, rfl⟩ := List.getElem_of_mem ha
    simpa using h j hj
  rw [inS, this, Bool.true_and]
theorem in_some (p : Int) (x : Addr) (c : Nat) (l : List Int) (w : World) (hr : Row w (some x) (nums .u64 l)) (hl : l.length ≤ 9223372036854775807) :
    Calls Try.prog 53 #[.int .u64 p, .slice (some x) l.length c] w fun e w' => e = .returned (.bool (inS p l)) ∧ w' = w := by
  have HR := Lib.hid hr
  clear hr
  go_enter Try.func53, Try.ntmps53
  go_wp2
  go_loop [6, 9] (fun a i => ∃ k : Nat, k ≤ l.length ∧ i = .int .i64 k ∧ Hid (∀ j, (hj : j < l.length) → j < k → l[j] < p)) (fun _ i => l.length - (intOf i).toNat)
  case atStart => exact ⟨0, Nat.zero_le _, rfl, Lib.hid fun _ _ h => absurd h (Nat.not_lt_zero _)⟩
  case round =>
    obtain ⟨k, hk, rfl, H⟩ := hrel
    by_cases hlt : k < l.length
    · have hc := HR.out.num hlt
      by_cases hge : p ≤ l[k]
      · have HF := Lib.hid (inS_false hlt hge)
        go_wp2
        go_ret
        exact ⟨by rw [HF.out]; rfl, rfl⟩
      · go_wp2
        go_round
        case rel => exact ⟨k + 1, by omega, by go_num, Lib.hid fun j hj hjk => by
          by_cases e : j = k
          · subst e; omega
          · exact H.out j hj (by omega)⟩
        case measure => simp [intOf]; omega
    · have HF := Lib.hid (inS_all (p := p) (l := l) fun j hj => H.out j hj (by omega))
      go_wp2_with (go_at_call 43; refine (known_calls _ _).mono ?_; rintro e w' ⟨rfl, rfl⟩)
      go_ret
      exact ⟨by rw [HF.out]; rfl, rfl⟩
theorem in_nil (p : Int) (A : Option Addr) (c : Nat) (w : World) :
    Calls Try.prog 53 #[.int .u64 p, .slice A 0 c] w fun e w' => e = .returned (.bool (inS p [])) ∧ w' = w := by
  have HF : Hid (inS p [] = knownS p) := Lib.hid (inS_all fun j hj => absurd hj (Nat.not_lt_zero _))
  go_enter Try.func53, Try.ntmps53
  go_wp2
  refine wp_loop_once ?_
  go_wp2_with (go_at_call 43; refine (known_calls _ _).mono ?_; rintro e w' ⟨rfl, rfl⟩)
  go_ret
  exact ⟨by rw [HF.out]; rfl, rfl⟩
theorem in_calls (p : Int) (A : Option Addr) (c : Nat) (l : List Int) (w : World) (hr : Row w A (nums .u64 l)) (hl : l.length ≤ 9223372036854775807) :
    Calls Try.prog 53 #[.int .u64 p, .slice A l.length c] w fun e w' => e = .returned (.bool (inS p l)) ∧ w' = w := by
  cases l with
  | nil => exact in_nil p A c w
  | cons a l =>
    obtain ⟨x, rfl⟩ := hr.some_of (by simp [nums])
    exact in_some p x c _ w hr hl
end Go.Proofs.Ytkofhmiakfmcaaa.P
