/- The law FieldDoes, walked: any two numbers, counted by any prime, and whether any are numbers of it. Conditions: words of 64 bits; the slice reads as a list. -/
import Derived.Test.YtkofhmiakfmcaaaRef01b
import Derived.Test.YtkofhmiakfmcaaaLawRing
namespace Go.Proofs.Ytkofhmiakfmcaaa.P
open Go.RowKit
set_option linter.unusedVariables false
set_option linter.unusedSimpArgs false
theorem fieldDoes_walk (p a b : Int) (A : Option Addr) (c : Nat) (l : List Int) (w : World) (hp : u64 p) (ha : u64 a) (hb : u64 b) (hr : Row w A (nums .u64 l)) (hy : l.length * 8 ≤ 140737488351232) (hw : ∀ x ∈ l, (Lit.int .u64 x).wf = true) :
    Calls Try.prog 11 #[.int .u64 p, .int .u64 a, .int .u64 b, .slice A l.length c] w fun e w' => e = .returned (.bool true) ∧ Below w.heap.size w w' := by
  have HA := Lib.hid ha
  have HB := Lib.hid hb
  have HP := Lib.hid hp
  have HR := Lib.hid hr
  clear ha hb hp hr hw
  go_enter Try.func11, Try.ntmps11
  go_wp2_with (first
    | (go_at_call 42; refine (live01_calls _).mono ?_; rintro e w' ⟨rfl, rfl⟩)
    | (go_at_call 43; refine (known_calls _ _).mono ?_; rintro e w' ⟨rfl, rfl⟩)
    | (go_at_call 52; refine (r01_known _ _).mono ?_; rintro e w' ⟨rfl, rfl⟩)
    | (go_at_call 53; refine (in_calls _ _ _ _ _ HR.out (by omega)).mono ?_; rintro e w' ⟨rfl, rfl⟩)
    | (go_at_call 54; refine (r01_in _ _ _ _ _ HR.out (by omega)).mono ?_; rintro e w' ⟨rfl, rfl⟩)
    | (go_at_call 49; refine (add_calls _ _ _ _ HP.out HA.out HB.out).mono ?_; rintro e w' ⟨rfl, rfl⟩)
    | (go_at_call 55; refine (r01_add _ _ _ _ HP.out HA.out HB.out).mono ?_; rintro e w' ⟨rfl, ⟨n, rfl⟩⟩)
    | (go_at_call 50; refine (sub_calls _ _ _ _ HP.out HA.out HB.out).mono ?_; rintro e w' ⟨rfl, rfl⟩)
    | (go_at_call 56; refine (r01_sub _ _ _ _ HP.out HA.out HB.out).mono ?_; rintro e w' ⟨rfl, rfl⟩)
    | (go_at_call 44; refine (mul_calls _ _ _ _ HP.out HA.out HB.out).mono ?_; rintro e w' ⟨rfl, ⟨n2, rfl⟩⟩)
    | (go_at_call 57; refine (r01_mul _ _ _ _ HP.out HA.out HB.out).mono ?_; rintro e w' ⟨rfl, rfl⟩)
    | (go_at_call 51; refine (neg_calls _ _ _ HP.out HA.out).mono ?_; rintro e w' ⟨rfl, rfl⟩)
    | (go_at_call 58; refine (r01_neg _ _ _ HP.out HA.out).mono ?_; rintro e w' ⟨rfl, rfl⟩)
    | (go_at_call 45; refine (reduce_calls _ _ _ HP.out HA.out).mono ?_; rintro e w' ⟨rfl, rfl⟩)
    | (go_at_call 59; refine (r01_reduce _ _ _ HP.out HA.out).mono ?_; rintro e w' ⟨rfl, rfl⟩))
  all_goals
    go_ret
    exact ⟨rfl, by repeat (first | exact Below.refl _ _ | refine below_drewN ?_ _)⟩
end Go.Proofs.Ytkofhmiakfmcaaa.P
