/- The contracts of package fly's small methods: add, sub, mul. Conditions: words of their kinds; the slice reads as a list. -/
import Derived.Test.YtkofhmiakfmcaaaFlyQ
import Derived.Test.YtkofhmiakfmcaaaRef02
namespace Go.Proofs.Ytkofhmiakfmcaaa.P
open Go.RowKit
set_option linter.unusedVariables false
set_option linter.unusedSimpArgs false
abbrev wing (p : Int) (W : Option Addr) (n c : Nat) : Value := .agg #[.int .u64 p, .slice W n c]
theorem wsub_calls (p : Int) (W : Option Addr) (n c : Nat) (a b : Int) (w : World) (hp : U64 p) (ha : U64 a) (hb : U64 b) :
    Calls Try.prog 110 #[wing p W n c, .int .u64 a, .int .u64 b] w fun e w' => e = .returned (.int .u64 (subS p a b)) ∧ Below w.heap.size w w' := by
  have HP := Lib.hid hp
  have HA := Lib.hid ha
  have HB := Lib.hid hb
  clear hp ha hb
  unfold wing
  go_enter Try.func110, Try.ntmps110
  go_wp2_with (go_at_call 50; refine (sub_calls _ _ _ _ HP.out HA.out HB.out).mono ?_; rintro e w' ⟨rfl, h⟩)
  subst h
  go_ret
  exact ⟨rfl, (Below.refl _ _).alloc (Nat.le_refl _) _⟩
theorem wmul_calls (p : Int) (W : Option Addr) (n c : Nat) (a b : Int) (w : World) (hp : U64 p) (ha : U64 a) (hb : U64 b) :
    Calls Try.prog 111 #[wing p W n c, .int .u64 a, .int .u64 b] w fun e w' => e = .returned (.int .u64 (mulS p a b)) ∧ Below w.heap.size w w' := by
  have HP := Lib.hid hp
  have HA := Lib.hid ha
  have HB := Lib.hid hb
  clear hp ha hb
  unfold wing
  go_enter Try.func111, Try.ntmps111
  go_wp2_with (go_at_call 44; refine (mul_calls _ _ _ _ HP.out HA.out HB.out).mono ?_; rintro e w' ⟨rfl, ⟨q, h⟩⟩)
  subst h
  go_ret
  exact ⟨rfl, below_drewN ((Below.refl _ _).alloc (Nat.le_refl _) _) q⟩
theorem addL_take (p : Int) (l : List Int) (k : Nat) (h : k < l.length) : addL p (l.take (k + 1)) = addS p (addL p (l.take k)) l[k] := by
  rw [List.take_succ_eq_append_getElem h, addL, List.foldl_append]; rfl
theorem wadd_calls (p : Int) (W : Option Addr) (n c : Nat) (A : Option Addr) (ca : Nat) (l : List Int) (w : World) (hp : U64 p) (hr : Row w A (nums .u64 l)) (hl : l.length ≤ 9223372036854775807) (hw : ∀ a ∈ l, U64 a) :
    Calls Try.prog 109 #[wing p W n c, .slice A l.length ca] w fun e w' => e = .returned (.int .u64 (addL p l)) ∧ Below w.heap.size w w' := by
  have HP := Lib.hid hp
  have HW := Lib.hid hw
  have HB : Hid (Below w.heap.size w (w.alloc (.cells #[.int .u64 p, .slice W n c] 99))) := Lib.hid ((Below.refl _ _).alloc (Nat.le_refl _) _)
  cases l with
  | nil =>
    clear hr hw hp hl
    unfold wing
    go_enter Try.func109, Try.ntmps109
    go_wp2
    refine wp_loop_once ?_
    go_wp2
    go_ret
    exact ⟨rfl, HB.out⟩
  | cons d0 l0 =>
    obtain ⟨y, rfl⟩ := hr.some_of (by simp [nums])
    generalize d0 :: l0 = l at *
    have HR := Lib.hid (hr.below HB.out)
    have HC : Hid ((w.alloc (.cells #[.int .u64 p, .slice W n c] 99)).cell? ⟨w.heap.size, 0, none⟩ = some (.int .u64 p)) := Lib.hid ((row_new w [.int .u64 p, .slice W n c] 99).cell (i := 0) rfl)
    clear hr hw hp
    unfold wing
    go_enter Try.func109, Try.ntmps109
    go_wp2
    generalize (w.alloc (.cells #[.int .u64 p, .slice W n c] 99)) = w1 at *
    have hcp := HC.out
    go_loopw [5, 10] (fun s i wr => ∃ k : Nat, k ≤ l.length ∧ i = .int .i64 k ∧ s = .int .u64 (addL p (l.take k)) ∧ wr = w1) (fun _ i _ => l.length - (intOf i).toNat)
    case atStart => exact ⟨0, Nat.zero_le _, rfl, rfl, rfl⟩
    case round =>
      obtain ⟨k, hk, rfl, rfl, rfl⟩ := hrel
      by_cases hlt : k < l.length
      · have hc := HR.out.num hlt
        have HU : Hid (U64 l[k]) := Lib.hid (HW.out _ (List.getElem_mem hlt))
        have HT := Lib.hid (addL_take p l k hlt)
        have HS := Lib.hid (u64_addL p (l.take k))
        generalize l[k] = d at *
        generalize addL p (l.take k) = s at *
        go_wp2_with (go_at_call 49; refine (add_calls _ _ _ _ HP.out HS.out HU.out).mono ?_; rintro e w' ⟨rfl, rfl⟩)
        go_roundw
        case rel => exact ⟨k + 1, by omega, by go_num, by rw [HT.out], by trivial⟩
        case measure => simp [intOf]; omega
      · have hk2 : k = l.length := by omega
        subst hk2
        have HT : Hid (l.take l.length = l) := Lib.hid (List.take_length)
        go_wp2
        go_ret
        exact ⟨by rw [HT.out]; rfl, HB.out⟩
theorem wadd_n (p : Int) (W : Option Addr) (n c : Nat) (A : Option Addr) (m ca : Nat) (l : List Int) (w : World) (hm : l.length = m) (hp : U64 p) (hr : Row w A (nums .u64 l)) (hl : m ≤ 9223372036854775807) (hw : ∀ a ∈ l, U64 a) :
    Calls Try.prog 109 #[.agg #[.int .u64 p, .slice W n c], .slice A m ca] w fun e w' => e = .returned (.int .u64 (addL p l)) ∧ Below w.heap.size w w' := by
  subst hm
  exact wadd_calls p W n c A ca l w hp hr hl hw
end Go.Proofs.Ytkofhmiakfmcaaa.P
