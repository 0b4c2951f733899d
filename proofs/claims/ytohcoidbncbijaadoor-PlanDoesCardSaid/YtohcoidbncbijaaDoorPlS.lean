
/- The contracts of brackenref17.SameSteps and Same, of two that are the same. Conditions: slices read as lists. -/
import Derived.Test.YtohcoidbncbijaaDoorPlF
namespace Go.Proofs.YtohcoidbncbijaaDoor.P
open Go.RowKit
set_option linter.unusedVariables false
set_option linter.unusedSimpArgs false
set_option maxRecDepth 100000 in
theorem sameSteps_eq (A B : Option Addr) (ca cb n : Nat) (l : List Stp) (w : World) (hn : l.length = n) (hr : Row w A (spR l)) (hrm : Row w B (spR l)) (hl : n ≤ 9223372036854775807) :
    Calls Tryd.prog 35 #[.slice A n ca, .slice B n cb] w fun e w' => e = .returned (.bool true) ∧ Drawn0 w w' := by
  have HR := Lib.hid hr
  have HRM := Lib.hid hrm
  have HN := Lib.hid hn
  have f0 : ((n : Int) != (n : Int)) = false := by simp
  clear hr hrm hn
  go_enter Tryd.func35, Tryd.ntmps35
  go_wp2
  go_loopw [13] (fun i wr => ∃ k : Nat, k ≤ n ∧ i = .int .i64 k ∧ Drawn0 w wr) (fun i _ => n - (intOf i).toNat)
  case atStart => exact ⟨0, Nat.zero_le _, rfl, ⟨0, rfl⟩⟩
  case round =>
    obtain ⟨k, hk, rfl, ⟨q, rfl⟩⟩ := hrel
    by_cases hlt : k < n
    · have hka : k < l.length := by have := HN.out; omega
      obtain ⟨x, rfl⟩ := HR.out.some_of (by intro h0; have h1 := spR_length l; rw [h0] at h1; simp at h1; omega)
      obtain ⟨y, rfl⟩ := HRM.out.some_of (by intro h0; have h1 := spR_length l; rw [h0] at h1; simp at h1; omega)
      obtain ⟨hc0, hc1, hc2, hc3, hc4⟩ := sp_cells HR.out hka
      obtain ⟨hd0, hd1, hd2, hd3, hd4⟩ := sp_cells HRM.out hka
      generalize l[k] = u at *
      obtain ⟨u0, u1, u2, u3, u4⟩ := u
      dsimp only at hc0 hc1 hc2 hc3 hc4 hd0 hd1 hd2 hd3 hd4
      go_wp2
      go_quiet (fail)
      go_wp2
      go_roundw
      case rel => exact ⟨k + 1, by omega, by go_num, ⟨_, rfl⟩⟩
      case measure => simp [intOf]; omega
    · have hke : k = n := by omega
      clear hke
      go_wp2
      go_ret
      exact ⟨rfl, ⟨_, rfl⟩⟩
set_option maxRecDepth 100000 in
theorem samePlan_eq (a b c : Int) (A B : Option Addr) (ca cb n : Nat) (l : List Stp) (w : World) (hn : l.length = n) (hr : Row w A (spR l)) (hrm : Row w B (spR l)) (hl : n ≤ 9223372036854775807) :
    Calls Tryd.prog 36 #[.agg #[.int .i64 a, .int .i64 b, .int .i64 c, .slice A n ca], .agg #[.int .i64 a, .int .i64 b, .int .i64 c, .slice B n cb]] w fun e w' => e = .returned (.bool true) ∧ Below w.heap.size w w' := by
  have hb9 : Below w.heap.size w ((w.alloc (.cells #[.int .i64 a, .int .i64 b, .int .i64 c, .slice A n ca] 54)).alloc (.cells #[.int .i64 a, .int .i64 b, .int .i64 c, .slice B n cb] 54)) := ((Below.refl _ _).alloc (Nat.le_refl _) _).alloc (by simp) _
  have HR := Lib.hid (hr.below hb9)
  have HRM := Lib.hid (hrm.below hb9)
  have HN := Lib.hid hn
  have HB9 := Lib.hid hb9
  clear hr hrm hn hb9
  go_enter Tryd.func36, Tryd.ntmps36
  go_wp2_with fail
  refine (sameSteps_eq A B ca cb n l _ HN.out HR.out HRM.out hl).mono ?_
  rintro e w2 ⟨rfl, ⟨q, rfl⟩⟩
  go_wp2
  go_ret
  exact ⟨by first | rfl | (simp; done), below_drewN HB9.out _⟩
end Go.Proofs.YtohcoidbncbijaaDoor.P
