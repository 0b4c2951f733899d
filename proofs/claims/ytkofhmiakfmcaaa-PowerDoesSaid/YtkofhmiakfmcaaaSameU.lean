/- The contract of brackenref01's Same. Conditions: slices read as lists. -/
import Derived.Test.YtkofhmiakfmcaaaPow2
import Derived.BigQuiet
import Derived.Deep.QuietTactic
namespace Go.Proofs.Ytkofhmiakfmcaaa.P
open Go.RowKit
set_option linter.unusedVariables false
set_option linter.unusedSimpArgs false
theorem drawn0_add (w : World) (a b : Nat) : Drawn0 w ((w.drewN a).drewN b) := ⟨a + b, World.drewN_drewN w a b⟩
theorem sameU_some (x y : Addr) (ca cb : Nat) (l m : List Int) (w : World) (hr : Row w (some x) (nums .u64 l)) (hl : l.length ≤ 9223372036854775807) (hrm : Row w (some y) (nums .u64 m)) (hlen : m.length = l.length) :
    Calls Try.prog 68 #[.slice (some x) l.length ca, .slice (some y) m.length cb] w fun e w' => e = .returned (.bool (decide (l = m))) ∧ Drawn0 w w' := by
  have HR := Lib.hid hr
  have HRM := Lib.hid hrm
  have f0 : ((l.length : Int) != (m.length : Int)) = false := by simp; omega
  clear hr hrm
  go_enter Try.func68, Try.ntmps68
  go_wp2
  go_loopw [13] (fun i wr => ∃ k : Nat, k ≤ l.length ∧ i = .int .i64 k ∧ Hid (∀ j, (hj : j < l.length) → (hj2 : j < m.length) → j < k → l[j] = m[j]) ∧ Drawn0 w wr) (fun i _ => l.length - (intOf i).toNat)
  case atStart => exact ⟨0, Nat.zero_le _, rfl, Lib.hid fun _ _ _ h => absurd h (Nat.not_lt_zero _), ⟨0, rfl⟩⟩
  case round =>
    obtain ⟨k, hk, rfl, H, ⟨q, rfl⟩⟩ := hrel
    by_cases hlt : k < l.length
    · have hltm : k < m.length := by omega
      have hc : w.cell? (x.add k) = some (.int .u64 l[k]) := HR.out.num hlt
      have hd : w.cell? (y.add k) = some (.int .u64 m[k]) := HRM.out.num hltm
      generalize hu : l[k] = u at *
      generalize hv : m[k] = v at *
      have HU := Lib.hid hu
      have HV := Lib.hid hv
      clear hu hv
      by_cases he : u = v
      · have f1 : (u != v) = false := by simpa using he
        have H2 : Hid (∀ j, (hj : j < l.length) → (hj2 : j < m.length) → j < k + 1 → l[j] = m[j]) := Lib.hid fun j hj hj2 hjk => by
          by_cases e : j = k
          · subst e; rw [HU.out, HV.out]; exact he
          · exact H.out j hj hj2 (by omega)
        clear he
        go_wp2
        go_quiet (fail)
        go_wp2
        go_roundw
        case rel => exact ⟨k + 1, by omega, by go_num, H2, ⟨_, rfl⟩⟩
        case measure => simp [intOf]; omega
      · have f1 : (u != v) = true := by simpa using he
        have HF : Hid (decide (l = m) = false) := Lib.hid (by
          rw [decide_eq_false_iff_not]
          intro h
          subst h
          exact he (HU.out.symm.trans HV.out))
        clear he
        go_wp2
        go_quiet (fail)
        go_wp2
        go_ret
        exact ⟨by rw [HF.out]; rfl, drawn0_add _ _ _⟩
    · have HF : Hid (decide (l = m) = true) := Lib.hid (by
        rw [decide_eq_true_iff]
        apply List.ext_getElem
        · omega
        · intro i h1 h2; exact H.out i h1 h2 (by omega))
      go_wp2
      go_ret
      exact ⟨by rw [HF.out]; rfl, ⟨_, rfl⟩⟩
theorem sameU_calls (A B : Option Addr) (ca cb : Nat) (l m : List Int) (w : World) (hr : Row w A (nums .u64 l)) (hl : l.length ≤ 9223372036854775807) (hrm : Row w B (nums .u64 m)) :
    Calls Try.prog 68 #[.slice A l.length ca, .slice B m.length cb] w fun e w' => e = .returned (.bool (decide (l = m))) ∧ Drawn0 w w' := by
  by_cases hlen : m.length = l.length
  · cases l with
    | nil =>
      have hm : m = [] := by cases m with | nil => rfl | cons a b => simp at hlen
      subst hm
      clear hr hrm hl hlen
      go_enter Try.func68, Try.ntmps68
      go_wp2
      refine wp_loop_once ?_
      go_wp2
      go_ret
      exact ⟨rfl, ⟨0, rfl⟩⟩
    | cons d l =>
      cases m with
      | nil => simp at hlen
      | cons e m =>
        obtain ⟨x, rfl⟩ := hr.some_of (by simp [nums])
        obtain ⟨y, rfl⟩ := hrm.some_of (by simp [nums])
        exact sameU_some x y ca cb _ _ w hr hl hrm hlen
  · have HF : Hid (decide (l = m) = false) := Lib.hid (by
      rw [decide_eq_false_iff_not]; intro h; subst h; exact hlen rfl)
    have f0 : ((l.length : Int) != (m.length : Int)) = true := by simp; omega
    clear hr hrm hlen
    go_enter Try.func68, Try.ntmps68
    go_wp2
    go_ret
    exact ⟨by rw [HF.out]; rfl, ⟨0, rfl⟩⟩
end Go.Proofs.Ytkofhmiakfmcaaa.P
