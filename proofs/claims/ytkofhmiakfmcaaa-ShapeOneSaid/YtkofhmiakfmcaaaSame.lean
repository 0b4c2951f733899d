/- The contract of brackenref04's SameInts. Conditions: slices read as lists. -/
import Derived.Test.YtkofhmiakfmcaaaShape4
namespace Go.Proofs.Ytkofhmiakfmcaaa.P
open Go.RowKit
set_option linter.unusedVariables false
set_option linter.unusedSimpArgs false
theorem drawn0_two (w : World) (a b : Nat) : Drawn0 w ((w.drewN a).drewN b) := ⟨a + b, World.drewN_drewN w a b⟩
theorem sameInts_some (x y : Addr) (ca cb : Nat) (l m : List Int) (w : World) (hr : Row w (some x) (nums .i64 l)) (hl : l.length ≤ 9223372036854775807) (hrm : Row w (some y) (nums .i64 m)) (hlen : m.length = l.length) :
    Calls Try.prog 35 #[.slice (some x) l.length ca, .slice (some y) m.length cb] w fun e w' => e = .returned (.bool (decide (l = m))) ∧ Drawn0 w w' := by
  have HR := Lib.hid hr
  have HRM := Lib.hid hrm
  have f0 : ((l.length : Int) != (m.length : Int)) = false := by simp; omega
  clear hr hrm
  go_enter Try.func35, Try.ntmps35
  go_wp2
  go_loopw [13] (fun i wr => ∃ k : Nat, k ≤ l.length ∧ i = .int .i64 k ∧ Hid (∀ j, (hj : j < l.length) → (hj2 : j < m.length) → j < k → l[j] = m[j]) ∧ Drawn0 w wr) (fun i _ => l.length - (intOf i).toNat)
  case atStart => exact ⟨0, Nat.zero_le _, rfl, Lib.hid fun _ _ _ h => absurd h (Nat.not_lt_zero _), ⟨0, rfl⟩⟩
  case round =>
    obtain ⟨k, hk, rfl, H, ⟨q, rfl⟩⟩ := hrel
    by_cases hlt : k < l.length
    · have hltm : k < m.length := by omega
      have hc : w.cell? (x.add k) = some (.int .i64 l[k]) := HR.out.num hlt
      have hd : w.cell? (y.add k) = some (.int .i64 m[k]) := HRM.out.num hltm
      generalize hu : l[k] = u at *
      generalize hv : m[k] = v at *
      have HU := Lib.hid hu
      have HV := Lib.hid hv
      clear hu hv
      by_cases he : u = v
      · have f1 : (u != v) = false := by simpa using he
        have H2 : Hid (∀ j, (hj : j < l.length) → (hj2 : j < m.length) → j < k + 1 → l[j] = m[j]) := Lib.hid fun j hj hj2 hjk => by
          by_cases e : j = k
          · subst e; rw [HU.out, HV.out]; exact he
          · exact H.out j hj hj2 (by omega)
        clear he
        go_wp2
        go_quiet (fail)
        go_wp2
        go_roundw
        case rel => exact ⟨k + 1, by omega, by go_num, H2, ⟨_, rfl⟩⟩
        case measure => simp [intOf]; omega
      · have f1 : (u != v) = true := by simpa using he
        have HF : Hid (decide (l = m) = false) := Lib.hid (by
          rw [decide_eq_false_iff_not]
          intro h
          subst h
          exact he (HU.out.symm.trans HV.out))
        clear he
        go_wp2
        go_quiet (fail)
        go_wp2
        go_ret
        exact ⟨by rw [HF.out]; rfl, drawn0_two _ _ _⟩
    · have HF : Hid (decide (l = m) = true) := Lib.hid (by
        rw [decide_eq_true_iff]
        apply List.ext_getElem
        · omega
        · intro i h1 h2; exact H.out i h1 h2 (by omega))
      go_wp2
      go_ret
      exact ⟨by rw [HF.out]; rfl, ⟨_, rfl⟩⟩
theorem sameInts_calls (A B : Option Addr) (ca cb : Nat) (l m : List Int) (w : World) (hr : Row w A (nums .i64 l)) (hl : l.length ≤ 9223372036854775807) (hrm : Row w B (nums .i64 m)) :
    Calls Try.prog 35 #[.slice A l.length ca, .slice B m.length cb] w fun e w' => e = .returned (.bool (decide (l = m))) ∧ Drawn0 w w' := by
  by_cases hlen : m.length = l.length
  · cases l with
    | nil =>
      have hm : m = [] := by cases m with | nil => rfl | cons a b => simp at hlen
      subst hm
      clear hr hrm hl hlen
      go_enter Try.func35, Try.ntmps35
      go_wp2
      refine wp_loop_once ?_
      go_wp2
      go_ret
      exact ⟨rfl, ⟨0, rfl⟩⟩
    | cons d l =>
      cases m with
      | nil => simp at hlen
      | cons e m =>
        obtain ⟨x, rfl⟩ := hr.some_of (by simp [nums])
        obtain ⟨y, rfl⟩ := hrm.some_of (by simp [nums])
        exact sameInts_some x y ca cb _ _ w hr hl hrm hlen
  · have HF : Hid (decide (l = m) = false) := Lib.hid (by
      rw [decide_eq_false_iff_not]; intro h; subst h; exact hlen rfl)
    have f0 : ((l.length : Int) != (m.length : Int)) = true := by simp; omega
    clear hr hrm hlen
    go_enter Try.func35, Try.ntmps35
    go_wp2
    go_ret
    exact ⟨by rw [HF.out]; rfl, ⟨0, rfl⟩⟩
theorem live05_calls (w : World) : Calls Try.prog 30 #[] w fun e w' => e = .returned (.bool true) ∧ Below w.heap.size w w' := by
  have HF : Hid (lineS [2, 3] 0 1 = ([1, 4], 0)) := Lib.hid (by decide +kernel)
  go_enter Try.func30, Try.ntmps30
  go_wp2_with fail
  have hb0 : Below w.heap.size w (w.alloc (.cells #[.int .i64 2, .int .i64 3] 3)) := (Below.refl _ _).alloc (Nat.le_refl _) _
  have hr0 : Row (w.alloc (.cells #[.int .i64 2, .int .i64 3] 3)) (some ⟨w.heap.size, 0, none⟩) (nums .i64 [2, 3]) := row_new w [.int .i64 2, .int .i64 3] 3
  generalize (w.alloc (.cells #[.int .i64 2, .int .i64 3] 3)) = W at *
  refine (line_calls _ _ [2, 3] _ _ _ hr0 (by decide) (by decide) (by decide) (by decide) (by decide)).mono ?_
  rw [HF.out]
  rintro e w1 ⟨B, b, rfl, ho, hb⟩
  have HB : Hid (Below w.heap.size w w1) := Lib.hid (hb0.trans (hb.mono hb0.size))
  have HO := Lib.hid ho
  clear hb0 hr0 ho hb
  go_wp2_with fail
  have hb1 : Below w1.heap.size w1 (w1.alloc (.cells #[.int .i64 1, .int .i64 4] 3)) := (Below.refl _ _).alloc (Nat.le_refl _) _
  have hr1 : Row (w1.alloc (.cells #[.int .i64 1, .int .i64 4] 3)) (some ⟨w1.heap.size, 0, none⟩) (nums .i64 [1, 4]) := row_new w1 [.int .i64 1, .int .i64 4] 3
  generalize (w1.alloc (.cells #[.int .i64 1, .int .i64 4] 3)) = W1 at *
  refine (sameInts_calls _ _ _ _ [1, 4] [1, 4] _ ((HO.out.grown hb1).row) (by decide) hr1).mono ?_
  rintro e w2 ⟨rfl, ⟨q, rfl⟩⟩
  have HB2 : Hid (Below w.heap.size w W1) := Lib.hid (HB.out.trans (hb1.mono HB.out.size))
  clear hb1 hr1
  go_wp2
  go_ret
  exact ⟨by first | rfl | (simp; done), below_drewN HB2.out _⟩
end Go.Proofs.Ytkofhmiakfmcaaa.P
