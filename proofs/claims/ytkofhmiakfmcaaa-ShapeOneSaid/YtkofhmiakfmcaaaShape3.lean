/- The contracts of package shape's Inner and Line. Conditions: words of their kinds; slices read as lists. -/
import Derived.Test.YtkofhmiakfmcaaaShape2
namespace Go.Proofs.Ytkofhmiakfmcaaa.P
open Go.RowKit
set_option linter.unusedVariables false
set_option linter.unusedSimpArgs false
theorem addr_add_add (x : Addr) (n i : Nat) : (x.add n).add i = x.add (n + i) := by
  simp only [Addr.add]
  by_cases h0 : n = 0 <;> by_cases h1 : i = 0 <;> simp [h0, h1, Nat.add_assoc]
theorem Row.drop {w : World} {x : Addr} {k : IntKind} {l : List Int} (h : Row w (some x) (nums k l)) (n : Nat) : Row w (some (x.add n)) (nums k (l.drop n)) := by
  right
  refine ⟨_, rfl, fun i u hi => ?_⟩
  have h1 : (nums k l)[n + i]? = some u := by rw [← hi]; simp [nums]
  have h2 := h.cell h1
  rw [← h2]
  rw [addr_add_add]
def innerS (l : List Int) (a : Int) : Int × Int := if Dims l then (if 0 ≤ a ∧ a < l.length then (prodL (l.drop (a.toNat + 1)), 0) else (0, 1)) else (0, 3)
theorem inner_calls (A : Option Addr) (c : Nat) (l : List Int) (a : Int) (w : World) (hr : Row w A (nums .i64 l)) (hl : l.length ≤ 9223372036854775807) (hc : l.length ≤ c) (hw : ∀ d ∈ l, i64 d) (ha : i64 a) :
    Calls Try.prog 32 #[.slice A l.length c, .int .i64 a] w fun e w' => e = .returned (.tuple #[.int .i64 (innerS l a).1, .int .i64 (innerS l a).2]) ∧ w' = w := by
  have HR := Lib.hid hr
  have HL := Lib.hid hl
  have HW := Lib.hid hw
  clear hr hl hw
  by_cases hd : Dims l
  · have HA := Lib.hid (allS_yes hd)
    have HD := Lib.hid hd
    have hn1 := hd.n1
    have hn4 := hd.n4
    by_cases hin : 0 ≤ a ∧ a < l.length
    · obtain ⟨a0, a1⟩ := hin
      obtain ⟨N, rfl⟩ := Int.eq_ofNat_of_zero_le a0
      obtain ⟨x, rfl⟩ := HR.out.some_of (by intro h0; have := nums_length .i64 l; rw [h0] at this; simp at this; omega)
      have HF : Hid (innerS l N = (prodL (l.drop (N + 1)), 0)) := Lib.hid (by rw [innerS, if_pos hd, if_pos ⟨a0, a1⟩, Int.toNat_natCast])
      have f0 : decide ((N : Int) < 0) = false := by simp
      have f1 : decide ((l.length : Int) ≤ (N : Int)) = false := by simp; omega
      have hN : N < l.length := by omega
      clear hd ha a0 a1
      go_enter Try.func32, Try.ntmps32
      go_wp2_with (go_at_call 31; refine (all_calls _ _ _ _ HR.out HL.out HW.out).mono ?_; rw [HA.out]; rintro e w' ⟨rfl, rfl⟩)
      case inl =>
        have hm0 : l.length - (N + 1) = 0 := by omega
        have HE : Hid (prodL (l.drop (N + 1)) = 1) := Lib.hid (by rw [List.drop_eq_nil_of_le (by omega)]; rfl)
        rw [hm0]
        refine wp_loop_once ?_
        go_wp2
        go_ret2
        exact ⟨by rw [HF.out, HE.out]; rfl, rfl⟩
      case inr =>
        generalize hy : (⟨x.block, x.off + (N + 1), none⟩ : Addr) = y at *
        have HRM : Hid (Row w' (some y) (nums .i64 (l.drop (N + 1)))) := Lib.hid (by rw [← hy]; simpa [Addr.add] using HR.out.drop (N + 1))
        have HPM : Hid (Pos (l.drop (N + 1)) ∧ prodL (l.drop (N + 1)) ≤ 4096) := Lib.hid ⟨HD.out.pos.drop _, by have := HD.out.pos.drop_le (N + 1); have := HD.out.all; omega⟩
        have hml : (l.drop (N + 1)).length = l.length - (N + 1) := by simp
        rw [← hml]
        generalize l.drop (N + 1) = m at *
        have hm4 : m.length ≤ 4 := by omega
        clear hml hy
        go_loopw [8, 34] (fun n i wr => ∃ k : Nat, k ≤ m.length ∧ i = .int .i64 k ∧ n = .int .i64 (prodL (m.take k)) ∧ wr = w') (fun _ i _ => m.length - (intOf i).toNat)
        case atStart => exact ⟨0, Nat.zero_le _, rfl, rfl, rfl⟩
        case round =>
          obtain ⟨k, hk, rfl, rfl, rfl⟩ := hrel
          by_cases hlt : k < m.length
          · have hc := HRM.out.num hlt
            have hp := Lib.hid (prodL_take m k hlt)
            have h1 := HPM.out.1.take_le (k + 1)
            have h2 := (HPM.out.1.take (k + 1)).prod
            have h3 := HPM.out.2
            rw [hp.out] at h1 h2
            generalize m[k] = d at *
            generalize prodL (m.take k) = V at *
            generalize hM : V * d = M at *
            have hm1 : M ≤ 4096 := by omega
            clear h1 h3
            go_wp2
            go_roundw
            case rel => exact ⟨k + 1, by omega, by go_num, by rw [hp.out], by trivial⟩
            case measure => simp [intOf]; omega
          · have hk2 : k = m.length := by omega
            subst hk2
            have HT : Hid (m.take m.length = m) := Lib.hid (List.take_length)
            go_wp2
            go_ret2
            exact ⟨by rw [HF.out, ← HT.out]; simp, rfl⟩
    · have HF : Hid (innerS l a = (0, 1)) := Lib.hid (by rw [innerS, if_pos hd, if_neg hin])
      by_cases h0 : a < 0
      · have f0 : decide (a < 0) = true := by simpa using h0
        clear hin hd
        go_enter Try.func32, Try.ntmps32
        go_wp2_with (go_at_call 31; refine (all_calls _ _ _ _ HR.out HL.out HW.out).mono ?_; rw [HA.out]; rintro e w' ⟨rfl, rfl⟩)
        go_ret2
        exact ⟨by rw [HF.out]; rfl, rfl⟩
      · have f0 : decide (a < 0) = false := by simpa using h0
        have f1 : decide ((l.length : Int) ≤ a) = true := by simp; omega
        clear hin hd
        go_enter Try.func32, Try.ntmps32
        go_wp2_with (go_at_call 31; refine (all_calls _ _ _ _ HR.out HL.out HW.out).mono ?_; rw [HA.out]; rintro e w' ⟨rfl, rfl⟩)
        go_ret2
        exact ⟨by rw [HF.out]; rfl, rfl⟩
  · have HF : Hid (innerS l a = (0, 3)) := Lib.hid (by rw [innerS, if_neg hd])
    have HA := Lib.hid (allS_no hd)
    clear hd
    go_enter Try.func32, Try.ntmps32
    go_wp2_with (go_at_call 31; refine (all_calls _ _ _ _ HR.out HL.out HW.out).mono ?_; rw [HA.out]; rintro e w' ⟨rfl, rfl⟩)
    go_ret2
    exact ⟨by rw [HF.out]; rfl, rfl⟩
end Go.Proofs.Ytkofhmiakfmcaaa.P
