/- The contracts of brackenref05's behind, All, Inner. Conditions: words of their kinds; slices read as lists; behind's products stay small. -/
import Derived.Test.YtkofhmiakfmcaaaShapeP
namespace Go.Proofs.Ytkofhmiakfmcaaa.P
open Go.RowKit
set_option linter.unusedVariables false
set_option linter.unusedSimpArgs false
theorem behind_calls (A : Option Addr) (c : Nat) (m : List Int) (w : World) (hr : Row w A (nums .i64 m)) (hl : m.length ≤ 9223372036854775807) (hp : Pos m) (hb : prodL m ≤ 4096) :
    Calls Try.prog 90 #[.slice A m.length c] w fun e w' => e = .returned (.int .i64 (prodL m)) ∧ w' = w := by
  cases m with
  | nil =>
    go_enter Try.func90, Try.ntmps90
    go_wp2
    refine wp_loop_once ?_
    go_wp2
    go_ret
    exact ⟨rfl, rfl⟩
  | cons d0 m0 =>
    obtain ⟨y, rfl⟩ := hr.some_of (by simp [nums])
    generalize d0 :: m0 = m at *
    have HR := Lib.hid hr
    have HP := Lib.hid hp
    have HB := Lib.hid hb
    clear hr hp hb
    go_enter Try.func90, Try.ntmps90
    go_wp2
    go_loopw [3, 8] (fun n i wr => ∃ k : Nat, k ≤ m.length ∧ i = .int .i64 k ∧ n = .int .i64 (prodL (m.take k)) ∧ wr = w) (fun _ i _ => m.length - (intOf i).toNat)
    case atStart => exact ⟨0, Nat.zero_le _, rfl, rfl, rfl⟩
    case round =>
      obtain ⟨k, hk, rfl, rfl, rfl⟩ := hrel
      by_cases hlt : k < m.length
      · have hc := HR.out.num hlt
        have hp := Lib.hid (prodL_take m k hlt)
        have h1 := HP.out.take_le (k + 1)
        have h2 := (HP.out.take (k + 1)).prod
        have h3 := HB.out
        rw [hp.out] at h1 h2
        generalize m[k] = d at *
        generalize prodL (m.take k) = V at *
        generalize hM : V * d = M at *
        have hm1 : M ≤ 4096 := by omega
        clear h1 h3
        go_wp2
        go_roundw
        case rel => exact ⟨k + 1, by omega, by go_num, by rw [hp.out], by trivial⟩
        case measure => simp [intOf]; omega
      · have hk2 : k = m.length := by omega
        subst hk2
        have HT : Hid (m.take m.length = m) := Lib.hid (List.take_length)
        go_wp2
        go_ret
        exact ⟨by rw [HT.out]; rfl, rfl⟩
theorem pow4096 (k : Nat) (h : k ≤ 3) : (4096 : Int) ^ k ≤ 68719476736 := by
  match k, h with
  | 0, _ => decide
  | 1, _ => decide
  | 2, _ => decide
  | 3, _ => decide
theorem r05_all_some (x : Addr) (c : Nat) (l : List Int) (w : World) (hr : Row w (some x) (nums .i64 l)) (h1 : 1 ≤ l.length) (h4 : l.length ≤ 4) (hw : ∀ d ∈ l, i64 d) :
    Calls Try.prog 36 #[.slice (some x) l.length c] w fun e w' => e = .returned (.tuple #[.int .i64 (allS l).1, .int .i64 (allS l).2]) ∧ w' = w := by
  have HR := Lib.hid hr
  have HW := Lib.hid hw
  clear hr hw
  have f0 : decide ((l.length : Int) < 1) = false := by simp; omega
  have f1 : decide (4 < (l.length : Int)) = false := by simp; omega
  go_enter Try.func36, Try.ntmps36
  go_wp2
  go_loopw [4, 17] (fun n i wr => ∃ k : Nat, k ≤ l.length ∧ i = .int .i64 k ∧ n = .int .i64 (prodL (l.take k)) ∧ 1 ≤ prodL (l.take k) ∧ prodL (l.take k) ≤ 281474976710656 ∧ Hid (prodL (l.take k) ≤ 4096 ^ k) ∧ Hid (∀ j, (hj : j < l.length) → j < k → 1 ≤ l[j]) ∧ wr = w) (fun _ i _ => l.length - (intOf i).toNat)
  case atStart => exact ⟨0, Nat.zero_le _, rfl, rfl, by simp [prodL], by simp [prodL], Lib.hid (by simp [prodL]), Lib.hid fun _ _ h => absurd h (Nat.not_lt_zero _), rfl⟩
  case round =>
    obtain ⟨k, hk, rfl, rfl, hn1, hn2, HN, H, rfl⟩ := hrel
    by_cases hlt : k < l.length
    · have hc := HR.out.num hlt
      have hp := Lib.hid (prodL_take l k hlt)
      generalize hd : l[k] = d at *
      have HD := Lib.hid hd
      by_cases g0 : d < 1
      · have HF : Hid (allS l = (0, 3)) := Lib.hid (allS_no fun D => by have := D.pos.at hlt; omega)
        have g1 : decide (d < 1) = true := by simpa using g0
        clear g0 hd
        go_wp2
        go_ret2
        exact ⟨by rw [HF.out]; rfl, rfl⟩
      · have g1 : decide (d < 1) = false := by simpa using g0
        by_cases g2 : 4096 < d
        · have HF : Hid (allS l = (0, 3)) := Lib.hid (allS_no fun D => by have := D.pos.at_le hlt; have := D.all; omega)
          have g3 : decide (4096 < d) = true := by simpa using g2
          clear hd
          go_wp2
          go_ret2
          exact ⟨by rw [HF.out]; rfl, rfl⟩
        · have g3 : decide (4096 < d) = false := by simpa using g2
          generalize hN : prodL (l.take k) = N at *
          have hm0 : 1 ≤ N * d := by have := mul_mono hn1 (show 1 ≤ d by omega); omega
          have HP : Hid (N * d ≤ 4096 ^ (k + 1)) := Lib.hid (by
            rw [Int.pow_succ]
            exact Int.mul_le_mul HN.out (by omega) (by omega) (Int.le_of_lt (Int.pow_pos (by omega))))
          have hm1 : N * d ≤ 281474976710656 := by
            have h5 := pow4096 k (by omega)
            have h6 : N * d ≤ 68719476736 * 4096 := Int.mul_le_mul (Int.le_trans HN.out h5) (by omega) (by omega) (by omega)
            omega
          have H2 : Hid (∀ j, (hj : j < l.length) → j < k + 1 → 1 ≤ l[j]) := Lib.hid fun j hj hjk => by
            by_cases e : j = k
            · subst e; have := HD.out; omega
            · exact H.out j hj (by omega)
          clear hN hd
          generalize hM : N * d = M at *
          go_wp2
          go_roundw
          case rel => exact ⟨k + 1, by omega, by go_num, by rw [hp.out], by have := hp.out; omega, by have := hp.out; omega, Lib.hid (by rw [hp.out]; exact HP.out), H2, by trivial⟩
          case measure => simp [intOf]; omega
    · have hk2 : k = l.length := by omega
      subst hk2
      have HT : Hid (l.take l.length = l) := Lib.hid (List.take_length)
      have HPL : Hid (prodL (l.take l.length) = prodL l) := Lib.hid (by rw [HT.out])
      have HPOS : Hid (Pos l) := Lib.hid (pos_of fun j hj => H.out j hj hj)
      generalize prodL (l.take l.length) = V at *
      by_cases g4 : 4096 < V
      · have HF : Hid (allS l = (0, 3)) := Lib.hid (allS_no fun D => by have := D.all; have := HPL.out; omega)
        have g5 : decide (4096 < V) = true := by simpa using g4
        go_wp2
        go_ret2
        exact ⟨by rw [HF.out]; rfl, rfl⟩
      · have HF : Hid (allS l = (V, 0)) := Lib.hid (by
          rw [HPL.out]
          exact allS_yes ⟨h1, h4, HPOS.out, by have := HPL.out; omega⟩)
        have g5 : decide (4096 < V) = false := by simpa using g4
        go_wp2
        go_ret2
        exact ⟨by rw [HF.out]; rfl, rfl⟩
theorem r05_all (A : Option Addr) (c : Nat) (l : List Int) (w : World) (hr : Row w A (nums .i64 l)) (hl : l.length ≤ 9223372036854775807) (hw : ∀ d ∈ l, i64 d) :
    Calls Try.prog 36 #[.slice A l.length c] w fun e w' => e = .returned (.tuple #[.int .i64 (allS l).1, .int .i64 (allS l).2]) ∧ w' = w := by
  by_cases h : 1 ≤ l.length ∧ l.length ≤ 4
  · obtain ⟨x, rfl⟩ := hr.some_of (by intro h0; have := nums_length .i64 l; rw [h0] at this; simp at this; omega)
    exact r05_all_some x c l w hr h.1 h.2 hw
  · have HF : Hid (allS l = (0, 3)) := Lib.hid (allS_no fun D => h ⟨D.n1, D.n4⟩)
    clear hr hw
    by_cases h0 : l.length < 1
    · have f0 : decide ((l.length : Int) < 1) = true := by simp; omega
      clear h
      go_enter Try.func36, Try.ntmps36
      go_wp2
      go_ret2
      exact ⟨by rw [HF.out]; rfl, rfl⟩
    · have f0 : decide ((l.length : Int) < 1) = false := by simp; omega
      have f1 : decide (4 < (l.length : Int)) = true := by simp; omega
      clear h
      go_enter Try.func36, Try.ntmps36
      go_wp2
      go_ret2
      exact ⟨by rw [HF.out]; rfl, rfl⟩
end Go.Proofs.Ytkofhmiakfmcaaa.P
