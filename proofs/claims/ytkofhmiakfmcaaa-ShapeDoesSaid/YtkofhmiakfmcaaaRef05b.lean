/- The contracts of brackenref05's Inner, Flat and Coord. Conditions: words of their kinds; slices read as lists. -/
import Derived.Test.YtkofhmiakfmcaaaRef05
import Derived.Test.YtkofhmiakfmcaaaApp
namespace Go.Proofs.Ytkofhmiakfmcaaa.P
open Go.RowKit
set_option linter.unusedVariables false
set_option linter.unusedSimpArgs false
theorem behind_drop {x : Addr} {A : Option Addr} {n c' N : Nat} {l : List Int} (w : World) (hr : Row w (some x) (nums .i64 l)) (hd : Dims l)
    (hA : (A = some x ∧ n = 0 ∧ l.length ≤ N + 1) ∨ (A = some (x.add (N + 1)) ∧ n = l.length - (N + 1))) :
    Calls Try.prog 90 #[.slice A n c'] w fun e w' => e = .returned (.int .i64 (prodL (l.drop (N + 1)))) ∧ w' = w := by
  have h4 := hd.n4
  rcases hA with ⟨rfl, rfl, h⟩ | ⟨rfl, rfl⟩
  · rw [List.drop_eq_nil_of_le h]
    exact behind_calls (some x) c' [] w (Row.nil _ _) (by simp) (fun d hd => by cases hd) (by simp [prodL])
  · have e : l.length - (N + 1) = (l.drop (N + 1)).length := by simp
    rw [e]
    exact behind_calls _ c' _ w (hr.drop (N + 1)) (by simp; omega) (hd.pos.drop _) (by have := hd.pos.drop_le (N + 1); have := hd.all; omega)
theorem r05_inner (A : Option Addr) (c : Nat) (l : List Int) (a : Int) (w : World) (hr : Row w A (nums .i64 l)) (hl : l.length ≤ 9223372036854775807) (hc : l.length ≤ c) (hw : ∀ d ∈ l, i64 d) (ha : i64 a) :
    Calls Try.prog 40 #[.slice A l.length c, .int .i64 a] w fun e w' => e = .returned (.tuple #[.int .i64 (innerS l a).1, .int .i64 (innerS l a).2]) ∧ w' = w := by
  have HR := Lib.hid hr
  have HL := Lib.hid hl
  have HW := Lib.hid hw
  clear hr hl hw
  by_cases hd : Dims l
  · have HA := Lib.hid (allS_yes hd)
    have HD := Lib.hid hd
    have hn1 := hd.n1
    have hn4 := hd.n4
    by_cases hin : 0 ≤ a ∧ a < l.length
    · obtain ⟨a0, a1⟩ := hin
      obtain ⟨N, rfl⟩ := Int.eq_ofNat_of_zero_le a0
      obtain ⟨x, rfl⟩ := HR.out.some_of (by intro h0; have := nums_length .i64 l; rw [h0] at this; simp at this; omega)
      have HF : Hid (innerS l N = (prodL (l.drop (N + 1)), 0)) := Lib.hid (by rw [innerS, if_pos hd, if_pos ⟨a0, a1⟩, Int.toNat_natCast])
      have f0 : decide ((N : Int) < 0) = false := by simp
      have f1 : decide ((l.length : Int) ≤ (N : Int)) = false := by simp; omega
      have f2 : decide (l.length ≤ N) = false := by simp; omega
      have hN : N < l.length := by omega
      clear hd ha a0 a1
      go_enter Try.func40, Try.ntmps40
      go_wp2_with (go_at_call 36; refine (r05_all _ _ _ _ HR.out HL.out HW.out).mono ?_; rw [HA.out]; rintro e w' ⟨rfl, rfl⟩)
      case inl =>
        refine (behind_drop (N := N) _ HR.out HD.out (.inl ⟨rfl, by omega, by omega⟩)).mono ?_
        rintro e w3 ⟨rfl, rfl⟩
        go_wp2
        go_ret2
        exact ⟨by rw [HF.out]; rfl, rfl⟩
      case inr =>
        refine (behind_drop (N := N) _ HR.out HD.out (.inr ⟨by simp [Addr.add], rfl⟩)).mono ?_
        rintro e w3 ⟨rfl, rfl⟩
        go_wp2
        go_ret2
        exact ⟨by rw [HF.out]; rfl, rfl⟩
    · have HF : Hid (innerS l a = (0, 1)) := Lib.hid (by rw [innerS, if_pos hd, if_neg hin])
      by_cases h0 : a < 0
      · have f0 : decide (a < 0) = true := by simpa using h0
        clear hin hd
        go_enter Try.func40, Try.ntmps40
        go_wp2_with (go_at_call 36; refine (r05_all _ _ _ _ HR.out HL.out HW.out).mono ?_; rw [HA.out]; rintro e w' ⟨rfl, rfl⟩)
        go_ret2
        exact ⟨by rw [HF.out]; rfl, rfl⟩
      · have f0 : decide (a < 0) = false := by simpa using h0
        have f1 : decide ((l.length : Int) ≤ a) = true := by simp; omega
        clear hin hd
        go_enter Try.func40, Try.ntmps40
        go_wp2_with (go_at_call 36; refine (r05_all _ _ _ _ HR.out HL.out HW.out).mono ?_; rw [HA.out]; rintro e w' ⟨rfl, rfl⟩)
        go_ret2
        exact ⟨by rw [HF.out]; rfl, rfl⟩
  · have HF : Hid (innerS l a = (0, 3)) := Lib.hid (by rw [innerS, if_neg hd])
    have HA := Lib.hid (allS_no hd)
    clear hd
    go_enter Try.func40, Try.ntmps40
    go_wp2_with (go_at_call 36; refine (r05_all _ _ _ _ HR.out HL.out HW.out).mono ?_; rw [HA.out]; rintro e w' ⟨rfl, rfl⟩)
    go_ret2
    exact ⟨by rw [HF.out]; rfl, rfl⟩
theorem r05_flat (A B : Option Addr) (ca cb : Nat) (l c : List Int) (w : World) (hr : Row w A (nums .i64 l)) (hl : l.length ≤ 9223372036854775807) (hcap : l.length ≤ ca) (hw : ∀ d ∈ l, i64 d) (hrc : Row w B (nums .i64 c)) (hlc : c.length ≤ 9223372036854775807) (hwc : ∀ d ∈ c, i64 d) :
    Calls Try.prog 39 #[.slice A l.length ca, .slice B c.length cb] w fun e w' => e = .returned (.tuple #[.int .i64 (flatS l c).1, .int .i64 (flatS l c).2]) ∧ w' = w := by
  have HR := Lib.hid hr
  have HL := Lib.hid hl
  have HW := Lib.hid hw
  have HRC := Lib.hid hrc
  have HWC := Lib.hid hwc
  clear hr hl hw hrc hwc
  by_cases hd : Dims l
  · have HA := Lib.hid (allS_yes hd)
    have HD := Lib.hid hd
    have hn1 := hd.n1
    have hn4 := hd.n4
    by_cases hlen : c.length = l.length
    · obtain ⟨x, rfl⟩ := HR.out.some_of (by intro h0; have := nums_length .i64 l; rw [h0] at this; simp at this; omega)
      obtain ⟨y, rfl⟩ := HRC.out.some_of (by intro h0; have := nums_length .i64 c; rw [h0] at this; simp at this; omega)
      have f0 : ((c.length : Int) != (l.length : Int)) = false := by simp; omega
      have HF1 : Hid (Fits l c → flatS l c = (hor l c l.length, 0)) := Lib.hid fun h => by rw [flatS, if_pos HD.out, if_pos h]
      have HF2 : Hid (¬ Fits l c → flatS l c = (0, 1)) := Lib.hid fun h => by rw [flatS, if_pos HD.out, if_neg h]
      clear hd
      go_enter Try.func39, Try.ntmps39
      go_wp2_with (go_at_call 36; refine (r05_all _ _ _ _ HR.out HL.out HW.out).mono ?_; rw [HA.out]; rintro e w' ⟨rfl, rfl⟩)
      go_loopw [8, 26] (fun v i wr => ∃ k : Nat, k ≤ l.length ∧ i = .int .i64 k ∧ v = .int .i64 (hor l c k * prodL (l.drop k)) ∧ Hid (∀ j, j < k → 0 ≤ c.getD j 0 ∧ c.getD j 0 < l.getD j 1) ∧ wr = w') (fun _ i _ => l.length - (intOf i).toNat)
      case atStart => exact ⟨0, Nat.zero_le _, rfl, by simp [hor], Lib.hid fun _ h => absurd h (Nat.not_lt_zero _), rfl⟩
      case round =>
        obtain ⟨k, hk, rfl, rfl, H, rfl⟩ := hrel
        by_cases hlt : k < l.length
        · have hltc : k < c.length := by omega
          have hc1 := HRC.out.num hltc
          have hc2 := HR.out.num hlt
          have HD1 := Lib.hid (HD.out.pos.at hlt)
          have HD2 : Hid (l[k] ≤ 4096) := Lib.hid (by have := HD.out.pos.at_le hlt; have := HD.out.all; omega)
          have HB := Lib.hid (hor_bound HD.out.pos k hk H.out)
          have HT := Lib.hid (HD.out.pos.take_le k)
          have HAL := Lib.hid HD.out.all
          have HS : Hid (hor l c (k + 1) = hor l c k * l[k] + c[k]) := Lib.hid (by simp only [hor]; rw [getD_at hlt, getD_at hltc])
          have HX1 := Lib.hid (getD_at hlt 1)
          have HX2 := Lib.hid (getD_at hltc 0)
          generalize l[k] = d at *
          generalize c[k] = u at *
          have hd1 := HD1.out
          have hd2 := HD2.out
          by_cases g0 : u < 0
          · have HN := Lib.hid (HF2.out (fun h => by have := h.2 k hlt; rw [HX2.out] at this; omega))
            have g1 : decide (u < 0) = true := by simpa using g0
            clear g0
            go_wp2
            go_ret2
            exact ⟨by rw [HN.out]; rfl, rfl⟩
          · have g1 : decide (u < 0) = false := by simpa using g0
            by_cases g2 : d ≤ u
            · have HN := Lib.hid (HF2.out (fun h => by have := h.2 k hlt; rw [HX2.out, HX1.out] at this; omega))
              have g3 : decide (d ≤ u) = true := by simpa using g2
              clear g2
              go_wp2
              go_ret2
              exact ⟨by rw [HN.out]; rfl, rfl⟩
            · have g3 : decide (d ≤ u) = false := by simpa using g2
              have hb := HB.out
              have ht := HT.out
              have ha := HAL.out
              have HPD := Lib.hid (prodL_drop l k hlt)
              have HPP := Lib.hid (HD.out.pos.drop (k + 1)).prod
              have HPQ : Hid (prodL (l.drop (k + 1)) ≤ 4096) := Lib.hid (by have := HD.out.pos.drop_le (k + 1); omega)
              have HS2 : Hid (hor l c (k + 1) * prodL (l.drop (k + 1)) = hor l c k * prodL (l.drop k) + u * prodL (l.drop (k + 1))) := Lib.hid (by
                rw [HS.out, HPD.out, Int.add_mul]
                congr 1
                rw [Int.mul_assoc]
                congr 2
                exact (HX1.out.symm.trans (getD_at hlt 1)))
              have hs0 : 0 ≤ hor l c k * prodL (l.drop k) := Int.mul_nonneg hb.1 (by have := (HD.out.pos.drop k).prod; omega)
              have hs1 : hor l c k * prodL (l.drop k) ≤ 16777216 := by
                have h6 := HD.out.pos.drop_le k
                have : hor l c k * prodL (l.drop k) ≤ 4096 * 4096 := Int.mul_le_mul (by omega) (by omega) (by have := (HD.out.pos.drop k).prod; omega) (by omega)
                omega
              have hp1 := HPP.out
              have hp2 := HPQ.out
              generalize hor l c k * prodL (l.drop k) = S at *
              generalize hP : prodL (l.drop (k + 1)) = P at *
              have hm0 : 0 ≤ u * P := Int.mul_nonneg (by omega) (by omega)
              have hm1 : u * P ≤ 16777216 := by
                have : u * P ≤ 4096 * 4096 := Int.mul_le_mul (by omega) hp2 (by omega) (by omega)
                omega
              have H2 : Hid (∀ j, j < k + 1 → 0 ≤ c.getD j 0 ∧ c.getD j 0 < l.getD j 1) := Lib.hid fun j hj => by
                by_cases e : j = k
                · subst e; rw [HX1.out, HX2.out]; omega
                · exact H.out j (by omega)
              have HPE := Lib.hid hP
              clear hb ht ha hP
              generalize hM : u * P = M at *
              by_cases hcx : ca = k + 1
              · have hlk : l.length ≤ k + 1 := by omega
                have hce : (ca = k + 1) = True := by simp [hcx]
                clear hcx
                go_wp2_with fail
                refine (behind_drop (N := k) _ HR.out HD.out (.inl ⟨rfl, by omega, by omega⟩)).mono ?_
                rw [HPE.out]
                rintro e w3 ⟨rfl, rfl⟩
                go_wp2
                go_roundw
                case rel => exact ⟨k + 1, by omega, by go_num, by rw [HPE.out, HS2.out], H2, by trivial⟩
                case measure => simp [intOf]; omega
              · have hce : (ca = k + 1) = False := by simp [hcx]
                clear hcx
                go_wp2_with fail
                refine (behind_drop (N := k) _ HR.out HD.out (.inr ⟨by simp [Addr.add], rfl⟩)).mono ?_
                rw [HPE.out]
                rintro e w3 ⟨rfl, rfl⟩
                go_wp2
                go_roundw
                case rel => exact ⟨k + 1, by omega, by go_num, by rw [HPE.out, HS2.out], H2, by trivial⟩
                case measure => simp [intOf]; omega
        · have hk2 : k = l.length := by omega
          subst hk2
          have HN := Lib.hid (HF1.out ⟨by omega, H.out⟩)
          have HE : Hid (hor l c l.length * prodL (l.drop l.length) = hor l c l.length) := Lib.hid (by rw [List.drop_length]; simp [prodL])
          rw [HE.out]
          go_wp2
          go_ret2
          exact ⟨by rw [HN.out]; rfl, rfl⟩
    · have HF : Hid (flatS l c = (0, 1)) := Lib.hid (by rw [flatS, if_pos hd, if_neg (fun h => hlen h.1)])
      have f0 : ((c.length : Int) != (l.length : Int)) = true := by simp; omega
      clear hd hlen
      go_enter Try.func39, Try.ntmps39
      go_wp2_with (go_at_call 36; refine (r05_all _ _ _ _ HR.out HL.out HW.out).mono ?_; rw [HA.out]; rintro e w' ⟨rfl, rfl⟩)
      go_ret2
      exact ⟨by rw [HF.out]; rfl, rfl⟩
  · have HF : Hid (flatS l c = (0, 3)) := Lib.hid (by rw [flatS, if_neg hd])
    have HA := Lib.hid (allS_no hd)
    clear hd
    go_enter Try.func39, Try.ntmps39
    go_wp2_with (go_at_call 36; refine (r05_all _ _ _ _ HR.out HL.out HW.out).mono ?_; rw [HA.out]; rintro e w' ⟨rfl, rfl⟩)
    go_ret2
    exact ⟨by rw [HF.out]; rfl, rfl⟩
end Go.Proofs.Ytkofhmiakfmcaaa.P
