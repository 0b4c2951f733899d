/- The contracts of package shape's Flat and Inner. Conditions: words of their kinds; slices read as lists. -/
import Derived.Test.YtkofhmiakfmcaaaShape1
namespace Go.Proofs.Ytkofhmiakfmcaaa.P
open Go.RowKit
set_option linter.unusedVariables false
set_option linter.unusedSimpArgs false
/-- The place of the first coordinates. -/
def hor (l c : List Int) : Nat → Int
  | 0 => 0
  | k + 1 => hor l c k * l.getD k 1 + c.getD k 0
def Fits (l c : List Int) : Prop := c.length = l.length ∧ ∀ k, k < l.length → 0 ≤ c.getD k 0 ∧ c.getD k 0 < l.getD k 1
instance (l c : List Int) : Decidable (Fits l c) := by unfold Fits; exact inferInstance
def flatS (l c : List Int) : Int × Int := if Dims l then (if Fits l c then (hor l c l.length, 0) else (0, 1)) else (0, 3)
theorem getD_at {l : List Int} {k : Nat} (h : k < l.length) (v : Int) : l.getD k v = l[k] := by
  rw [List.getD_eq_getElem?_getD, List.getElem?_eq_getElem h]; rfl
theorem hor_bound {l c : List Int} (hp : Pos l) : ∀ k, k ≤ l.length → (∀ j, j < k → 0 ≤ c.getD j 0 ∧ c.getD j 0 < l.getD j 1) → 0 ≤ hor l c k ∧ hor l c k < prodL (l.take k)
  | 0, _, _ => by simp [hor, prodL]
  | k + 1, hk, h => by
    have ih := hor_bound hp k (by omega) (fun j hj => h j (by omega))
    have hx := h k (by omega)
    have hd := hp.at (k := k) (by omega)
    rw [prodL_take l k (by omega)]
    rw [getD_at (show k < l.length by omega)] at hx
    simp only [hor]
    rw [getD_at (show k < l.length by omega)]
    have h1 : 0 ≤ hor l c k * l[k] := Int.mul_nonneg ih.1 (by omega)
    have h2 : (hor l c k + 1) * l[k] ≤ prodL (l.take k) * l[k] := Int.mul_le_mul_of_nonneg_right (by omega) (by omega)
    rw [Int.add_mul, Int.one_mul] at h2
    omega
theorem flat_calls (A B : Option Addr) (ca cb : Nat) (l c : List Int) (w : World) (hr : Row w A (nums .i64 l)) (hl : l.length ≤ 9223372036854775807) (hw : ∀ d ∈ l, i64 d) (hrc : Row w B (nums .i64 c)) (hlc : c.length ≤ 9223372036854775807) (hwc : ∀ d ∈ c, i64 d) :
    Calls Try.prog 38 #[.slice A l.length ca, .slice B c.length cb] w fun e w' => e = .returned (.tuple #[.int .i64 (flatS l c).1, .int .i64 (flatS l c).2]) ∧ w' = w := by
  have HR := Lib.hid hr
  have HL := Lib.hid hl
  have HW := Lib.hid hw
  have HRC := Lib.hid hrc
  have HWC := Lib.hid hwc
  clear hr hl hw hrc hwc
  by_cases hd : Dims l
  · have HA := Lib.hid (allS_yes hd)
    have HD := Lib.hid hd
    have hn1 := hd.n1
    have hn4 := hd.n4
    by_cases hlen : c.length = l.length
    · obtain ⟨x, rfl⟩ := HR.out.some_of (by intro h0; have := nums_length .i64 l; rw [h0] at this; simp at this; omega)
      obtain ⟨y, rfl⟩ := HRC.out.some_of (by intro h0; have := nums_length .i64 c; rw [h0] at this; simp at this; omega)
      have f0 : ((c.length : Int) != (l.length : Int)) = false := by simp; omega
      have HF1 : Hid (Fits l c → flatS l c = (hor l c l.length, 0)) := Lib.hid fun h => by rw [flatS, if_pos HD.out, if_pos h]
      have HF2 : Hid (¬ Fits l c → flatS l c = (0, 1)) := Lib.hid fun h => by rw [flatS, if_pos HD.out, if_neg h]
      clear hd
      go_enter Try.func38, Try.ntmps38
      go_wp2_with (go_at_call 31; refine (all_calls _ _ _ _ HR.out HL.out HW.out).mono ?_; rw [HA.out]; rintro e w' ⟨rfl, rfl⟩)
      go_loopw [8, 26] (fun v i wr => ∃ k : Nat, k ≤ l.length ∧ i = .int .i64 k ∧ v = .int .i64 (hor l c k) ∧ Hid (∀ j, j < k → 0 ≤ c.getD j 0 ∧ c.getD j 0 < l.getD j 1) ∧ wr = w') (fun _ i _ => l.length - (intOf i).toNat)
      case atStart => exact ⟨0, Nat.zero_le _, rfl, rfl, Lib.hid fun _ h => absurd h (Nat.not_lt_zero _), rfl⟩
      case round =>
        obtain ⟨k, hk, rfl, rfl, H, rfl⟩ := hrel
        by_cases hlt : k < l.length
        · have hltc : k < c.length := by omega
          have hc1 := HRC.out.num hltc
          have hc2 := HR.out.num hlt
          have HD1 := Lib.hid (HD.out.pos.at hlt)
          have HD2 : Hid (l[k] ≤ 4096) := Lib.hid (by have := HD.out.pos.at_le hlt; have := HD.out.all; omega)
          have HB := Lib.hid (hor_bound HD.out.pos k hk H.out)
          have HT := Lib.hid (HD.out.pos.take_le k)
          have HAL := Lib.hid HD.out.all
          have HS : Hid (hor l c (k + 1) = hor l c k * l[k] + c[k]) := Lib.hid (by simp only [hor]; rw [getD_at hlt, getD_at hltc])
          have HX1 := Lib.hid (getD_at hlt 1)
          have HX2 := Lib.hid (getD_at hltc 0)
          generalize l[k] = d at *
          generalize c[k] = u at *
          have hd1 := HD1.out
          have hd2 := HD2.out
          by_cases g0 : u < 0
          · have HN := Lib.hid (HF2.out (fun h => by have := h.2 k hlt; rw [HX2.out] at this; omega))
            have g1 : decide (u < 0) = true := by simpa using g0
            clear g0
            go_wp2
            go_ret2
            exact ⟨by rw [HN.out]; rfl, rfl⟩
          · have g1 : decide (u < 0) = false := by simpa using g0
            by_cases g2 : d ≤ u
            · have HN := Lib.hid (HF2.out (fun h => by have := h.2 k hlt; rw [HX2.out, HX1.out] at this; omega))
              have g3 : decide (d ≤ u) = true := by simpa using g2
              clear g2
              go_wp2
              go_ret2
              exact ⟨by rw [HN.out]; rfl, rfl⟩
            · have g3 : decide (d ≤ u) = false := by simpa using g2
              have hb := HB.out
              have ht := HT.out
              have ha := HAL.out
              generalize hor l c k = V at *
              have hm0 : 0 ≤ V * d := Int.mul_nonneg hb.1 (by omega)
              have hm1 : V * d ≤ 16777216 := by
                have : V * d ≤ 4096 * 4096 := Int.mul_le_mul (by omega) hd2 (by omega) (by omega)
                omega
              have H2 : Hid (∀ j, j < k + 1 → 0 ≤ c.getD j 0 ∧ c.getD j 0 < l.getD j 1) := Lib.hid fun j hj => by
                by_cases e : j = k
                · subst e; rw [HX1.out, HX2.out]; omega
                · exact H.out j (by omega)
              clear hb ht ha
              generalize hM : V * d = M at *
              go_wp2
              go_roundw
              case rel => exact ⟨k + 1, by omega, by go_num, by rw [HS.out], H2, by trivial⟩
              case measure => simp [intOf]; omega
        · have hk2 : k = l.length := by omega
          subst hk2
          have HN := Lib.hid (HF1.out ⟨by omega, H.out⟩)
          go_wp2
          go_ret2
          exact ⟨by rw [HN.out]; rfl, rfl⟩
    · have HF : Hid (flatS l c = (0, 1)) := Lib.hid (by rw [flatS, if_pos hd, if_neg (fun h => hlen h.1)])
      have f0 : ((c.length : Int) != (l.length : Int)) = true := by simp; omega
      clear hd hlen
      go_enter Try.func38, Try.ntmps38
      go_wp2_with (go_at_call 31; refine (all_calls _ _ _ _ HR.out HL.out HW.out).mono ?_; rw [HA.out]; rintro e w' ⟨rfl, rfl⟩)
      go_ret2
      exact ⟨by rw [HF.out]; rfl, rfl⟩
  · have HF : Hid (flatS l c = (0, 3)) := Lib.hid (by rw [flatS, if_neg hd])
    have HA := Lib.hid (allS_no hd)
    clear hd
    go_enter Try.func38, Try.ntmps38
    go_wp2_with (go_at_call 31; refine (all_calls _ _ _ _ HR.out HL.out HW.out).mono ?_; rw [HA.out]; rintro e w' ⟨rfl, rfl⟩)
    go_ret2
    exact ⟨by rw [HF.out]; rfl, rfl⟩
end Go.Proofs.Ytkofhmiakfmcaaa.P
