/- The law FlyBack, walked. Conditions: words of their kinds; the slice reads as a list. -/
import Derived.Test.YtkofhmiakfmcaaaFlyW
import Derived.Deep.QuietTactic
namespace Go.Proofs.Ytkofhmiakfmcaaa.P
open Go.RowKit
set_option linter.unusedVariables false
set_option linter.unusedSimpArgs false
theorem ptsS_not (p r : Int) (inv : Bool) : (ptsS p r (!inv)).2 = (ptsS p r inv).2 := by
  unfold ptsS
  split
  · split
    · split <;> rfl
    · rfl
  · rfl
theorem doS_is {p : Int} {inv : Bool} {x : List Int} (h : (ptsS p x.length inv).2 = 0) (hin : inS p x = true) : doS p inv x = (doL p (turnS p x.length inv) x, 0) := by
  rw [doS, if_pos h, if_pos hin]
theorem doS_back {p : Int} {inv : Bool} {x : List Int} (h : (doS p inv x).2 = 0) : doS p (!inv) (doL p (turnS p x.length inv) x) = (x.map (fun a => mulS p a x.length), 0) := by
  obtain ⟨ho, hin, _⟩ := doS_len p inv x h
  obtain ⟨N, hN, _, _, hT, _, _⟩ := ptsS_ok ho
  have hN2 : x.length = N := by omega
  subst hN2
  rw [doS_is (by rw [doL_length, ptsS_not]; exact ho) (doL_in hT.known _ _), doL_length]
  congr 1
  apply List.ext_getElem
  · rw [doL_length, doL_length, List.length_map]
  · intro s h1 h2
    have hs : s < x.length := by rw [List.length_map] at h2; exact h2
    rw [← getD_of h1 0, doL_at _ _ _ (by rw [doL_length]; exact hs), hT.back hs, getD_of hs, List.getElem_map]
set_option maxRecDepth 100000 in
theorem flyBack_walk (p : Int) (inv : Bool) (A : Option Addr) (ca : Nat) (x : List Int) (w : World) (hp : U64 p)
    (hr : Row w A (nums .u64 x)) (hy : x.length * 8 ≤ 140737488351232) (hw : ∀ d ∈ x, (Lit.int .u64 d).wf = true) :
    Calls Try.prog 24 #[.int .u64 p, .bool inv, .slice A x.length ca] w fun e w' => e = .returned (.bool true) ∧ Below w.heap.size w w' := by
  have HP := Lib.hid hp
  have HR := Lib.hid hr
  have HL : Hid (x.length ≤ 9223372036854775807) := Lib.hid (by omega)
  have HW : Hid (∀ d ∈ x, U64 d) := Lib.hid fun d hd => u64_wf (hw d hd)
  clear hp hr hw
  go_enter Try.func24, Try.ntmps24
  go_wp2_with fail
  refine (live15_calls _).mono ?_
  rintro e w1 ⟨rfl, hb1⟩
  have HB1 := Lib.hid hb1
  have HR1 := Lib.hid (HR.out.below hb1)
  clear hb1
  by_cases g0 : 12 < x.length
  · have f0 : decide (12 < (x.length : Int)) = true := by simp; omega
    clear g0
    go_wp2
    go_ret
    exact ⟨rfl, HB1.out⟩
  have f0 : decide (12 < (x.length : Int)) = false := by simp; omega
  go_wp2_with fail
  refine (do_calls p inv _ _ x _ HP.out HR1.out HL.out HW.out).mono ?_
  by_cases hd : (doS p inv x).2 = 0
  case neg =>
    have HN : Hid ((doS p inv x).1 = []) := Lib.hid (doS_no p inv x hd)
    have t0 : ((doS p inv x).2 != 0) = true := by simpa using hd
    rw [HN.out]
    rintro e w2 ⟨Y, cy, rfl, ho2, hb2⟩
    have HB2 : Hid (Below w.heap.size w w2) := Lib.hid (blC HB1.out hb2)
    clear ho2 hb2 hd
    go_wp2
    go_ret
    exact ⟨by first | rfl | (simp; done), HB2.out⟩
  obtain ⟨ho, hin, e0⟩ := doS_len p inv x hd
  obtain ⟨N, hN, h2, h5, hT, hU, _⟩ := ptsS_ok ho
  have hx2 : 2 ≤ x.length := by omega
  have hx5 : x.length ≤ 5 := by omega
  have HBK := Lib.hid (doS_back hd)
  have HDL : Hid ((doL p (turnS p x.length inv) x).length = x.length) := Lib.hid (doL_length _ _ _)
  have HDU := Lib.hid (doL_u64 p (turnS p x.length inv) x)
  have HIN := Lib.hid (doL_in hT.known (turnS p x.length inv) x)
  rw [e0]
  rintro e w2 ⟨Y, cy, rfl, ho2, hb2⟩
  have HB2 : Hid (Below w.heap.size w w2) := Lib.hid (blC HB1.out hb2)
  have HRY : Hid (Row w2 Y (nums .u64 (doL p (turnS p x.length inv) x))) := Lib.hid ho2.row
  have HR2 := Lib.hid (HR1.out.below hb2)
  rw [show ((doL p (turnS p x.length inv) x, (0 : Int)).1.length) = x.length from HDL.out]
  generalize doL p (turnS p x.length inv) x = d at *
  clear ho2 hb2 hd ho hin e0 hN hT hU HB1 HR1
  go_wp2_with fail
  have hcall := do_calls p (!inv) Y cy d w2 HP.out HRY.out (by rw [HDL.out]; exact HL.out) HDU.out
  rw [HBK.out, HDL.out, show ((x.map (fun a => mulS p a x.length), (0 : Int)).1) = x.map (fun a => mulS p a x.length) from rfl, List.length_map] at hcall
  refine hcall.mono ?_
  clear hcall
  rintro e w3 ⟨Z, cz, rfl, ho3, hb3⟩
  have HB3 : Hid (Below w.heap.size w w3) := Lib.hid (blC HB2.out hb3)
  have HRZ : Hid (Row w3 Z (nums .u64 (x.map (fun a => mulS p a x.length)))) := Lib.hid ho3.row
  have HRY3 := Lib.hid (HRY.out.below hb3)
  have HR3 := Lib.hid (HR2.out.below hb3)
  clear ho3 hb3
  obtain ⟨y, rfl⟩ := HR3.out.some_of (by intro h0; have h1 := nums_length .u64 x; rw [h0] at h1; simp at h1; omega)
  obtain ⟨z, rfl⟩ := HRZ.out.some_of (by intro h0; have h1 := nums_length .u64 (x.map (fun a => mulS p a x.length)); rw [h0] at h1; simp at h1; omega)
  go_wp2_with fail
  have hcall := in_calls p Y cy d w3 HRY3.out (by rw [HDL.out]; exact HL.out)
  rw [HIN.out, HDL.out] at hcall
  refine hcall.mono ?_
  clear hcall
  rintro e w4 ⟨rfl, rfl⟩
  go_wp2
  go_loopw [62] (fun i wr => ∃ k : Nat, k ≤ x.length ∧ i = .int .i64 k ∧ Hid (Below w4.heap.size w4 wr)) (fun i _ => x.length - (intOf i).toNat)
  case atStart => exact ⟨0, Nat.zero_le _, rfl, Lib.hid (Below.refl _ _)⟩
  case round =>
    obtain ⟨k, hk, rfl, HB5⟩ := hrel
    by_cases hlt : k < x.length
    · have hc1 := (HR3.out.below HB5.out).num hlt
      have hc2 : wr.cell? (z.add k) = some (.int .u64 (mulS p x[k] x.length)) := by
        have h1 := (HRZ.out.below HB5.out).num (i := k) (by simpa using hlt)
        rw [h1, List.getElem_map]
      have HU1 : Hid (U64 x[k]) := Lib.hid (HW.out _ (List.getElem_mem hlt))
      have HU2 : Hid (U64 (x.length : Int)) := Lib.hid ⟨by omega, by omega⟩
      generalize x[k] = a at *
      go_wp2
      go_quiet ((go_at_call 44; exact Calls.quiet_of (mul_calls _ _ _ _ HP.out HU1.out HU2.out)))
      go_wp2
      go_roundw
      case rel => exact ⟨k + 1, by omega, by go_num, Lib.hid (below_drewN HB5.out nq)⟩
      case measure => simp [intOf]; omega
    · go_wp2
      go_ret
      exact ⟨by first | rfl | (simp; done), blC HB3.out HB5.out⟩
end Go.Proofs.Ytkofhmiakfmcaaa.P
