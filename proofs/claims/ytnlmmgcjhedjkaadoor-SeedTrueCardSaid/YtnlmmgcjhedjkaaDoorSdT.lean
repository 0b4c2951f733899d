
/- The law SeedTrue, walked. Conditions: words of their kinds; the slices read as lists; the library's table lies as it was laid. -/
import Derived.Test.YtnlmmgcjhedjkaaDoorSdC
import Derived.Test.YtnlmmgcjhedjkaaDoorGrF
namespace Go.Proofs.YtnlmmgcjhedjkaaDoor.P
open Go.RowKit
set_option linter.unusedVariables false
set_option linter.unusedSimpArgs false
theorem chk9_true {p : Int} {ax : List (Int × Bool)} {inv : Bool} {x sd : List Int} (h : wrd7 p ax x = 0) (h1 : 1 ≤ sd.length) (h4 : sd.length ≤ 4) : chk9 p ax inv x (grN p ax inv x ax.length) sd = (true, 0) := by
  obtain ⟨hC, hP, hI⟩ := wrd7_ok h
  rw [chk9, if_pos h, if_pos (by rw [grN_length]), if_pos ⟨h1, h4⟩, decide_eq_true (fun r _ => expF_is hC inv hP r), grN_in hC.known ax inv hI _]
  rfl
set_option maxRecDepth 100000 in
set_option maxHeartbeats 4000000 in
theorem seedTrue_walk (p : Int) (A : Option Addr) (ca : Nat) (ax : List (Int × Bool)) (inv : Bool) (B : Option Addr) (cb : Nat) (x : List Int) (C : Option Addr) (cc : Nat) (sd : List Int) (w : World) (hp : U64 p)
    (hr : Row w A (axR ax)) (hla : ax.length * 16 ≤ 140737488351232) (hcap : ax.length ≤ ca) (hwa : ∀ a ∈ ax, (Lit.int .i64 a.1).wf = true)
    (hrx : Row w B (nums .u64 x)) (hlx : x.length * 8 ≤ 140737488351232) (hwx : ∀ d ∈ x, (Lit.int .u64 d).wf = true)
    (hrs : Row w C (nums .u64 sd)) (hls : sd.length * 8 ≤ 140737488351232) (hws : ∀ d ∈ sd, (Lit.int .u64 d).wf = true) (hT : Tab w) :
    Calls Tryd.prog 18 #[.int .u64 p, .slice A ax.length ca, .bool inv, .slice B x.length cb, .slice C sd.length cc] w fun e w' => e = .returned (.bool true) ∧ Below w.heap.size w w' := by
  have HP := Lib.hid hp
  have HR := Lib.hid hr
  have HRX := Lib.hid hrx
  have HRS := Lib.hid hrs
  have HT := Lib.hid hT
  have HW : Hid (∀ a ∈ ax, i64 a.1) := Lib.hid fun a ha => i64_wf (hwa a ha)
  have HU : Hid (∀ d ∈ x, U64 d) := Lib.hid fun d hd => u64_wf (hwx d hd)
  have HUS : Hid (∀ d ∈ sd, U64 d) := Lib.hid fun d hd => u64_wf (hws d hd)
  clear hp hr hrx hrs hT hwa hwx hws
  generalize hn : ax.length = n at *
  generalize hm : x.length = m at *
  generalize hs : sd.length = s at *
  have HN := Lib.hid hn
  have HM := Lib.hid hm
  have HS := Lib.hid hs
  have HL : Hid (n ≤ 8796093022208) := Lib.hid (by omega)
  have HLM : Hid (m ≤ 9223372036854775807) := Lib.hid (by omega)
  have HLS : Hid (s ≤ 9223372036854775807) := Lib.hid (by omega)
  clear hn hm hs hla hcap
  go_enter Tryd.func18, Tryd.ntmps18
  go_wp2_with fail
  refine (live09_calls _ HT.out).mono ?_
  rintro e w1 ⟨rfl, hb1⟩
  have HB1 := Lib.hid hb1
  clear hb1
  go_wp2_with fail
  refine (few7_calls _ _ _ ax _ _ HN.out (HR.out.below HB1.out) HL.out HW.out).mono ?_
  rintro e w2 ⟨r, rfl, hb⟩
  have HB2 := Lib.hid (blT HB1.out hb)
  clear hb
  by_cases gg : r = true ∧ ¬ 50 < m ∧ ¬ s < 1 ∧ ¬ 4 < s
  case neg =>
    cases r
    case' true =>
      by_cases g0 : 50 < m
      case' pos => have f0 : decide (50 < (m : Int)) = true := by simp; omega
      case' neg =>
        have f0 : decide (50 < (m : Int)) = false := by simp; omega
        by_cases g1 : s < 1
        case' pos => have f1 : decide ((s : Int) < 1) = true := by simp; omega
        case' neg =>
          have f1 : decide ((s : Int) < 1) = false := by simp; omega
          by_cases g2 : 4 < s
          case neg => exact absurd ⟨rfl, g0, g1, g2⟩ gg
          have f2 : decide (4 < (s : Int)) = true := by simp; omega
    all_goals
      clear gg
      go_wp2
      go_ret
      exact ⟨rfl, HB2.out⟩
  obtain ⟨rfl, g0, g1, g2⟩ := gg
  have f0 : decide (50 < (m : Int)) = false := by simp; omega
  have f1 : decide ((s : Int) < 1) = false := by simp; omega
  have f2 : decide (4 < (s : Int)) = false := by simp; omega
  by_cases hc : wrd7 p ax x = 0
  case neg =>
    have HE : Hid (grS p ax inv x = ([], wrd7 p ax x)) := Lib.hid (by rw [grS, if_neg hc])
    have HK : Hid (chk9 p ax inv x [] sd = (false, wrd7 p ax x)) := Lib.hid (by rw [chk9, if_neg hc])
    have t0 : (wrd7 p ax x == 0) = false := by simpa using hc
    have t1 : (wrd7 p ax x == wrd7 p ax x) = true := by simp
    clear hc
    generalize wrd7 p ax x = ww at *
    go_wp2_with fail
    refine (do7_calls p _ _ _ ax inv _ _ _ x _ HN.out HM.out HP.out (HR.out.below HB2.out) HL.out HW.out (HRX.out.below HB2.out) HLM.out HU.out (HT.out.below HB2.out)).mono ?_
    rw [HE.out]
    rintro e w3 ⟨Z3, z3, rfl, ho, hb⟩
    have HB3 := Lib.hid (blT HB2.out hb)
    have HRY3 : Hid (Row w3 Z3 (nums .u64 [])) := Lib.hid ho.row
    clear ho hb
    go_wp2_with fail
    refine (chk9_calls p _ _ _ ax inv _ _ _ x _ _ 0 [] _ _ _ sd _ HN.out HM.out rfl HS.out HP.out (HR.out.below HB3.out) HL.out HW.out (HRX.out.below HB3.out) HLM.out HU.out HRY3.out (by decide) (by intro d hd; simp at hd) (HRS.out.below HB3.out) HLS.out HUS.out (HT.out.below HB3.out)).mono ?_
    rw [HK.out]
    rintro e w4 ⟨rfl, hb⟩
    have HB4 := Lib.hid (blT HB3.out hb)
    have HRY4 := Lib.hid (HRY3.out.below hb)
    clear hb HRY3
    go_wp2
    go_ret
    exact ⟨by first | rfl | (simp; done), HB4.out⟩
  have HE : Hid (grS p ax inv x = (grN p ax inv x ax.length, 0)) := Lib.hid (by rw [grS, if_pos hc])
  have HK : Hid (chk9 p ax inv x (grN p ax inv x ax.length) sd = (true, 0)) := Lib.hid (chk9_true hc (by rw [HS.out]; omega) (by rw [HS.out]; omega))
  have HYL : Hid ((grN p ax inv x ax.length).length = m) := Lib.hid (by rw [grN_length]; exact HM.out)
  have HYU := Lib.hid (grN_u64 p ax inv HU.out ax.length)
  clear hc
  generalize grN p ax inv x ax.length = y at *
  go_wp2_with fail
  refine (do7_calls p _ _ _ ax inv _ _ _ x _ HN.out HM.out HP.out (HR.out.below HB2.out) HL.out HW.out (HRX.out.below HB2.out) HLM.out HU.out (HT.out.below HB2.out)).mono ?_
  rw [HE.out, show ((y, (0 : Int)).1).length = m from HYL.out]
  rintro e w3 ⟨Z3, z3, rfl, ho, hb⟩
  have HB3 := Lib.hid (blT HB2.out hb)
  have HRY3 : Hid (Row w3 Z3 (nums .u64 y)) := Lib.hid ho.row
  clear ho hb
  go_wp2_with fail
  refine (chk9_calls p _ _ _ ax inv _ _ _ x _ _ _ y _ _ _ sd _ HN.out HM.out HYL.out HS.out HP.out (HR.out.below HB3.out) HL.out HW.out (HRX.out.below HB3.out) HLM.out HU.out HRY3.out HLM.out HYU.out (HRS.out.below HB3.out) HLS.out HUS.out (HT.out.below HB3.out)).mono ?_
  rw [HK.out]
  rintro e w4 ⟨rfl, hb⟩
  have HB4 := Lib.hid (blT HB3.out hb)
  have HRY4 := Lib.hid (HRY3.out.below hb)
  clear hb HRY3
  go_wp2
  go_ret
  exact ⟨by first | rfl | (simp; done), HB4.out⟩
end Go.Proofs.YtnlmmgcjhedjkaaDoor.P
