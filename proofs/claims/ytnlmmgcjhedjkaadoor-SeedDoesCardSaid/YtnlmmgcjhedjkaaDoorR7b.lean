
/- The contract of brackenref07's words. Conditions: words of their kinds; slices read as lists. -/
import Derived.Test.YtnlmmgcjhedjkaaDoorR7a
namespace Go.Proofs.YtnlmmgcjhedjkaaDoor.P
open Go.RowKit
set_option linter.unusedVariables false
set_option linter.unusedSimpArgs false
set_option maxRecDepth 100000 in
set_option maxHeartbeats 2000000 in
theorem rwrd7_calls (p : Int) (A : Option Addr) (c n : Nat) (ax : List (Int × Bool)) (B : Option Addr) (cb m : Nat) (x : List Int) (w : World) (hn : ax.length = n) (hm : x.length = m) (hp : U64 p) (hr : Row w A (axR ax)) (hl : n ≤ 8796093022208) (hw : ∀ a ∈ ax, i64 a.1) (hrx : Row w B (nums .u64 x)) (hlm : m ≤ 9223372036854775807) :
    Calls Tryd.prog 107 #[.int .u64 p, .slice A n c, .slice B m cb] w fun e w' => e = .returned (.int .i64 (wrd7 p ax x)) ∧ Below w.heap.size w w' := by
  have HP := Lib.hid hp
  have HR := Lib.hid hr
  have HRX := Lib.hid hrx
  have HN := Lib.hid hn
  have HM := Lib.hid hm
  have HW := Lib.hid hw
  have HDN : Hid ((dimsA ax).length = n) := Lib.hid (by rw [dimsA_length]; exact hn)
  have HDW := Lib.hid (dimsA_i64 hw)
  have hl2 : n ≤ 9223372036854775807 := by omega
  clear hp hr hn hw hrx hm
  by_cases hc : chk7 p ax = 0
  case neg =>
    have HF : Hid (wrd7 p ax x = chk7 p ax) := Lib.hid (by rw [wrd7, if_neg hc])
    have t0 : (chk7 p ax != 0) = true := by simpa using hc
    rw [HF.out]
    clear hc
    go_enter Tryd.func107, Tryd.ntmps107
    go_wp2_with fail
    refine (rchk7_calls _ _ _ _ _ _ HN.out HP.out HR.out hl HW.out).mono ?_
    rintro e w1 ⟨rfl, hb⟩
    have HB := Lib.hid hb
    clear hb
    go_wp2
    go_ret
    exact ⟨rfl, HB.out⟩
  have HC := Lib.hid hc
  have hk7 := chk7_ok hc
  have HA := Lib.hid (allS_yes hk7.dims)
  clear hc hk7
  by_cases he : prodL (dimsA ax) = (m : Int)
  case' neg =>
    have HF : Hid (wrd7 p ax x = 6) := Lib.hid (by rw [wrd7, if_pos HC.out, HM.out, if_neg he])
    have t1 : (prodL (dimsA ax) != (m : Int)) = true := by simpa using he
    clear he
    generalize prodL (dimsA ax) = P0 at *
  case' pos =>
    cases hin : inS p x
    case' false => have HF : Hid (wrd7 p ax x = 7) := Lib.hid (by rw [wrd7, if_pos HC.out, HM.out, if_pos he, hin]; rfl)
    case' true => have HF : Hid (wrd7 p ax x = 0) := Lib.hid (by rw [wrd7, if_pos HC.out, HM.out, if_pos he, hin]; rfl)
    all_goals
      have HIN := Lib.hid hin
      rw [he] at HA
      have t1 : ((m : Int) != (m : Int)) = false := by simp
      clear he hin
  all_goals
    rw [HF.out]
    go_enter Tryd.func107, Tryd.ntmps107
    go_wp2_with fail
    refine (rchk7_calls _ _ _ _ _ _ HN.out HP.out HR.out hl HW.out).mono ?_
    rw [HC.out]
    rintro e w1 ⟨rfl, hb⟩
    have HB := Lib.hid hb
    have HR1 := Lib.hid (HR.out.below hb)
    have HRX1 := Lib.hid (HRX.out.below hb)
    clear hb
    go_wp2_with fail
    refine (rdims7_calls _ _ _ _ _ HN.out HR1.out hl).mono ?_
    rintro e w2 ⟨D, db, rfl, ho, hb⟩
    have HB2 := Lib.hid (blT HB.out hb)
    have HRX2 := Lib.hid (HRX1.out.below hb)
    have HO := Lib.hid ho.row
    clear ho hb
    go_wp2_with fail
    refine (r05_all_n _ _ _ _ _ HDN.out HO.out hl2 HDW.out).mono ?_
    rw [HA.out]
    rintro e w3 ⟨rfl, rfl⟩
    first
      | (go_wp2
         go_ret
         exact ⟨rfl, HB2.out⟩)
      | (go_wp2_with fail
         refine (r01_in_n _ _ _ _ _ _ HM.out HRX2.out hlm).mono ?_
         rw [HIN.out]
         rintro e w4 ⟨rfl, rfl⟩
         go_wp2
         go_ret
         exact ⟨rfl, HB2.out⟩)
end Go.Proofs.YtnlmmgcjhedjkaaDoor.P
