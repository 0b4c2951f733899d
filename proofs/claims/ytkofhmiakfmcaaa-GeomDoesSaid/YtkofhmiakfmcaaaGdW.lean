/- The law GeomDoes, walked. Conditions: words of their kinds; the slices read as lists. -/
import Derived.Test.YtkofhmiakfmcaaaRef08
namespace Go.Proofs.Ytkofhmiakfmcaaa.P
open Go.RowKit
set_option linter.unusedVariables false
set_option linter.unusedSimpArgs false
set_option maxRecDepth 100000 in
set_option maxHeartbeats 2000000 in
theorem geomDoes_walk (p z i : Int) (A : Option Addr) (ca : Nat) (l : List Int) (C : Option Addr) (cc : Nat) (ss : List Int) (w : World) (hp : U64 p) (hz : U64 z) (hi : i64 i)
    (hr : Row w A (nums .u64 l)) (hy : l.length * 8 ≤ 140737488351232) (hca : l.length ≤ ca) (hw : ∀ d ∈ l, (Lit.int .u64 d).wf = true) (hrs : Row w C (nums .u64 ss)) (hys : ss.length * 8 ≤ 140737488351232) (hcc : ss.length ≤ cc) (hws : ∀ d ∈ ss, (Lit.int .u64 d).wf = true) :
    Calls Try.prog 22 #[.int .u64 p, .int .u64 z, .int .i64 i, .slice A l.length ca, .slice C ss.length cc] w fun e w' => e = .returned (.bool true) ∧ Below w.heap.size w w' := by
  have HP := Lib.hid hp
  have HZ := Lib.hid hz
  have HR := Lib.hid hr
  have HW : Hid (∀ d ∈ l, U64 d) := Lib.hid fun d hd => u64_wf (hw d hd)
  have HRS := Lib.hid hrs
  have HWS : Hid (∀ d ∈ ss, U64 d) := Lib.hid fun d hd => u64_wf (hws d hd)
  clear hp hr hw hrs hws hz
  generalize hn : l.length = n at *
  generalize hm : ss.length = m at *
  have HN := Lib.hid hn
  have HM := Lib.hid hm
  have HL : Hid (n ≤ 9223372036854775807) := Lib.hid (by omega)
  have HLM : Hid (m ≤ 9223372036854775807) := Lib.hid (by omega)
  have HCC := Lib.hid hcc
  clear hn hm hca hcc
  go_enter Try.func22, Try.ntmps22
  go_wp2_with fail
  refine (live08_calls _).mono ?_
  rintro e w1 ⟨rfl, ⟨q0, rfl⟩⟩
  have HB1 : Hid (Below w.heap.size w (w.drewN q0)) := Lib.hid (below_drewN (Below.refl _ _) _)
  have HR1 := Lib.hid (HR.out.drewN q0)
  have HRS1 := Lib.hid (HRS.out.drewN q0)
  generalize w.drewN q0 = w1 at *
  by_cases c1 : 40 < n ∧ n ≤ 65536
  · have a1 : decide (40 < (n : Int)) = true := by simp; omega
    have a2 : decide ((n : Int) ≤ 65536) = true := by simp; omega
    clear c1
    go_wp2
    go_ret
    exact ⟨rfl, HB1.out⟩
  by_cases c2 : 65540 < n
  · have a1 : decide (40 < (n : Int)) = true := by simp; omega
    have a2 : decide ((n : Int) ≤ 65536) = false := by simp; omega
    have a3 : decide (65540 < (n : Int)) = true := by simp; omega
    clear c1 c2
    go_wp2
    go_ret
    exact ⟨rfl, HB1.out⟩
  have a3 : decide (65540 < (n : Int)) = false := by simp; omega
  have hnn : ∃ b1 b2 : Bool, decide (40 < (n : Int)) = b1 ∧ decide ((n : Int) ≤ 65536) = b2 ∧ ((b1 = false ∧ b2 = true) ∨ (b1 = true ∧ b2 = false)) := by
    by_cases h : 40 < n
    · exact ⟨true, false, by simp; omega, by simp; omega, .inr ⟨rfl, rfl⟩⟩
    · exact ⟨false, true, by simp; omega, by simp; omega, .inl ⟨rfl, rfl⟩⟩
  by_cases c3 : 40 < m
  · have a4 : decide (40 < (m : Int)) = true := by simp; omega
    obtain ⟨b1, b2, a1, a2, ⟨rfl, rfl⟩ | ⟨rfl, rfl⟩⟩ := hnn
    all_goals
      clear c1 c2 c3
      go_wp2
      go_ret
      exact ⟨rfl, HB1.out⟩
  have a4 : decide (40 < (m : Int)) = false := by simp; omega
  by_cases c4 : 400 < i ∧ i ≤ 65536
  · have a5 : decide (400 < i) = true := by simp; omega
    have a6 : decide (i ≤ 65536) = true := by simp; omega
    obtain ⟨b1, b2, a1, a2, ⟨rfl, rfl⟩ | ⟨rfl, rfl⟩⟩ := hnn
    all_goals
      clear c1 c2 c3 c4
      go_wp2
      go_ret
      exact ⟨rfl, HB1.out⟩
  have hii : ∃ b1 b2 : Bool, decide (400 < i) = b1 ∧ decide (i ≤ 65536) = b2 ∧ ((b1 = false ∧ b2 = true) ∨ (b1 = true ∧ b2 = false)) := by
    by_cases h : 400 < i
    · exact ⟨true, false, by simp; omega, by simp; omega, .inr ⟨rfl, rfl⟩⟩
    · exact ⟨false, true, by simp; omega, by simp; omega, .inl ⟨rfl, rfl⟩⟩
  obtain ⟨b1, b2, a1, a2, ⟨rfl, rfl⟩ | ⟨rfl, rfl⟩⟩ := hnn
  all_goals
    obtain ⟨b3, b4, a5, a6, ⟨rfl, rfl⟩ | ⟨rfl, rfl⟩⟩ := hii
  all_goals
    clear c1 c2 c3 c4 hi
    go_wp2_with fail
    refine (sum_calls p z i _ HP.out HZ.out).mono ?_
    rintro e w2 ⟨rfl, ⟨q2, rfl⟩⟩
    have HB2 : Hid (Below w.heap.size w (w1.drewN q2)) := Lib.hid (below_drewN HB1.out _)
    have HR2 := Lib.hid (HR1.out.drewN q2)
    have HRS2 := Lib.hid (HRS1.out.drewN q2)
    generalize w1.drewN q2 = w2 at *
    go_wp2_with fail
    refine (r08_sum p z i _ HP.out HZ.out).mono ?_
    rintro e w3 ⟨rfl, hb3⟩
    have HB3 : Hid (Below w.heap.size w w3) := Lib.hid (blE HB2.out hb3)
    have HR3 := Lib.hid (HR2.out.below hb3)
    have HRS3 := Lib.hid (HRS2.out.below hb3)
    clear hb3
    go_wp2_with fail
    refine (eval_n p z A n ca l _ HN.out HP.out HZ.out HR3.out HL.out HW.out).mono ?_
    rintro e w4 ⟨rfl, hb4⟩
    have HB4 : Hid (Below w.heap.size w w4) := Lib.hid (blE HB3.out hb4)
    have HR4 := Lib.hid (HR3.out.below hb4)
    have HRS4 := Lib.hid (HRS3.out.below hb4)
    clear hb4
    go_wp2_with fail
    refine (r08_eval p z A n ca l _ HN.out HP.out HZ.out HR4.out HL.out HW.out).mono ?_
    rintro e w5 ⟨rfl, ⟨q5, rfl⟩⟩
    have HB5 : Hid (Below w.heap.size w (w4.drewN q5)) := Lib.hid (below_drewN HB4.out _)
    have HR5 := Lib.hid (HR4.out.drewN q5)
    have HRS5 := Lib.hid (HRS4.out.drewN q5)
    generalize w4.drewN q5 = w5 at *
    go_wp2_with fail
    refine (roots_calls p A C n ca m cc l ss _ HN.out HM.out HP.out HR5.out HL.out HW.out HRS5.out HLM.out HWS.out).mono ?_
    rintro e w6 ⟨rfl, hb6⟩
    have HB6 : Hid (Below w.heap.size w w6) := Lib.hid (blE HB5.out hb6)
    have HR6 := Lib.hid (HR5.out.below hb6)
    have HRS6 := Lib.hid (HRS5.out.below hb6)
    clear hb6
    go_wp2_with fail
    refine (r08_roots p A C n ca m cc l ss _ HN.out HM.out HP.out HR6.out HL.out HW.out HRS6.out HLM.out HCC.out HWS.out).mono ?_
    rintro e w7 ⟨rfl, ⟨q7, rfl⟩⟩
    go_wp2
    go_ret
    exact ⟨by first | rfl | (simp; done), below_drewN HB6.out _⟩
end Go.Proofs.Ytkofhmiakfmcaaa.P
