/- The law ShapeDoes, walked. Conditions: words of their kinds; slices read as lists. -/
import Derived.Test.YtkofhmiakfmcaaaRef05d
import Derived.Test.YtkofhmiakfmcaaaApp2
namespace Go.Proofs.Ytkofhmiakfmcaaa.P
open Go.RowKit
set_option linter.unusedVariables false
set_option linter.unusedSimpArgs false
set_option maxRecDepth 100000 in
theorem shapeDoes_walk (A : Option Addr) (ca : Nat) (l : List Int) (B : Option Addr) (cb : Nat) (m : List Int) (i a k : Int) (w : World)
    (hr : Row w A (nums .i64 l)) (hy : l.length * 8 ≤ 140737488351232) (hcap : l.length ≤ ca) (hw : ∀ x ∈ l, (Lit.int .i64 x).wf = true)
    (hrm : Row w B (nums .i64 m)) (hym : m.length * 8 ≤ 140737488351232) (hcapm : m.length ≤ cb) (hwm : ∀ x ∈ m, (Lit.int .i64 x).wf = true) (hi : i64 i) (ha : i64 a) (hk : i64 k) :
    Calls Try.prog 5 #[.slice A l.length ca, .slice B m.length cb, .int .i64 i, .int .i64 a, .int .i64 k] w fun e w' => e = .returned (.bool true) ∧ Below w.heap.size w w' := by
  have HR := Lib.hid hr
  have HW := Lib.hid (i64_all hw)
  have HRM := Lib.hid hrm
  have HWM := Lib.hid (i64_all hwm)
  have HI := Lib.hid hi
  have HAA := Lib.hid ha
  have HK := Lib.hid hk
  have HL : Hid (l.length ≤ 9223372036854775807) := Lib.hid (by omega)
  have HLM : Hid (m.length ≤ 9223372036854775807) := Lib.hid (by omega)
  clear hr hw hrm hwm hi ha hk
  go_enter Try.func5, Try.ntmps5
  go_wp2_with fail
  refine (live05_calls _).mono ?_
  rintro e w1 ⟨rfl, hb1⟩
  have HB1 := Lib.hid hb1
  have HR1 := Lib.hid (HR.out.below hb1)
  have HRM1 := Lib.hid (HRM.out.below hb1)
  clear hb1 HR HRM
  by_cases g0 : 10 < l.length ∨ 10 < m.length
  · by_cases g1 : 10 < l.length
    · have f0 : decide (10 < (l.length : Int)) = true := by simp; omega
      clear g0 g1
      go_wp2
      go_ret
      exact ⟨rfl, HB1.out⟩
    · have f0 : decide (10 < (l.length : Int)) = false := by simp; omega
      have f1 : decide (10 < (m.length : Int)) = true := by simp; omega
      clear g0 g1
      go_wp2
      go_ret
      exact ⟨rfl, HB1.out⟩
  have f0 : decide (10 < (l.length : Int)) = false := by simp; omega
  have f1 : decide (10 < (m.length : Int)) = false := by simp; omega
  have hl10 : l.length ≤ 10 := by omega
  clear g0
  go_wp2_with (at_builtin; refine append_any _ Try.underlying22 info_int rfl _ _ rfl w1.heap.size 0 0 l.length ca none A [] l rfl rfl (Own.nil _ _ _ _) HR1.out rfl (Nat.le_refl _) (by omega) (by omega) ?_; intro V cv w2 hown hbel hgrow)
  have HO2 : Hid (Own w2 w1.heap.size 3 1 V l.length cv (nums .i64 l)) := Lib.hid (by simpa using hown)
  have HB2 : Hid (Below w.heap.size w w2) := Lib.hid (HB1.out.trans (hbel.mono HB1.out.size))
  have HR2 := Lib.hid (HR1.out.below hbel)
  have HRM2 := Lib.hid (HRM1.out.below hbel)
  clear hown hbel hgrow HB1 HR1 HRM1
  refine (all_calls _ _ _ _ HR2.out HL.out HW.out).mono ?_
  rintro e w3 ⟨rfl, rfl⟩
  go_wp2_with fail
  refine (r05_all _ _ _ _ HR2.out HL.out HW.out).mono ?_
  rintro e w4 ⟨rfl, rfl⟩
  go_wp2_with fail
  refine (coord_calls _ _ _ _ _ HR2.out HL.out HW.out HI.out).mono ?_
  rintro e w5 ⟨C, cc, rfl, ho5, hb5⟩
  have HR5 := Lib.hid (HR2.out.below hb5)
  have HRM5 := Lib.hid (HRM2.out.below hb5)
  have HO5 := Lib.hid (HO2.out.grown hb5)
  have HP5 := Lib.hid ho5
  have HB5 : Hid (Below w.heap.size w w5) := Lib.hid (HB2.out.trans (hb5.mono HB2.out.size))
  clear ho5 hb5 HR2 HRM2 HO2 HB2
  go_wp2_with fail
  refine (r05_coord _ _ _ _ _ HR5.out HL.out hcap HW.out HI.out).mono ?_
  rintro e w6 ⟨D, cd, rfl, ho6, hb6⟩
  have HR6 := Lib.hid (HR5.out.below hb6)
  have HRM6 := Lib.hid (HRM5.out.below hb6)
  have HO6 := Lib.hid (HO5.out.grown hb6)
  have HP6 := Lib.hid (HP5.out.grown hb6)
  have HQ6 := Lib.hid ho6
  have HB6 : Hid (Below w.heap.size w w6) := Lib.hid (HB5.out.trans (hb6.mono HB5.out.size))
  clear ho6 hb6 HR5 HRM5 HO5 HP5 HB5
  go_wp2_with fail
  refine (flat_calls _ _ _ _ l m _ HR6.out HL.out HW.out HRM6.out HLM.out HWM.out).mono ?_
  rintro e w7 ⟨rfl, rfl⟩
  go_wp2_with fail
  refine (r05_flat _ _ _ _ l m _ HR6.out HL.out hcap HW.out HRM6.out HLM.out HWM.out).mono ?_
  rintro e w8 ⟨rfl, rfl⟩
  go_wp2_with fail
  refine (inner_calls _ _ _ _ _ HR6.out HL.out hcap HW.out HAA.out).mono ?_
  rintro e w9 ⟨rfl, rfl⟩
  go_wp2_with fail
  refine (r05_inner _ _ _ _ _ HR6.out HL.out hcap HW.out HAA.out).mono ?_
  rintro e w10 ⟨rfl, rfl⟩
  go_wp2_with fail
  refine (line_calls _ _ l a k _ HR6.out HL.out hcap HW.out HAA.out HK.out).mono ?_
  rintro e w11 ⟨E, ce, rfl, ho11, hb11⟩
  have HR11 := Lib.hid (HR6.out.below hb11)
  have HO11 := Lib.hid (HO6.out.grown hb11)
  have HP11 := Lib.hid (HP6.out.grown hb11)
  have HQ11 := Lib.hid (HQ6.out.grown hb11)
  have HU11 := Lib.hid ho11
  have HB11 : Hid (Below w.heap.size w w11) := Lib.hid (HB6.out.trans (hb11.mono HB6.out.size))
  clear ho11 hb11 HR6 HRM6 HO6 HP6 HQ6 HB6
  go_wp2_with fail
  refine (r05_line _ _ l a k _ HR11.out HL.out hcap HW.out HAA.out HK.out).mono ?_
  rintro e w12 ⟨F, cf, rfl, ho12, hb12⟩
  have HR12 := Lib.hid (HR11.out.below hb12)
  have HO12 := Lib.hid (HO11.out.grown hb12)
  have HP12 := Lib.hid (HP11.out.grown hb12)
  have HQ12 := Lib.hid (HQ11.out.grown hb12)
  have HU12 := Lib.hid (HU11.out.grown hb12)
  have HV12 := Lib.hid ho12
  have HB12 : Hid (Below w.heap.size w w12) := Lib.hid (HB11.out.trans (hb12.mono HB11.out.size))
  have HC1 : Hid ((coordS l i).1.length ≤ 9223372036854775807) := Lib.hid (by have := HP12.out.cap; omega)
  have HC2 : Hid ((lineS l a k).1.length ≤ 9223372036854775807) := Lib.hid (by have := HU12.out.cap; omega)
  clear ho12 hb12 HR11 HO11 HP11 HQ11 HU11 HB11
  go_wp2_with fail
  refine (sameInts_calls _ _ _ _ (coordS l i).1 (coordS l i).1 _ HP12.out.row HC1.out HQ12.out.row).mono ?_
  rw [show decide ((coordS l i).1 = (coordS l i).1) = true from decide_eq_true rfl]
  rintro e w13 ⟨rfl, ⟨q1, rfl⟩⟩
  go_wp2_with fail
  refine (sameInts_calls _ _ _ _ (lineS l a k).1 (lineS l a k).1 _ (HU12.out.row.drewN q1) HC2.out (HV12.out.row.drewN q1)).mono ?_
  rw [show decide ((lineS l a k).1 = (lineS l a k).1) = true from decide_eq_true rfl]
  rintro e w14 ⟨rfl, ⟨q2, rfl⟩⟩
  go_wp2_with fail
  refine (sameInts_calls _ _ _ _ l l _ (HR12.out.drewN (q1 + q2)) HL.out (HO12.out.row.drewN (q1 + q2))).mono ?_
  rw [show decide (l = l) = true from decide_eq_true rfl]
  rintro e w15 ⟨rfl, ⟨q3, rfl⟩⟩
  go_wp2
  go_ret
  exact ⟨by first | rfl | (simp; done), below_drewN HB12.out _⟩
end Go.Proofs.Ytkofhmiakfmcaaa.P
