
/- The law PlanDoes, walked. Conditions: words of their kinds; slices read as lists; the library's table lies as it was laid. -/
import Derived.Test.YtohcoidbncbijaaDoorPmB
import Derived.Test.YtohcoidbncbijaaDoorPlW
import Derived.Test.YtohcoidbncbijaaDoorPlS
import Derived.Test.YtohcoidbncbijaaDoorStU
import Derived.Test.YtohcoidbncbijaaDoorGrF
import Derived.Test.YtohcoidbncbijaaDoorRound3
namespace Go.Proofs.YtohcoidbncbijaaDoor.P
open Go.RowKit
set_option linter.unusedVariables false
set_option linter.unusedSimpArgs false
set_option maxRecDepth 100000 in
set_option maxHeartbeats 2000000 in
theorem planDoes_walk (p : Int) (A : Option Addr) (ca : Nat) (ax : List (Int × Bool)) (inv : Bool) (w : World) (hp : U64 p) (hr : Row w A (axR ax)) (hla : ax.length * 16 ≤ 140737488351232) (hcap : ax.length ≤ ca) (hwa : ∀ a ∈ ax, (Lit.int .i64 a.1).wf = true) (hT : Tab w) :
    Calls Tryd.prog 7 #[.int .u64 p, .slice A ax.length ca, .bool inv] w fun e w' => e = .returned (.bool true) ∧ Below w.heap.size w w' := by
  have HP := Lib.hid hp
  have HR := Lib.hid hr
  have HT := Lib.hid hT
  have HW : Hid (∀ a ∈ ax, i64 a.1) := Lib.hid fun a ha => i64_wf (hwa a ha)
  clear hp hr hT hwa
  generalize hn : ax.length = n at *
  have HN := Lib.hid hn
  have HL : Hid (n ≤ 8796093022208) := Lib.hid (by omega)
  clear hn hla hcap
  go_enter Tryd.func7, Tryd.ntmps7
  go_wp2_with fail
  refine (live17_calls _ HT.out).mono ?_
  rintro e w1 ⟨rfl, hb1⟩
  have HB1 := Lib.hid hb1
  clear hb1
  go_wp2_with fail
  refine (few7_calls _ _ _ ax _ _ HN.out (HR.out.below HB1.out) HL.out HW.out).mono ?_
  rintro e w2 ⟨r, rfl, hb⟩
  have HB2 := Lib.hid (blT HB1.out hb)
  clear hb HB1
  cases r
  case false =>
    go_wp2
    go_ret
    exact ⟨rfl, HB2.out⟩
  obtain ⟨L, hL⟩ : ∃ L, (stepsS p ax inv).1.length = L := ⟨_, rfl⟩
  obtain ⟨er, her⟩ : ∃ e, (stepsS p ax inv).2 = e := ⟨_, rfl⟩
  have hlen : L ≤ 56 := by
    rw [← hL]
    by_cases hc : chk7 p ax = 0
    · have hC7 := chk7_ok hc
      rw [stepsS, if_pos hc, HN.out]
      have h1 := stepsN_len hC7.smooth inv n (by rw [HN.out]; exact Nat.le_refl _)
      have h2 := hC7.dims.n4
      rw [dimsA_length, HN.out] at h2
      dsimp only
      omega
    · rw [stepsS, if_neg hc]; simp
  have HPM : Hid (∃ v0 v1 v2 : Int, ∃ m : Nat, ∃ lm : List Stp, lm.length = m ∧ m ≤ 56 ∧ (∀ w0, Row w0 A (axR ax) → Tab w0 → Calls Tryd.prog 33 #[.int .u64 p, .slice A n ca, .bool inv] w0 fun e w' => ∃ B b, e = .returned (.tuple #[.agg #[.int .i64 v0, .int .i64 v1, .int .i64 v2, .slice B m b], .int .i64 er]) ∧ Row w' B (spR lm) ∧ Below w0.heap.size w0 w') ∧
      (∀ w0, Row w0 A (axR ax) → Calls Tryd.prog 34 #[.int .u64 p, .slice A n ca, .bool inv] w0 fun e w' => ∃ B b, e = .returned (.tuple #[.agg #[.int .i64 v0, .int .i64 v1, .int .i64 v2, .slice B m b], .int .i64 er]) ∧ Row w' B (spR lm) ∧ Below w0.heap.size w0 w')) := Lib.hid (by
    by_cases hc : chk7 p ax = 0
    · have hC7 := chk7_ok hc
      have e0 : er = 0 := by rw [← her, stepsS, if_pos hc]
      have eL : (stepsN ax inv n).length ≤ 56 := by
        have h1 := stepsN_len hC7.smooth inv n (by rw [HN.out]; exact Nat.le_refl _)
        have h2 := hC7.dims.n4
        rw [dimsA_length, HN.out] at h2
        omega
      subst e0
      exact ⟨_, _, _, _, stepsN ax inv n, rfl, eL, fun w0 hr0 hT0 => pmake_yes p A ca n ax inv w0 HN.out HP.out hr0 HL.out HW.out hT0 hc, fun w0 hr0 => rmake_yes p A ca n ax inv w0 HN.out HP.out hr0 HL.out HW.out hc⟩
    · have e0 : er = chk7 p ax := by rw [← her, stepsS, if_neg hc]
      subst e0
      refine ⟨0, 0, 0, 0, [], rfl, by decide, fun w0 hr0 hT0 => (pmake_no p A ca n ax inv w0 HN.out HP.out hr0 HL.out HW.out hT0 hc).mono ?_, fun w0 hr0 => (rmake_no p A ca n ax inv w0 HN.out HP.out hr0 HL.out HW.out hc).mono ?_⟩
      · rintro e w' ⟨h1, h2⟩; exact ⟨none, 0, h1, .inl rfl, h2⟩
      · rintro e w' ⟨h1, h2⟩; exact ⟨none, 0, h1, .inl rfl, h2⟩)
  obtain ⟨v0, v1, v2, m, lm, hlm, hm56, hpm, hrm⟩ := HPM.out
  have HL2 := Lib.hid hL
  have HER := Lib.hid her
  have HLM := Lib.hid hlm
  have HPM2 := Lib.hid hpm
  have HRM2 := Lib.hid hrm
  clear hL her hlm hpm hrm HPM
  go_wp2_with fail
  refine (psteps_calls p A _ n ax inv w2 HN.out HP.out (HR.out.below HB2.out) HL.out HW.out (HT.out.below HB2.out)).mono ?_
  rw [HL2.out, HER.out]
  rintro e w3 ⟨B1, c1, rfl, ho, hb⟩
  have HB3 := Lib.hid (blT HB2.out hb)
  have HR1 := Lib.hid ho.row
  clear ho hb
  dsimp only
  go_wp2_with fail
  refine (r17steps_calls p A _ n ax inv w3 HN.out HP.out (HR.out.below HB3.out) HL.out HW.out).mono ?_
  rw [HL2.out, HER.out]
  rintro e w4 ⟨B2, c2, rfl, ho, hb⟩
  have HB4 := Lib.hid (blT HB3.out hb)
  have HR14 := Lib.hid (HR1.out.below hb)
  have HR2 := Lib.hid ho.row
  clear ho hb
  dsimp only
  go_wp2_with fail
  refine (HPM2.out w4 (HR.out.below HB4.out) (HT.out.below HB4.out)).mono ?_
  rintro e w5 ⟨B3, c3, rfl, hr3, hb⟩
  have HB5 := Lib.hid (blT HB4.out hb)
  have HR15 := Lib.hid (HR14.out.below hb)
  have HR25 := Lib.hid (HR2.out.below hb)
  have HR3 := Lib.hid hr3
  have hbA : Below w5.heap.size w5 (w5.alloc (.cells #[.int .i64 v0, .int .i64 v1, .int .i64 v2, .slice B3 m c3] 54)) := (Below.refl _ _).alloc (Nat.le_refl _) _
  have HX3 : Hid (Row (w5.alloc (.cells #[.int .i64 v0, .int .i64 v1, .int .i64 v2, .slice B3 m c3] 54)) (some ⟨w5.heap.size, 0, none⟩) [.int .i64 v0, .int .i64 v1, .int .i64 v2, .slice B3 m c3]) := Lib.hid (row_new w5 [.int .i64 v0, .int .i64 v1, .int .i64 v2, .slice B3 m c3] _)
  have HBA := Lib.hid hbA
  clear hr3 hb hbA
  dsimp only
  go_wp2_with fail
  have HB6 := Lib.hid (blT HB5.out HBA.out)
  have HR16 := Lib.hid (HR15.out.below HBA.out)
  have HR26 := Lib.hid (HR25.out.below HBA.out)
  have HR36 := Lib.hid (HR3.out.below HBA.out)
  generalize (w5.alloc (.cells #[.int .i64 v0, .int .i64 v1, .int .i64 v2, .slice B3 m c3] 54)) = w6 at *
  generalize w5.heap.size = b3 at *
  refine (HRM2.out w6 (HR.out.below HB6.out)).mono ?_
  rintro e w7 ⟨B4, c4, rfl, hr4, hb⟩
  have HB7 := Lib.hid (blT HB6.out hb)
  have HR17 := Lib.hid (HR16.out.below hb)
  have HR27 := Lib.hid (HR26.out.below hb)
  have HR37 := Lib.hid (HR36.out.below hb)
  have HX37 := Lib.hid (HX3.out.below hb)
  have HR4 := Lib.hid hr4
  have hbA : Below w7.heap.size w7 (w7.alloc (.cells #[.int .i64 v0, .int .i64 v1, .int .i64 v2, .slice B4 m c4] 54)) := (Below.refl _ _).alloc (Nat.le_refl _) _
  have HX4 : Hid (Row (w7.alloc (.cells #[.int .i64 v0, .int .i64 v1, .int .i64 v2, .slice B4 m c4] 54)) (some ⟨w7.heap.size, 0, none⟩) [.int .i64 v0, .int .i64 v1, .int .i64 v2, .slice B4 m c4]) := Lib.hid (row_new w7 [.int .i64 v0, .int .i64 v1, .int .i64 v2, .slice B4 m c4] _)
  have HBA := Lib.hid hbA
  clear hr4 hb hbA
  dsimp only
  go_wp2_with fail
  have HB8 := Lib.hid (blT HB7.out HBA.out)
  have HR18 := Lib.hid (HR17.out.below HBA.out)
  have HR28 := Lib.hid (HR27.out.below HBA.out)
  have HR38 := Lib.hid (HR37.out.below HBA.out)
  have HR48 := Lib.hid (HR4.out.below HBA.out)
  have HX38 := Lib.hid (HX37.out.below HBA.out)
  generalize (w7.alloc (.cells #[.int .i64 v0, .int .i64 v1, .int .i64 v2, .slice B4 m c4] 54)) = w8 at *
  generalize w7.heap.size = b4 at *
  refine (sameSteps_eq B1 B2 c1 c2 L _ w8 HL2.out HR18.out HR28.out (by omega)).mono ?_
  rintro e w9 ⟨rfl, ⟨q9, rfl⟩⟩
  have hd9 := below_drewN (Below.refl w8.heap.size w8) q9
  have HB9 := Lib.hid (blT HB8.out hd9)
  have HR39 := Lib.hid (HR38.out.below hd9)
  have HR49 := Lib.hid (HR48.out.below hd9)
  have HX39 := Lib.hid (HX38.out.below hd9)
  have HX49 := Lib.hid (HX4.out.below hd9)
  clear hd9
  generalize w8.drewN q9 = w9 at *
  have x0 : w9.cell? ⟨b3, 0, none⟩ = some (.int .i64 v0) := HX39.out.cell (i := 0) rfl
  have x1 : w9.cell? ⟨b3, 1, none⟩ = some (.int .i64 v1) := HX39.out.cell (i := 1) rfl
  have x2 : w9.cell? ⟨b3, 2, none⟩ = some (.int .i64 v2) := HX39.out.cell (i := 2) rfl
  have x3 : w9.cell? ⟨b3, 3, none⟩ = some (.slice B3 m c3) := HX39.out.cell (i := 3) rfl
  have y0 : w9.cell? ⟨b4, 0, none⟩ = some (.int .i64 v0) := HX49.out.cell (i := 0) rfl
  have y1 : w9.cell? ⟨b4, 1, none⟩ = some (.int .i64 v1) := HX49.out.cell (i := 1) rfl
  have y2 : w9.cell? ⟨b4, 2, none⟩ = some (.int .i64 v2) := HX49.out.cell (i := 2) rfl
  have y3 : w9.cell? ⟨b4, 3, none⟩ = some (.slice B4 m c4) := HX49.out.cell (i := 3) rfl
  go_wp2_with fail
  refine (samePlan_eq v0 v1 v2 B3 B4 c3 c4 m lm w9 HLM.out HR39.out HR49.out (by omega)).mono ?_
  rintro e w10 ⟨rfl, hb⟩
  have HB10 := Lib.hid (blT HB9.out hb)
  clear hb x0 x1 x2 x3 y0 y1 y2 y3
  go_wp2
  go_ret
  exact ⟨by first | rfl | (simp; done), HB10.out⟩
end Go.Proofs.YtohcoidbncbijaaDoor.P
