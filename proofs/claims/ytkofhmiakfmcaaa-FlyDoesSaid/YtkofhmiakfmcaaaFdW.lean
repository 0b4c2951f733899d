/- The law FlyDoes, walked. Conditions: words of their kinds; the slices read as lists. -/
import Derived.Test.YtkofhmiakfmcaaaFlyR
namespace Go.Proofs.Ytkofhmiakfmcaaa.P
open Go.RowKit
set_option linter.unusedVariables false
set_option linter.unusedSimpArgs false
set_option maxRecDepth 100000 in
set_option maxHeartbeats 2000000 in
theorem flyDoes_walk (p r : Int) (inv : Bool) (A : Option Addr) (ca : Nat) (x : List Int) (B : Option Addr) (cb : Nat) (v : List Int) (w : World) (hp : U64 p) (hri : i64 r)
    (hr : Row w A (nums .u64 x)) (hy : x.length * 8 ≤ 140737488351232) (hw : ∀ d ∈ x, (Lit.int .u64 d).wf = true) (hrv : Row w B (nums .u64 v)) (hyv : v.length * 8 ≤ 140737488351232) (hwv : ∀ d ∈ v, (Lit.int .u64 d).wf = true) :
    Calls Try.prog 28 #[.int .u64 p, .int .i64 r, .bool inv, .slice A x.length ca, .slice B v.length cb] w fun e w' => e = .returned (.bool true) ∧ Below w.heap.size w w' := by
  have HP := Lib.hid hp
  have HI := Lib.hid hri
  have HR := Lib.hid hr
  have HW : Hid (∀ d ∈ x, U64 d) := Lib.hid fun d hd => u64_wf (hw d hd)
  have HRV := Lib.hid hrv
  have HWV : Hid (∀ d ∈ v, U64 d) := Lib.hid fun d hd => u64_wf (hwv d hd)
  clear hp hr hw hrv hwv hri
  generalize hn : x.length = n at *
  generalize hm : v.length = m at *
  have HN := Lib.hid hn
  have HM := Lib.hid hm
  have HL : Hid (n ≤ 9223372036854775807) := Lib.hid (by omega)
  have HLM : Hid (m ≤ 9223372036854775807) := Lib.hid (by omega)
  clear hn hm
  go_enter Try.func28, Try.ntmps28
  go_wp2_with fail
  refine (live15_calls _).mono ?_
  rintro e w1 ⟨rfl, hb1⟩
  have HB1 := Lib.hid hb1
  have HR1 := Lib.hid (HR.out.below hb1)
  have HRV1 := Lib.hid (HRV.out.below hb1)
  clear hb1
  by_cases g0 : 12 < n ∨ 12 < m
  · by_cases g1 : 12 < n
    · have f0 : decide (12 < (n : Int)) = true := by simp; omega
      clear g0 g1
      go_wp2
      go_ret
      exact ⟨rfl, HB1.out⟩
    · have f0 : decide (12 < (n : Int)) = false := by simp; omega
      have f1 : decide (12 < (m : Int)) = true := by simp; omega
      clear g0 g1
      go_wp2
      go_ret
      exact ⟨rfl, HB1.out⟩
  have f0 : decide (12 < (n : Int)) = false := by simp; omega
  have f1 : decide (12 < (m : Int)) = false := by simp; omega
  have hn12 : n ≤ 12 := by omega
  have hm12 : m ≤ 12 := by omega
  clear g0
  go_wp2_with (at_builtin; refine append_any _ Try.underlying47 info_u64 rfl _ _ rfl w1.heap.size 0 0 n ca none A [] x rfl rfl (Own.nil _ _ _ _) HR1.out HN.out (Nat.le_refl _) (by omega) (by omega) ?_; intro V cv w2 hown hbel hgrow)
  have HO2 : Hid (Row w2 V (nums .u64 x)) := Lib.hid (by
    have h1 := hown.row
    simpa using h1)
  have HB2 : Hid (Below w.heap.size w w2) := Lib.hid (HB1.out.trans (hbel.mono HB1.out.size))
  have HR2 := Lib.hid (HR1.out.below hbel)
  have HRV2 := Lib.hid (HRV1.out.below hbel)
  clear hown hbel hgrow HB1 HR1 HRV1
  refine (points_calls p r inv _ HP.out HI.out).mono ?_
  rintro e w3 ⟨P1, c1, rfl, ho3, hb3⟩
  have HB3 : Hid (Below w.heap.size w w3) := Lib.hid (blC HB2.out hb3)
  have HR3 := Lib.hid (HR2.out.below hb3)
  have HRV3 := Lib.hid (HRV2.out.below hb3)
  have HO3 := Lib.hid (HO2.out.below hb3)
  have HQ3 := Lib.hid ho3.row
  have HPL : Hid ((ptsS p r inv).1.length ≤ 9223372036854775807) := Lib.hid (by have := ho3.cap; omega)
  clear ho3 hb3 HB2 HR2 HRV2 HO2
  go_wp2_with fail
  refine (r15_points p r inv _ HP.out HI.out).mono ?_
  rintro e w4 ⟨P2, c2, rfl, ho4, hb4⟩
  have HB4 : Hid (Below w.heap.size w w4) := Lib.hid (blC HB3.out hb4)
  have HR4 := Lib.hid (HR3.out.below hb4)
  have HRV4 := Lib.hid (HRV3.out.below hb4)
  have HO4 := Lib.hid (HO3.out.below hb4)
  have HQ4 := Lib.hid (HQ3.out.below hb4)
  have HS4 := Lib.hid ho4.row
  clear ho4 hb4 HB3 HR3 HRV3 HO3 HQ3
  go_wp2_with fail
  refine (do_n p inv A n ca x _ HN.out HP.out HR4.out HL.out HW.out).mono ?_
  rintro e w5 ⟨C, cc, rfl, ho5, hb5⟩
  have HB5 : Hid (Below w4.heap.size w4 w5) := Lib.hid hb5
  have HC5 := Lib.hid ho5
  have HDL : Hid ((doS p inv x).1.length ≤ 9223372036854775807) := Lib.hid (by have := ho5.cap; omega)
  clear ho5 hb5
  go_wp2_with fail
  refine (r15_do p inv A n ca x _ HN.out HP.out (HR4.out.below HB5.out) HL.out HW.out).mono ?_
  rintro e w6 ⟨D, cd, rfl, ho6, hb6⟩
  have HC6 := Lib.hid (HC5.out.grown hb6)
  have HD6 := Lib.hid ho6.row
  have HB6 : Hid (Below w4.heap.size w4 w6) := Lib.hid (blC HB5.out hb6)
  clear ho6 hb6 HB5 HC5
  go_wp2_with fail
  refine (weigh_n p inv A B n ca m cb x v _ HN.out HM.out HP.out (HR4.out.below HB6.out) HL.out HW.out (HRV4.out.below HB6.out) HLM.out HWV.out).mono ?_
  rintro e w7 ⟨rfl, hb7⟩
  have HC7 := Lib.hid (HC6.out.grown hb7)
  have HD7 := Lib.hid (HD6.out.below hb7)
  have HB7 : Hid (Below w4.heap.size w4 w7) := Lib.hid (blC HB6.out hb7)
  clear hb7 HB6 HC6 HD6
  go_wp2_with fail
  have hcall := r15_weigh p inv A B ca cb x v w7 HP.out (HR4.out.below HB7.out) (by rw [HN.out]; exact HL.out) HW.out (HRV4.out.below HB7.out) (by rw [HM.out]; exact HLM.out) HWV.out
  rw [HN.out, HM.out] at hcall
  refine hcall.mono ?_
  clear hcall
  rintro e w8 ⟨rfl, hb8⟩
  have HC8 := Lib.hid (HC7.out.grown hb8)
  have HD8 := Lib.hid (HD7.out.below hb8)
  have HB8 : Hid (Below w4.heap.size w4 w8) := Lib.hid (blC HB7.out hb8)
  clear hb8 HB7 HC7 HD7
  go_wp2_with fail
  refine (sameU_calls _ _ _ _ (ptsS p r inv).1 (ptsS p r inv).1 _ (HQ4.out.below HB8.out) HPL.out (HS4.out.below HB8.out)).mono ?_
  rw [show decide ((ptsS p r inv).1 = (ptsS p r inv).1) = true from decide_eq_true rfl]
  rintro e w9 ⟨rfl, ⟨q1, rfl⟩⟩
  go_wp2_with fail
  refine (sameU_calls _ _ _ _ (doS p inv x).1 (doS p inv x).1 _ (HC8.out.row.drewN q1) HDL.out (HD8.out.drewN q1)).mono ?_
  rw [show decide ((doS p inv x).1 = (doS p inv x).1) = true from decide_eq_true rfl]
  rintro e w10 ⟨rfl, ⟨q2, rfl⟩⟩
  have HB9 : Hid (Below w4.heap.size w4 (w8.drewN (q1 + q2))) := Lib.hid (below_drewN HB8.out _)
  have HC9 := Lib.hid (HC8.out.drewN (q1 + q2))
  generalize hds : (doS p inv x).1 = ds at *
  have HLD : Hid (ds.length ≤ 9223372036854775807) := HDL
  clear HC8 HD8 HB8 HQ4 HS4
  go_wp2
  go_loopw [112] (fun i wr => ∃ (k : Nat) (cs : List Int), k ≤ ds.length ∧ i = .int .i64 k ∧ Hid (Own wr w4.heap.size 37 1 C ds.length cc (nums .u64 cs)) ∧ Hid (Below w4.heap.size w4 wr)) (fun i _ => ds.length - (intOf i).toNat)
  case atStart => exact ⟨0, ds, Nat.zero_le _, rfl, HC9, HB9⟩
  case round =>
    obtain ⟨k, cs, hk, rfl, HCR, HBR⟩ := hrel
    by_cases hlt : k < ds.length
    · obtain ⟨g, cap, hzv, _, _⟩ := World.ownsRow.form HCR.out (show 0 < ds.length by omega)
      cases hzv
      have hlen : cs.length = ds.length := by
        have h1 := HCR.out.len
        rw [nums_length] at h1
        omega
      have hcz : wr.cell? ⟨g, k, none⟩ = some (.int .u64 (cs[k]'(by omega))) := by
        rw [HCR.out.cellAt k hlt]; exact nums_get .u64 _ k (by omega)
      have hfz : wr.frozen? ⟨g, k, none⟩ = false := HCR.out.frozenAt k
      have HG := Lib.hid HCR.out.base
      generalize cs[k]'(by omega) = u at *
      have hld := HLD.out
      have HST : Hid (Own (wr.setCell ⟨g, k, none⟩ (.int .u64 (IntKind.u64.wrap (u + 1)))) w4.heap.size 37 1 (some ⟨g, 0, none⟩) ds.length cc (nums .u64 (cs.set k (IntKind.u64.wrap (u + 1))))) := Lib.hid (by
        have h1 := HCR.out.stored k (.int .u64 (IntKind.u64.wrap (u + 1)))
        rw [nums_set] at h1
        exact h1)
      have HSB := Lib.hid (Below.setCell (p := ⟨g, k, none⟩) HBR.out HG.out.1 (.int .u64 (IntKind.u64.wrap (u + 1))))
      generalize hz : IntKind.u64.wrap (u + 1) = z at *
      go_wp2
      go_roundw
      case rel => exact ⟨k + 1, cs.set k z, by omega, by go_num, HST, HSB⟩
      case measure => simp [intOf]; omega
    · go_wp2_with fail
      have hcall := sameU_calls A V ca cv x x wr (HR4.out.below HBR.out) (by rw [HN.out]; exact HL.out) (HO4.out.below HBR.out)
      rw [show decide (x = x) = true from decide_eq_true rfl, HN.out] at hcall
      refine hcall.mono ?_
      clear hcall
      rintro e w11 ⟨rfl, ⟨q3, rfl⟩⟩
      go_wp2
      go_ret
      exact ⟨by first | rfl | (simp; done), below_drewN (blC HB4.out HBR.out) _⟩
end Go.Proofs.Ytkofhmiakfmcaaa.P
