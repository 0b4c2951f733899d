
/- The law DftWrap, walked. Conditions: words of their kinds; the slices read as lists; the library's table lies as it was laid. -/
import Derived.Test.YtnlmmgcjhedjkaaDoorDftW
import Derived.Test.YtnlmmgcjhedjkaaDoorFlyB
namespace Go.Proofs.YtnlmmgcjhedjkaaDoor.P
open Go.RowKit
set_option linter.unusedVariables false
set_option linter.unusedSimpArgs false
theorem wrS_bad {p : Int} {neg : Bool} {x y : List Int} (h : (wrS p neg x y).2 ≠ 0) : wrS p neg x y = ([], (wrS p neg x y).2) ∧ (wrS p neg y x).2 ≠ 0 := by
  unfold wrS at h ⊢
  by_cases hx : chk6 p x neg = 0
  · by_cases hy : chk6 p y neg = 0
    · by_cases hl : y.length = x.length
      · simp [hx, hy, hl] at h
      · have hl2 : ¬ x.length = y.length := fun h => hl h.symm
        simp [hx, hy, hl, hl2]
    · simp [hx, hy]
  · by_cases hy : chk6 p y neg = 0 <;> simp [hx, hy]
theorem wrS_good {p : Int} {neg : Bool} {x y : List Int} (h : (wrS p neg x y).2 = 0) : chk6 p x neg = 0 ∧ chk6 p y neg = 0 ∧ y.length = x.length := by
  unfold wrS at h
  by_cases hx : chk6 p x neg = 0
  · by_cases hy : chk6 p y neg = 0
    · by_cases hl : y.length = x.length
      · exact ⟨hx, hy, hl⟩
      · simp [hx, hy, hl] at h
    · rw [if_pos hx, if_neg hy] at h; exact absurd h hy
  · rw [if_neg hx] at h; exact absurd h hx
set_option maxRecDepth 100000 in
set_option maxHeartbeats 4000000 in
theorem dftWrap_walk (p : Int) (A : Option Addr) (ca : Nat) (x : List Int) (B : Option Addr) (cb : Nat) (y : List Int) (neg : Bool) (w : World) (hp : U64 p)
    (hr : Row w A (nums .u64 x)) (hy : x.length * 8 ≤ 140737488351232) (hw : ∀ d ∈ x, (Lit.int .u64 d).wf = true) (hrv : Row w B (nums .u64 y)) (hyv : y.length * 8 ≤ 140737488351232) (hwv : ∀ d ∈ y, (Lit.int .u64 d).wf = true) (hT : Tab w) :
    Calls Tryd.prog 7 #[.int .u64 p, .slice A x.length ca, .slice B y.length cb, .bool neg] w fun e w' => e = .returned (.bool true) ∧ Below w.heap.size w w' := by
  have HP := Lib.hid hp
  have HR := Lib.hid hr
  have HT := Lib.hid hT
  have HW : Hid (∀ d ∈ x, U64 d) := Lib.hid fun d hd => u64_wf (hw d hd)
  have HRV := Lib.hid hrv
  have HWV : Hid (∀ d ∈ y, U64 d) := Lib.hid fun d hd => u64_wf (hwv d hd)
  clear hp hr hw hrv hwv hT
  generalize hn : x.length = n at *
  generalize hm : y.length = m at *
  have HN := Lib.hid hn
  have HM := Lib.hid hm
  have HL : Hid (n ≤ 9223372036854775807) := Lib.hid (by omega)
  have HLM : Hid (m ≤ 9223372036854775807) := Lib.hid (by omega)
  clear hn hm
  go_enter Tryd.func7, Tryd.ntmps7
  go_wp2_with fail
  refine (live06_calls _ HT.out).mono ?_
  rintro e w1 ⟨rfl, hb1⟩
  have HB1 := Lib.hid hb1
  clear hb1
  by_cases g0 : 24 < n
  · have f0 : decide (24 < (n : Int)) = true := by simp; omega
    clear g0
    go_wp2
    go_ret
    exact ⟨rfl, HB1.out⟩
  have f0 : decide (24 < (n : Int)) = false := by simp; omega
  by_cases g1 : 24 < m
  · have f1 : decide (24 < (m : Int)) = true := by simp; omega
    clear g0 g1
    go_wp2
    go_ret
    exact ⟨rfl, HB1.out⟩
  have f1 : decide (24 < (m : Int)) = false := by simp; omega
  by_cases hz : (wrS p neg x y).2 = 0
  case neg =>
    obtain ⟨h1, h2⟩ := wrS_bad hz
    have HE1 := Lib.hid h1
    have t1 : ((wrS p neg x y).2 != 0) = true := by simpa using hz
    have t2 : ((wrS p neg y x).2 != 0) = true := by simpa using h2
    clear h1 h2 hz g0 g1
    go_wp2_with fail
    refine (wrap6_calls p _ _ _ x _ _ _ y neg _ HN.out HM.out HP.out (HR.out.below HB1.out) HL.out HW.out (HRV.out.below HB1.out) HLM.out HWV.out (HT.out.below HB1.out)).mono ?_
    rw [HE1.out]
    rintro e w2 ⟨Z2, z2, rfl, ho, hb⟩
    have HB2 := Lib.hid (blT HB1.out hb)
    clear ho hb
    go_wp2_with fail
    refine (wrap6_calls p _ _ _ y _ _ _ x neg _ HM.out HN.out HP.out (HRV.out.below HB2.out) HLM.out HWV.out (HR.out.below HB2.out) HL.out HW.out (HT.out.below HB2.out)).mono ?_
    rintro e w3 ⟨Z3, z3, rfl, ho, hb⟩
    have HB3 := Lib.hid (blT HB2.out hb)
    clear ho hb
    go_wp2
    go_ret
    exact ⟨by first | rfl | (simp; done), HB3.out⟩
  obtain ⟨hx0, hy0, hl⟩ := wrS_good hz
  have hck := (chk6_ok hx0).1
  have hmn : m = n := by rw [← HM.out, ← HN.out]; exact hl
  subst hmn
  have HE1 : Hid (wrS p neg x y = (wrL p neg x y, 0)) := Lib.hid (by rw [wrS, if_pos hx0, if_pos hy0, if_pos hl])
  have HE2 : Hid (wrS p neg y x = (wrL p neg x y, 0)) := Lib.hid (by rw [wrS, if_pos hx0, if_pos hy0, if_pos hl.symm, wrL_comm p neg hl])
  have HWL : Hid ((wrL p neg x y).length = m) := Lib.hid (by rw [wrL_length]; exact HN.out)
  have HWU := Lib.hid (wrL_u64 p neg x y)
  have HEX : Hid (trS p neg false x = (trL p neg false x, 0)) := Lib.hid (trS_yes hx0)
  have HEY : Hid (trS p neg false y = (trL p neg false y, 0)) := Lib.hid (trS_yes hy0)
  have HEW : Hid (trS p neg false (wrL p neg x y) = (trL p neg false (wrL p neg x y), 0)) := Lib.hid (trS_yes (Chk6.ok (by rw [wrL_length]; exact hck) (wrL_in hck.known neg x y)))
  have HL1 : Hid ((trL p neg false x).length = m) := Lib.hid (by rw [trL_length]; exact HN.out)
  have HL2 : Hid ((trL p neg false y).length = m) := Lib.hid (by rw [trL_length]; exact HM.out)
  have HL3 : Hid ((trL p neg false (wrL p neg x y)).length = m) := Lib.hid (by rw [trL_length]; exact HWL.out)
  have HU1 := Lib.hid (trL_u64 p neg false x)
  have HU2 := Lib.hid (trL_u64 p neg false y)
  have HAT : Hid (∀ u, u < m → (trL p neg false (wrL p neg x y)).getD u 0 = mulS p ((trL p neg false x).getD u 0) ((trL p neg false y).getD u 0)) := Lib.hid fun u hu => by
    rw [trL_at _ _ _ _ (by rw [HWL.out]; exact hu), trL_at _ _ _ _ (by rw [HN.out]; exact hu), trL_at _ _ _ _ (by rw [HM.out]; exact hu)]
    exact trF_wrap hck hl u
  have hn1 : 1 ≤ m := by have h1 := hck.n1; have h2 := HN.out; omega
  clear hx0 hy0 hl hck hz g0
  generalize trL p neg false x = ax at *
  generalize trL p neg false y = ay at *
  generalize trL p neg false (wrL p neg x y) = aw at *
  generalize wrL p neg x y = W at *
  go_wp2_with fail
  refine (wrap6_calls p _ _ _ x _ _ _ y neg _ HN.out HM.out HP.out (HR.out.below HB1.out) HL.out HW.out (HRV.out.below HB1.out) HL.out HWV.out (HT.out.below HB1.out)).mono ?_
  rw [HE1.out, show ((W, (0 : Int)).1).length = m from HWL.out]
  rintro e w2 ⟨Z2, z2, rfl, ho, hb⟩
  have HB2 := Lib.hid (blT HB1.out hb)
  have HRW2 : Hid (Row w2 Z2 (nums .u64 W)) := Lib.hid ho.row
  clear ho hb
  go_wp2_with fail
  refine (wrap6_calls p _ _ _ y _ _ _ x neg _ HM.out HN.out HP.out (HRV.out.below HB2.out) HL.out HWV.out (HR.out.below HB2.out) HL.out HW.out (HT.out.below HB2.out)).mono ?_
  rw [HE2.out, show ((W, (0 : Int)).1).length = m from HWL.out]
  rintro e w3 ⟨Z3, z3, rfl, ho, hb⟩
  have HB3 := Lib.hid (blT HB2.out hb)
  have HRW3 := Lib.hid (HRW2.out.below hb)
  have HRZ3 : Hid (Row w3 Z3 (nums .u64 W)) := Lib.hid ho.row
  clear ho hb HRW2
  go_wp2_with fail
  refine (fwd6_calls p _ _ _ x neg _ HN.out HP.out (HR.out.below HB3.out) HL.out HW.out (HT.out.below HB3.out)).mono ?_
  rw [HEX.out, show ((ax, (0 : Int)).1).length = m from HL1.out]
  rintro e w4 ⟨Z4, z4, rfl, ho, hb⟩
  have HB4 := Lib.hid (blT HB3.out hb)
  have HRW4 := Lib.hid (HRW3.out.below hb)
  have HRZ4 := Lib.hid (HRZ3.out.below hb)
  have HRA4 : Hid (Row w4 Z4 (nums .u64 ax)) := Lib.hid ho.row
  clear ho hb HRW3 HRZ3
  go_wp2_with fail
  refine (fwd6_calls p _ _ _ y neg _ HM.out HP.out (HRV.out.below HB4.out) HL.out HWV.out (HT.out.below HB4.out)).mono ?_
  rw [HEY.out, show ((ay, (0 : Int)).1).length = m from HL2.out]
  rintro e w5 ⟨Z5, z5, rfl, ho, hb⟩
  have HB5 := Lib.hid (blT HB4.out hb)
  have HRW5 := Lib.hid (HRW4.out.below hb)
  have HRZ5 := Lib.hid (HRZ4.out.below hb)
  have HRA5 := Lib.hid (HRA4.out.below hb)
  have HRB5 : Hid (Row w5 Z5 (nums .u64 ay)) := Lib.hid ho.row
  clear ho hb HRW4 HRZ4 HRA4
  go_wp2_with fail
  refine (fwd6_calls p _ _ _ W neg _ HWL.out HP.out HRW5.out HL.out HWU.out (HT.out.below HB5.out)).mono ?_
  rw [HEW.out, show ((aw, (0 : Int)).1).length = m from HL3.out]
  rintro e w6 ⟨Z6, z6, rfl, ho, hb⟩
  have HB6 := Lib.hid (blT HB5.out hb)
  have HRW6 := Lib.hid (HRW5.out.below hb)
  have HRZ6 := Lib.hid (HRZ5.out.below hb)
  have HRA6 := Lib.hid (HRA5.out.below hb)
  have HRB6 := Lib.hid (HRB5.out.below hb)
  have HRC6 : Hid (Row w6 Z6 (nums .u64 aw)) := Lib.hid ho.row
  clear ho hb HRW5 HRZ5 HRA5 HRB5
  go_wp2_with fail
  refine (same_n _ _ _ _ m m W W _ HWL.out HWL.out HRW6.out HL.out HRZ6.out).mono ?_
  rw [show decide (W = W) = true from decide_eq_true rfl]
  rintro e w7 ⟨rfl, ⟨q7, rfl⟩⟩
  have HB7 := Lib.hid (below_drewN HB6.out q7)
  have HRW7 := Lib.hid (HRW6.out.drewN q7)
  have HRZ7 := Lib.hid (HRZ6.out.drewN q7)
  have HRA7 := Lib.hid (HRA6.out.drewN q7)
  have HRB7 := Lib.hid (HRB6.out.drewN q7)
  have HRC7 := Lib.hid (HRC6.out.drewN q7)
  clear HRW6 HRZ6 HRA6 HRB6 HRC6
  generalize w6.drewN q7 = w7 at *
  obtain ⟨za, rfl⟩ := HRA7.out.some_of (by intro h0; have h1 := nums_length .u64 ax; rw [h0, HL1.out] at h1; simp at h1; omega)
  obtain ⟨zb, rfl⟩ := HRB7.out.some_of (by intro h0; have h1 := nums_length .u64 ay; rw [h0, HL2.out] at h1; simp at h1; omega)
  obtain ⟨zc, rfl⟩ := HRC7.out.some_of (by intro h0; have h1 := nums_length .u64 aw; rw [h0, HL3.out] at h1; simp at h1; omega)
  go_wp2
  go_loopw [112] (fun i wr => ∃ j : Nat, j ≤ m ∧ i = .int .i64 j ∧ Hid (Below w7.heap.size w7 wr)) (fun i _ => m - (intOf i).toNat)
  case atStart => exact ⟨0, Nat.zero_le _, rfl, Lib.hid (Below.refl _ _)⟩
  case round =>
    obtain ⟨j, hj, rfl, HBR⟩ := hrel
    by_cases hlt2 : j < m
    · have h1 : j < ax.length := by have := HL1.out; omega
      have h2 : j < ay.length := by have := HL2.out; omega
      have h3 : j < aw.length := by have := HL3.out; omega
      have hd1 := (HRA7.out.below HBR.out).num h1
      have hd2 := (HRB7.out.below HBR.out).num h2
      have hd3 := (HRC7.out.below HBR.out).num h3
      have he := HAT.out j hlt2
      rw [getD_of h3, getD_of h1, getD_of h2] at he
      rw [he] at hd3
      have HV1 := Lib.hid (HU1.out _ (List.getElem_mem h1))
      have HV2 := Lib.hid (HU2.out _ (List.getElem_mem h2))
      clear he
      generalize ax[j] = u1 at *
      generalize ay[j] = u2 at *
      clear h1 h2 h3
      go_wp2
      go_quiet (first | (go_at_call 35; exact Calls.quiet_of (mul_calls _ _ _ _ HP.out HV1.out HV2.out)))
      go_wp2
      go_roundw
      case rel => exact ⟨j + 1, by omega, by go_num, Lib.hid (below_drewN HBR.out nq)⟩
      case measure => simp [intOf]; omega
    · have HBE : Hid (Below w.heap.size w wr) := Lib.hid (blT HB7.out HBR.out)
      go_wp2
      go_ret
      exact ⟨by first | rfl | (simp; done), HBE.out⟩
end Go.Proofs.YtnlmmgcjhedjkaaDoor.P
