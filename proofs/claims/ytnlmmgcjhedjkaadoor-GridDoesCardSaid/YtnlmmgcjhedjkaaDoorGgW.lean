
/- The law GridDoes, walked. Conditions: words of their kinds; the slices read as lists; the library's table lies as it was laid. -/
import Derived.Test.YtnlmmgcjhedjkaaDoorR7d
import Derived.Test.YtnlmmgcjhedjkaaDoorRefB
import Derived.Test.YtnlmmgcjhedjkaaDoorShapeB
namespace Go.Proofs.YtnlmmgcjhedjkaaDoor.P
open Go.RowKit
set_option linter.unusedVariables false
set_option linter.unusedSimpArgs false
theorem axS_len2 (p : Int) (ax : List (Int × Bool)) (a : Int) (inv : Bool) (x : List Int) : (axS p ax a inv x).1.length ≤ x.length := by
  unfold axS
  split
  · split
    · dsimp only; rw [axL_length]; exact Nat.le_refl _
    · simp
  · simp
theorem grS_len2 (p : Int) (ax : List (Int × Bool)) (inv : Bool) (x : List Int) : (grS p ax inv x).1.length ≤ x.length := by
  unfold grS
  split
  · dsimp only; rw [grN_length]; exact Nat.le_refl _
  · simp
theorem sameInts_n (A B : Option Addr) (ca cb n m : Nat) (l k : List Int) (w : World) (hn : l.length = n) (hm : k.length = m) (hr : Row w A (nums .i64 l)) (hl : n ≤ 9223372036854775807) (hrm : Row w B (nums .i64 k)) :
    Calls Tryd.prog 28 #[.slice A n ca, .slice B m cb] w fun e w' => e = .returned (.bool (decide (l = k))) ∧ Drawn0 w w' := by
  subst hn; subst hm; exact sameInts_calls A B ca cb l k w hr hl hrm
set_option maxRecDepth 100000 in
set_option maxHeartbeats 4000000 in
theorem gridDoes_walk (p : Int) (A : Option Addr) (ca : Nat) (ax : List (Int × Bool)) (ai : Int) (inv : Bool) (B : Option Addr) (cb : Nat) (x : List Int) (w : World) (hp : U64 p)
    (hr : Row w A (axR ax)) (hla : ax.length * 16 ≤ 140737488351232) (hcap : ax.length ≤ ca) (hwa : ∀ a ∈ ax, (Lit.int .i64 a.1).wf = true) (hai : i64 ai) (hrx : Row w B (nums .u64 x)) (hlx : x.length * 8 ≤ 140737488351232) (hwx : ∀ d ∈ x, (Lit.int .u64 d).wf = true) (hT : Tab w) :
    Calls Tryd.prog 12 #[.int .u64 p, .slice A ax.length ca, .int .i64 ai, .bool inv, .slice B x.length cb] w fun e w' => e = .returned (.bool true) ∧ Below w.heap.size w w' := by
  have HP := Lib.hid hp
  have HR := Lib.hid hr
  have HRX := Lib.hid hrx
  have HT := Lib.hid hT
  have HW : Hid (∀ a ∈ ax, i64 a.1) := Lib.hid fun a ha => i64_wf (hwa a ha)
  have HU : Hid (∀ d ∈ x, U64 d) := Lib.hid fun d hd => u64_wf (hwx d hd)
  clear hp hr hrx hT hwa hwx
  generalize hn : ax.length = n at *
  generalize hm : x.length = m at *
  have HN := Lib.hid hn
  have HM := Lib.hid hm
  have HL : Hid (n ≤ 8796093022208) := Lib.hid (by omega)
  have HL2 : Hid (n ≤ 9223372036854775807) := Lib.hid (by omega)
  have HLM : Hid (m ≤ 9223372036854775807) := Lib.hid (by omega)
  have HDN : Hid ((dimsA ax).length = n) := Lib.hid (by rw [dimsA_length]; exact hn)
  obtain ⟨a1, e1, ha⟩ : ∃ a e, axS p ax ai inv x = (a, e) := ⟨_, _, rfl⟩
  obtain ⟨c1, g1, hc⟩ : ∃ a e, grS p ax inv x = (a, e) := ⟨_, _, rfl⟩
  have ha2 := axS_len2 p ax ai inv x
  have hc2 := grS_len2 p ax inv x
  rw [ha] at ha2
  rw [hc] at hc2
  have HA := Lib.hid ha
  have HC := Lib.hid hc
  obtain ⟨ka, hka⟩ : ∃ k, a1.length = k := ⟨_, rfl⟩
  obtain ⟨kc, hkc⟩ : ∃ k, c1.length = k := ⟨_, rfl⟩
  have HKA : Hid (((a1, e1).1 : List Int).length = ka) := Lib.hid hka
  have HKC : Hid (((c1, g1).1 : List Int).length = kc) := Lib.hid hkc
  have hla2 : ka ≤ 9223372036854775806 := by dsimp only at ha2; omega
  have hlc2 : kc ≤ 9223372036854775806 := by dsimp only at hc2; omega
  have HLA : Hid (ka ≤ 9223372036854775807) := Lib.hid (by omega)
  have HLC : Hid (kc ≤ 9223372036854775807) := Lib.hid (by omega)
  clear ha hc ha2 hc2 hka hkc hn hm hla hcap
  go_enter Tryd.func12, Tryd.ntmps12
  go_wp2_with fail
  refine (live07_calls _ HT.out).mono ?_
  rintro e w1 ⟨rfl, hb1⟩
  have HB1 := Lib.hid hb1
  clear hb1
  go_wp2_with fail
  refine (few7_calls _ _ _ ax _ _ HN.out (HR.out.below HB1.out) HL.out HW.out).mono ?_
  rintro e w2 ⟨r, rfl, hb⟩
  have HB2 := Lib.hid (blT HB1.out hb)
  clear hb HB1
  cases r
  case false =>
    go_wp2
    go_ret
    exact ⟨rfl, HB2.out⟩
  by_cases g0 : 60 < m
  · have f0 : decide (60 < (m : Int)) = true := by simp; omega
    clear g0
    go_wp2
    go_ret
    exact ⟨rfl, HB2.out⟩
  have f0 : decide (60 < (m : Int)) = false := by simp; omega
  have HR2 := Lib.hid (HRX.out.below HB2.out)
  go_wp2_with (at_builtin; refine append_any _ Tryd.underlying41 info_u64 rfl _ _ rfl w2.heap.size 0 0 m cb none B [] x rfl rfl (Own.nil _ _ _ _) HR2.out HM.out (Nat.le_refl _) (by omega) (by omega) ?_; intro V cv w3 hown hbel hgrow)
  have HV3 : Hid (Row w3 V (nums .u64 x)) := Lib.hid (by
    have h1 := hown.row
    simpa using h1)
  have HB3 : Hid (Below w.heap.size w w3) := Lib.hid (HB2.out.trans (hbel.mono HB2.out.size))
  clear hown hbel hgrow HR2
  have HVW := HV3
  refine (axis7_calls p _ _ _ ax ai inv _ _ _ x _ HN.out HM.out HP.out (HR.out.below HB3.out) HL.out HW.out (HRX.out.below HB3.out) HLM.out HU.out (HT.out.below HB3.out)).mono ?_
  rw [HA.out, HKA.out]
  rintro e w4 ⟨Z4, z4, rfl, ho, hb⟩
  have HB4 := Lib.hid (blT HB3.out hb)
  have HO4 := Lib.hid ho
  have HG : Hid (w.heap.size ≤ w3.heap.size) := Lib.hid HB3.out.size
  have HXX4 : Hid (Below w3.heap.size w3 w4) := Lib.hid hb
  have HGL : Hid (0 < ka → ∃ g cap, Z4 = some ⟨g, 0, none⟩ ∧ z4 = cap ∧ w3.heap.size ≤ g ∧ g < w4.heap.size) := Lib.hid (fun h0 => by
    obtain ⟨g, cap, hzv, _, _⟩ := World.ownsRow.form ho h0
    cases hzv
    exact ⟨g, _, rfl, rfl, (Own.base ho).1, (Own.base ho).2⟩)
  clear ho hb HV3
  go_wp2_with fail
  refine (raxis7_calls p _ _ _ ax ai inv _ _ _ x _ HN.out HM.out HP.out (HR.out.below HB4.out) HL.out HW.out (HRX.out.below HB4.out) HLM.out HU.out).mono ?_
  rw [HA.out, HKA.out]
  rintro e w5 ⟨Z5, z5, rfl, ho, hb⟩
  have HB5 := Lib.hid (blT HB4.out hb)
  have HO5 := Lib.hid (HO4.out.grown hb)
  have HG45 : Hid (w4.heap.size ≤ w5.heap.size) := Lib.hid hb.size
  have HG35 : Hid (w3.heap.size ≤ w5.heap.size) := Lib.hid (Nat.le_trans HXX4.out.size hb.size)
  have HXX5 := Lib.hid (blT HXX4.out hb)
  have HRB5 : Hid (Row w5 Z5 (nums .u64 a1)) := Lib.hid ho.row
  clear hb HO4 ho 
  go_wp2_with fail
  refine (do7_calls p _ _ _ ax inv _ _ _ x _ HN.out HM.out HP.out (HR.out.below HB5.out) HL.out HW.out (HRX.out.below HB5.out) HLM.out HU.out (HT.out.below HB5.out)).mono ?_
  rw [HC.out, HKC.out]
  rintro e w6 ⟨Z6, z6, rfl, ho, hb⟩
  have HB6 := Lib.hid (blT HB5.out hb)
  have HO6 := Lib.hid (HO5.out.grown hb)
  have HXX6 := Lib.hid (blT HXX5.out hb)
  have HRB6 := Lib.hid (HRB5.out.below hb)
  have HD6 := Lib.hid ho
  clear hb HO5 ho HRB5
  go_wp2_with fail
  refine (rdo7_calls p _ _ _ ax inv _ _ _ x _ HN.out HM.out HP.out (HR.out.below HB6.out) HL.out HW.out (HRX.out.below HB6.out) HLM.out HU.out).mono ?_
  rw [HC.out, HKC.out]
  rintro e w7 ⟨Z7, z7, rfl, ho, hb⟩
  have HB7 := Lib.hid (blT HB6.out hb)
  have HO7 := Lib.hid (HO6.out.grown hb)
  have HD7 := Lib.hid (HD6.out.grown hb)
  have HXX7 := Lib.hid (blT HXX6.out hb)
  have HRB7 := Lib.hid (HRB6.out.below hb)
  have HRD7 : Hid (Row w7 Z7 (nums .u64 c1)) := Lib.hid ho.row
  clear hb HO6 HD6 ho HRB6
  go_wp2_with fail
  refine (same_n _ _ _ _ ka ka a1 a1 _ HKA.out HKA.out HO7.out.row HLA.out HRB7.out).mono ?_
  rw [show decide (a1 = a1) = true from decide_eq_true rfl]
  rintro e w8 ⟨rfl, ⟨q8, rfl⟩⟩
  have HB8 := Lib.hid (below_drewN HB7.out q8)
  have HO8 := Lib.hid (HO7.out.drewN q8)
  have HD8 := Lib.hid (HD7.out.drewN q8)
  have HXX8 := Lib.hid (below_drewN HXX7.out q8)
  have HRB8 := Lib.hid (HRB7.out.drewN q8)
  have HRD8 := Lib.hid (HRD7.out.drewN q8)
  clear HO7 HD7 HRB7 HRD7
  generalize w7.drewN q8 = w8 at *
  go_wp2_with fail
  refine (same_n _ _ _ _ kc kc c1 c1 _ HKC.out HKC.out HD8.out.row HLC.out HRD8.out).mono ?_
  rw [show decide (c1 = c1) = true from decide_eq_true rfl]
  rintro e w9 ⟨rfl, ⟨q9, rfl⟩⟩
  have HB9 := Lib.hid (below_drewN HB8.out q9)
  have HO9 := Lib.hid (HO8.out.drewN q9)
  have HD9 := Lib.hid (HD8.out.drewN q9)
  have HXX9 := Lib.hid (below_drewN HXX8.out q9)
  have HRB9 := Lib.hid (HRB8.out.drewN q9)
  have HRD9 := Lib.hid (HRD8.out.drewN q9)
  clear HO8 HD8 HRB8 HRD8
  generalize w8.drewN q9 = w9 at *
  go_wp2_with fail
  refine (chk7_calls p _ _ _ ax _ HN.out HP.out (HR.out.below HB9.out) HL.out HW.out (HT.out.below HB9.out)).mono ?_
  rintro e w10 ⟨rfl, hb⟩
  have HB10 := Lib.hid (blT HB9.out hb)
  have HO10 := Lib.hid (HO9.out.grown hb)
  have HD10 := Lib.hid (HD9.out.grown hb)
  have HXX10 := Lib.hid (blT HXX9.out hb)
  have HRB10 := Lib.hid (HRB9.out.below hb)
  have HRD10 := Lib.hid (HRD9.out.below hb)
  clear hb HO9 HD9 HRB9 HRD9
  go_wp2_with fail
  refine (rchk7_calls p _ _ _ ax _ HN.out HP.out (HR.out.below HB10.out) HL.out HW.out).mono ?_
  rintro e w11 ⟨rfl, hb⟩
  have HB11 := Lib.hid (blT HB10.out hb)
  have HO11 := Lib.hid (HO10.out.grown hb)
  have HD11 := Lib.hid (HD10.out.grown hb)
  have HXX11 := Lib.hid (blT HXX10.out hb)
  have HRB11 := Lib.hid (HRB10.out.below hb)
  have HRD11 := Lib.hid (HRD10.out.below hb)
  clear hb HO10 HD10 HRB10 HRD10
  go_wp2_with fail
  refine (dims7_calls _ _ _ ax _ HN.out (HR.out.below HB11.out) HL.out).mono ?_
  rintro e w12 ⟨Z12, rfl, ho, hb⟩
  have HB12 := Lib.hid (blT HB11.out hb)
  have HO12 := Lib.hid (HO11.out.grown hb)
  have HD12 := Lib.hid (HD11.out.grown hb)
  have HXX12 := Lib.hid (blT HXX11.out hb)
  have HRB12 := Lib.hid (HRB11.out.below hb)
  have HRD12 := Lib.hid (HRD11.out.below hb)
  have HRE12 : Hid (Row w12 Z12 (nums .i64 (dimsA ax))) := Lib.hid ho.row
  clear hb HO11 HD11 ho HRB11 HRD11
  go_wp2_with fail
  refine (rdims7_calls _ _ _ ax _ HN.out (HR.out.below HB12.out) HL.out).mono ?_
  rintro e w13 ⟨Z13, z13, rfl, ho, hb⟩
  have HB13 := Lib.hid (blT HB12.out hb)
  have HO13 := Lib.hid (HO12.out.grown hb)
  have HD13 := Lib.hid (HD12.out.grown hb)
  have HXX13 := Lib.hid (blT HXX12.out hb)
  have HRB13 := Lib.hid (HRB12.out.below hb)
  have HRD13 := Lib.hid (HRD12.out.below hb)
  have HRE13 := Lib.hid (HRE12.out.below hb)
  have HRF13 : Hid (Row w13 Z13 (nums .i64 (dimsA ax))) := Lib.hid ho.row
  clear hb HO12 HD12 ho HRB12 HRD12 HRE12
  go_wp2_with fail
  refine (sameInts_n _ _ _ _ n n (dimsA ax) (dimsA ax) _ HDN.out HDN.out HRE13.out HL2.out HRF13.out).mono ?_
  rw [show decide ((dimsA ax) = (dimsA ax)) = true from decide_eq_true rfl]
  rintro e w14 ⟨rfl, ⟨q14, rfl⟩⟩
  have HB14 := Lib.hid (below_drewN HB13.out q14)
  have HO14 := Lib.hid (HO13.out.drewN q14)
  have HD14 := Lib.hid (HD13.out.drewN q14)
  have HXX14 := Lib.hid (below_drewN HXX13.out q14)
  have HRB14 := Lib.hid (HRB13.out.drewN q14)
  have HRD14 := Lib.hid (HRD13.out.drewN q14)
  have HRE14 := Lib.hid (HRE13.out.drewN q14)
  have HRF14 := Lib.hid (HRF13.out.drewN q14)
  clear HO13 HD13 HRB13 HRD13 HRE13 HRF13
  generalize w13.drewN q14 = w14 at *
  go_wp2
  go_loopw [105] (fun i wr => ∃ (k : Nat) (cs : List Int), k ≤ ka ∧ i = .int .i64 k ∧ Hid (Own wr w3.heap.size 40 1 Z4 ka z4 (nums .u64 cs)) ∧ Hid (Own wr w5.heap.size 40 1 Z6 kc z6 (nums .u64 c1)) ∧ Hid (Below w3.heap.size w3 wr)) (fun i _ => ka - (intOf i).toNat)
  case atStart => exact ⟨0, a1, Nat.zero_le _, rfl, HO14, HD14, HXX14⟩
  case round =>
    obtain ⟨k, cs, hk, rfl, HCR, HCD, HBR⟩ := hrel
    by_cases hlt : k < ka
    · obtain ⟨g, cap, rfl, rfl, hg1, hg2⟩ := HGL.out (show 0 < ka by omega)
      have hlen : cs.length = ka := by
        have h1 := HCR.out.len
        rw [nums_length] at h1
        omega
      have hcz : wr.cell? ⟨g, k, none⟩ = some (.int .u64 (cs[k]'(by omega))) := by
        rw [HCR.out.cellAt k hlt]; exact nums_get .u64 _ k (by omega)
      have hfz : wr.frozen? ⟨g, k, none⟩ = false := HCR.out.frozenAt k
      generalize cs[k]'(by omega) = u at *
      have HST : Hid (Own (wr.setCell ⟨g, k, none⟩ (.int .u64 (IntKind.u64.wrap (u + 1)))) w3.heap.size 40 1 (some ⟨g, 0, none⟩) ka z4 (nums .u64 (cs.set k (IntKind.u64.wrap (u + 1))))) := Lib.hid (by
        have h1 := HCR.out.stored k (.int .u64 (IntKind.u64.wrap (u + 1)))
        rw [nums_set] at h1
        exact h1)
      have HSD : Hid (Own (wr.setCell ⟨g, k, none⟩ (.int .u64 (IntKind.u64.wrap (u + 1)))) w5.heap.size 40 1 Z6 kc z6 (nums .u64 c1)) := Lib.hid (HCD.out.setBelow (by have h1 := HG45.out; show g < _; omega) _)
      have HSB := Lib.hid (Below.setCell (p := ⟨g, k, none⟩) HBR.out hg1 (.int .u64 (IntKind.u64.wrap (u + 1))))
      generalize hz : IntKind.u64.wrap (u + 1) = z at *
      go_wp2
      go_roundw
      case rel => exact ⟨k + 1, cs.set k z, by omega, by go_num, HST, HSD, HSB⟩
      case measure => simp [intOf]; omega
    · go_wp2
      clear hlt
      go_loopw [117] (fun i ws => ∃ (k : Nat) (cs : List Int), k ≤ kc ∧ i = .int .i64 k ∧ Hid (Own ws w5.heap.size 40 1 Z6 kc z6 (nums .u64 cs)) ∧ Hid (Below w3.heap.size w3 ws)) (fun i _ => kc - (intOf i).toNat)
      case atStart => exact ⟨0, c1, Nat.zero_le _, rfl, HCD, HBR⟩
      case round =>
        obtain ⟨k, cs, hk, rfl, HCR, HBR⟩ := hrel
        by_cases hlt : k < kc
        · obtain ⟨g, cap, hzv, _, _⟩ := World.ownsRow.form HCR.out (show 0 < kc by omega)
          cases hzv
          have hlen : cs.length = kc := by
            have h1 := HCR.out.len
            rw [nums_length] at h1
            omega
          have hcz : wr.cell? ⟨g, k, none⟩ = some (.int .u64 (cs[k]'(by omega))) := by
            rw [HCR.out.cellAt k hlt]; exact nums_get .u64 _ k (by omega)
          have hfz : wr.frozen? ⟨g, k, none⟩ = false := HCR.out.frozenAt k
          have HGB := Lib.hid HCR.out.base
          generalize cs[k]'(by omega) = u at *
          have HST : Hid (Own (wr.setCell ⟨g, k, none⟩ (.int .u64 (IntKind.u64.wrap (u + 1)))) w5.heap.size 40 1 (some ⟨g, 0, none⟩) kc z6 (nums .u64 (cs.set k (IntKind.u64.wrap (u + 1))))) := Lib.hid (by
            have h1 := HCR.out.stored k (.int .u64 (IntKind.u64.wrap (u + 1)))
            rw [nums_set] at h1
            exact h1)
          have HSB := Lib.hid (Below.setCell (p := ⟨g, k, none⟩) HBR.out (Nat.le_trans HG35.out HGB.out.1) (.int .u64 (IntKind.u64.wrap (u + 1))))
          generalize hz : IntKind.u64.wrap (u + 1) = z at *
          go_wp2
          go_roundw
          case rel => exact ⟨k + 1, cs.set k z, by omega, by go_num, HST, HSB⟩
          case measure => simp [intOf]; omega
        · have HBE := Lib.hid (blT HB3.out HBR.out)
          go_wp2_with fail
          refine (same_n _ _ _ _ m m x x _ HM.out HM.out (HRX.out.below HBE.out) HLM.out (HVW.out.below HBR.out)).mono ?_
          rw [show decide (x = x) = true from decide_eq_true rfl]
          rintro e w99 ⟨rfl, ⟨q99, rfl⟩⟩
          go_wp2
          go_ret
          exact ⟨by first | rfl | (simp; done), below_drewN HBE.out _⟩
end Go.Proofs.YtnlmmgcjhedjkaaDoor.P
