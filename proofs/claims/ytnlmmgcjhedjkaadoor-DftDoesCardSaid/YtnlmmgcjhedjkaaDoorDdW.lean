
/- The law DftDoes, walked. Conditions: words of their kinds; the slices read as lists; the library's table lies as it was laid. -/
import Derived.Test.YtnlmmgcjhedjkaaDoorR6c
import Derived.Test.YtnlmmgcjhedjkaaDoorFlyB
import Derived.Test.YtnlmmgcjhedjkaaDoorRefB
namespace Go.Proofs.YtnlmmgcjhedjkaaDoor.P
open Go.RowKit
set_option linter.unusedVariables false
set_option linter.unusedSimpArgs false
theorem wrS_len (p : Int) (neg : Bool) (x y : List Int) : (wrS p neg x y).1.length ≤ x.length := by
  unfold wrS
  split
  · split
    · split
      · dsimp only; rw [wrL_length]; exact Nat.le_refl _
      · simp
    · simp
  · simp
theorem trS_len2 (p : Int) (neg inv : Bool) (x : List Int) : (trS p neg inv x).1.length ≤ x.length := by
  unfold trS
  split
  · dsimp only; rw [trL_length]; exact Nat.le_refl _
  · simp
set_option maxRecDepth 100000 in
set_option maxHeartbeats 4000000 in
theorem dftDoes_walk (p : Int) (A : Option Addr) (ca : Nat) (x : List Int) (B : Option Addr) (cb : Nat) (y : List Int) (neg : Bool) (w : World) (hp : U64 p)
    (hr : Row w A (nums .u64 x)) (hlx : x.length * 8 ≤ 140737488351232) (hw : ∀ d ∈ x, (Lit.int .u64 d).wf = true) (hrv : Row w B (nums .u64 y)) (hly : y.length * 8 ≤ 140737488351232) (hwv : ∀ d ∈ y, (Lit.int .u64 d).wf = true) (hT : Tab w) :
    Calls Tryd.prog 10 #[.int .u64 p, .slice A x.length ca, .slice B y.length cb, .bool neg] w fun e w' => e = .returned (.bool true) ∧ Below w.heap.size w w' := by
  have HP := Lib.hid hp
  have HR := Lib.hid hr
  have HT := Lib.hid hT
  have HW : Hid (∀ d ∈ x, U64 d) := Lib.hid fun d hd => u64_wf (hw d hd)
  have HRV := Lib.hid hrv
  have HWV : Hid (∀ d ∈ y, U64 d) := Lib.hid fun d hd => u64_wf (hwv d hd)
  clear hp hr hw hrv hwv hT
  generalize hn : x.length = n at *
  generalize hm : y.length = m at *
  have HN := Lib.hid hn
  have HM := Lib.hid hm
  have HL : Hid (n ≤ 9223372036854775807) := Lib.hid (by omega)
  have HLM : Hid (m ≤ 9223372036854775807) := Lib.hid (by omega)
  obtain ⟨a1, e1, ha⟩ : ∃ a e, trS p neg false x = (a, e) := ⟨_, _, rfl⟩
  obtain ⟨c1, g1, hc⟩ : ∃ a e, trS p neg true x = (a, e) := ⟨_, _, rfl⟩
  obtain ⟨s1, i1, hs⟩ : ∃ a e, wrS p neg x y = (a, e) := ⟨_, _, rfl⟩
  have ha2 := trS_len2 p neg false x
  have hc2 := trS_len2 p neg true x
  have hs2 := wrS_len p neg x y
  rw [ha] at ha2
  rw [hc] at hc2
  rw [hs] at hs2
  have HA := Lib.hid ha
  have HC := Lib.hid hc
  have HS := Lib.hid hs
  obtain ⟨ka, hka⟩ : ∃ k, a1.length = k := ⟨_, rfl⟩
  obtain ⟨kc, hkc⟩ : ∃ k, c1.length = k := ⟨_, rfl⟩
  obtain ⟨ks, hks⟩ : ∃ k, s1.length = k := ⟨_, rfl⟩
  have HKA : Hid (((a1, e1).1 : List Int).length = ka) := Lib.hid hka
  have HKC : Hid (((c1, g1).1 : List Int).length = kc) := Lib.hid hkc
  have HKS : Hid (((s1, i1).1 : List Int).length = ks) := Lib.hid hks
  have hla : ka ≤ 9223372036854775806 := by dsimp only at ha2; omega
  have HLA : Hid (ka ≤ 9223372036854775807) := Lib.hid (by omega)
  have HLC : Hid (kc ≤ 9223372036854775807) := Lib.hid (by dsimp only at hc2; omega)
  have HLS : Hid (ks ≤ 9223372036854775807) := Lib.hid (by dsimp only at hs2; omega)
  clear ha hc hs ha2 hc2 hs2 hka hkc hks hn hm
  have F1 : decide (24 < (n : Int)) = decide (24 < n) := decide_eq_decide.2 (by omega)
  have F2 : decide ((n : Int) ≤ 4096) = decide (n ≤ 4096) := decide_eq_decide.2 (by omega)
  have F3 : decide (24 < (m : Int)) = decide (24 < m) := decide_eq_decide.2 (by omega)
  have F4 : decide ((m : Int) ≤ 4096) = decide (m ≤ 4096) := decide_eq_decide.2 (by omega)
  have F5 : decide (4100 < (n : Int)) = decide (4100 < n) := decide_eq_decide.2 (by omega)
  have F6 : decide (4100 < (m : Int)) = decide (4100 < m) := decide_eq_decide.2 (by omega)
  by_cases G : (24 < n ∧ n ≤ 4096) ∨ (24 < m ∧ m ≤ 4096) ∨ 4100 < n ∨ 4100 < m
  case pos =>
    rcases (show (24 < n ∧ n ≤ 4096) ∨ n ≤ 24 ∨ 4096 < n by omega) with hA | hA | hA <;> rcases (show (24 < m ∧ m ≤ 4096) ∨ m ≤ 24 ∨ 4096 < m by omega) with hB | hB | hB <;> rcases Nat.lt_or_ge 4100 n with hC | hC <;> rcases Nat.lt_or_ge 4100 m with hD | hD
    all_goals
      first
        | (exfalso; omega)
        | (try rw [decide_eq_true (show 24 < n by omega)] at F1
           try rw [decide_eq_false (show ¬ 24 < n by omega)] at F1
           try rw [decide_eq_true (show n ≤ 4096 by omega)] at F2
           try rw [decide_eq_false (show ¬ n ≤ 4096 by omega)] at F2
           try rw [decide_eq_true (show 24 < m by omega)] at F3
           try rw [decide_eq_false (show ¬ 24 < m by omega)] at F3
           try rw [decide_eq_true (show m ≤ 4096 by omega)] at F4
           try rw [decide_eq_false (show ¬ m ≤ 4096 by omega)] at F4
           try rw [decide_eq_true (show 4100 < n by omega)] at F5
           try rw [decide_eq_false (show ¬ 4100 < n by omega)] at F5
           try rw [decide_eq_true (show 4100 < m by omega)] at F6
           try rw [decide_eq_false (show ¬ 4100 < m by omega)] at F6
           clear G hA hB hC hD
           go_enter Tryd.func10, Tryd.ntmps10
           go_wp2_with fail
           refine (live06_calls _ HT.out).mono ?_
           rintro e w1 ⟨rfl, hb1⟩
           have HB1 := Lib.hid hb1
           clear hb1
           go_wp2
           go_ret
           exact ⟨rfl, HB1.out⟩)
  have hn41 : n ≤ 4100 := by omega
  rcases Nat.lt_or_ge 24 n with hA | hA <;> rcases Nat.lt_or_ge 24 m with hB | hB
  all_goals
    rw [decide_eq_false (show ¬ 4100 < n by omega)] at F5
    rw [decide_eq_false (show ¬ 4100 < m by omega)] at F6
    try rw [decide_eq_true (show 24 < n by omega)] at F1
    try rw [decide_eq_false (show ¬ 24 < n by omega)] at F1
    try rw [decide_eq_false (show ¬ n ≤ 4096 by omega)] at F2
    try rw [decide_eq_true (show n ≤ 4096 by omega)] at F2
    try rw [decide_eq_true (show 24 < m by omega)] at F3
    try rw [decide_eq_false (show ¬ 24 < m by omega)] at F3
    try rw [decide_eq_false (show ¬ m ≤ 4096 by omega)] at F4
    try rw [decide_eq_true (show m ≤ 4096 by omega)] at F4
    clear G hA hB
    go_enter Tryd.func10, Tryd.ntmps10
    go_wp2_with fail
    refine (live06_calls _ HT.out).mono ?_
    rintro e w1 ⟨rfl, hb1⟩
    have HB1 := Lib.hid hb1
    have HR1 := Lib.hid (HR.out.below hb1)
    clear hb1
    go_wp2_with (at_builtin; refine append_any _ Tryd.underlying41 info_u64 rfl _ _ rfl w1.heap.size 0 0 n ca none A [] x rfl rfl (Own.nil _ _ _ _) HR1.out HN.out (Nat.le_refl _) (by omega) (by omega) ?_; intro V cv w2 hown hbel hgrow)
    have HV2 : Hid (Row w2 V (nums .u64 x)) := Lib.hid (by
      have h1 := hown.row
      simpa using h1)
    have HB2 : Hid (Below w.heap.size w w2) := Lib.hid (HB1.out.trans (hbel.mono HB1.out.size))
    clear hown hbel hgrow
    refine (fwd6_calls p _ _ _ x neg _ HN.out HP.out (HR.out.below HB2.out) HL.out HW.out (HT.out.below HB2.out)).mono ?_
    rw [HA.out, HKA.out]
    rintro e w3 ⟨Z3, z3, rfl, ho, hb⟩
    have HB3 := Lib.hid (blT HB2.out hb)
    have HV3 := Lib.hid (HV2.out.below hb)
    have HO3 := Lib.hid ho
    have HG : Hid (w.heap.size ≤ w2.heap.size) := Lib.hid HB2.out.size
    have HXX3 : Hid (Below w2.heap.size w2 w3) := Lib.hid hb
    have HVW := HV2
    clear ho hb HV2
    go_wp2_with fail
    refine (rfwd6_calls p _ _ _ x neg _ HN.out HP.out (HR.out.below HB3.out) HL.out HW.out).mono ?_
    rw [HA.out, HKA.out]
    rintro e w4 ⟨Z4, z4, rfl, ho, hb⟩
    have HB4 := Lib.hid (blT HB3.out hb)
    have HV4 := Lib.hid (HV3.out.below hb)
    have HO4 := Lib.hid (HO3.out.grown hb)
    have HXX4 := Lib.hid (blT HXX3.out hb)
    have HRB4 : Hid (Row w4 Z4 (nums .u64 a1)) := Lib.hid ho.row
    clear ho hb HV3 HO3
    go_wp2_with fail
    refine (inv6_calls p _ _ _ x neg _ HN.out HP.out (HR.out.below HB4.out) HL.out HW.out (HT.out.below HB4.out)).mono ?_
    rw [HC.out, HKC.out]
    rintro e w5 ⟨Z5, z5, rfl, ho, hb⟩
    have HB5 := Lib.hid (blT HB4.out hb)
    have HO5 := Lib.hid (HO4.out.grown hb)
    have HXX5 := Lib.hid (blT HXX4.out hb)
    have HV5 := Lib.hid (HV4.out.below hb)
    have HRB5 := Lib.hid (HRB4.out.below hb)
    have HRC5 : Hid (Row w5 Z5 (nums .u64 c1)) := Lib.hid ho.row
    clear hb HO4 ho HV4 HRB4
    go_wp2_with fail
    refine (rinv6_calls p _ _ _ x neg _ HN.out HP.out (HR.out.below HB5.out) HL.out HW.out).mono ?_
    rw [HC.out, HKC.out]
    rintro e w6 ⟨Z6, z6, rfl, ho, hb⟩
    have HB6 := Lib.hid (blT HB5.out hb)
    have HO6 := Lib.hid (HO5.out.grown hb)
    have HXX6 := Lib.hid (blT HXX5.out hb)
    have HV6 := Lib.hid (HV5.out.below hb)
    have HRB6 := Lib.hid (HRB5.out.below hb)
    have HRC6 := Lib.hid (HRC5.out.below hb)
    have HRD6 : Hid (Row w6 Z6 (nums .u64 c1)) := Lib.hid ho.row
    clear hb HO5 ho HV5 HRB5 HRC5
    go_wp2_with fail
    refine (wrap6_calls p _ _ _ x _ _ _ y neg _ HN.out HM.out HP.out (HR.out.below HB6.out) HL.out HW.out (HRV.out.below HB6.out) HLM.out HWV.out (HT.out.below HB6.out)).mono ?_
    rw [HS.out, HKS.out]
    rintro e w7 ⟨Z7, z7, rfl, ho, hb⟩
    have HB7 := Lib.hid (blT HB6.out hb)
    have HO7 := Lib.hid (HO6.out.grown hb)
    have HXX7 := Lib.hid (blT HXX6.out hb)
    have HV7 := Lib.hid (HV6.out.below hb)
    have HRB7 := Lib.hid (HRB6.out.below hb)
    have HRC7 := Lib.hid (HRC6.out.below hb)
    have HRD7 := Lib.hid (HRD6.out.below hb)
    have HRS7 : Hid (Row w7 Z7 (nums .u64 s1)) := Lib.hid ho.row
    clear hb HO6 ho HV6 HRB6 HRC6 HRD6
    go_wp2_with fail
    refine (rwrap6_calls p _ _ _ x _ _ _ y neg _ HN.out HM.out HP.out (HR.out.below HB7.out) HL.out HW.out (HRV.out.below HB7.out) HLM.out HWV.out).mono ?_
    rw [HS.out, HKS.out]
    rintro e w8 ⟨Z8, z8, rfl, ho, hb⟩
    have HB8 := Lib.hid (blT HB7.out hb)
    have HO8 := Lib.hid (HO7.out.grown hb)
    have HXX8 := Lib.hid (blT HXX7.out hb)
    have HV8 := Lib.hid (HV7.out.below hb)
    have HRB8 := Lib.hid (HRB7.out.below hb)
    have HRC8 := Lib.hid (HRC7.out.below hb)
    have HRD8 := Lib.hid (HRD7.out.below hb)
    have HRS8 := Lib.hid (HRS7.out.below hb)
    have HRT8 : Hid (Row w8 Z8 (nums .u64 s1)) := Lib.hid ho.row
    clear hb HO7 ho HV7 HRB7 HRC7 HRD7 HRS7
    go_wp2_with fail
    refine (same_n _ _ _ _ ka ka a1 a1 _ HKA.out HKA.out HO8.out.row HLA.out HRB8.out).mono ?_
    rw [show decide (a1 = a1) = true from decide_eq_true rfl]
    rintro e w9 ⟨rfl, ⟨q9, rfl⟩⟩
    have HB9 := Lib.hid (below_drewN HB8.out q9)
    have HO9 := Lib.hid (HO8.out.drewN q9)
    have HXX9 := Lib.hid (below_drewN HXX8.out q9)
    have HV9 := Lib.hid (HV8.out.drewN q9)
    have HRB9 := Lib.hid (HRB8.out.drewN q9)
    have HRC9 := Lib.hid (HRC8.out.drewN q9)
    have HRD9 := Lib.hid (HRD8.out.drewN q9)
    have HRS9 := Lib.hid (HRS8.out.drewN q9)
    have HRT9 := Lib.hid (HRT8.out.drewN q9)
    clear HO8 HV8 HRB8 HRC8 HRD8 HRS8 HRT8
    generalize w8.drewN q9 = w9 at *
    go_wp2_with fail
    refine (same_n _ _ _ _ kc kc c1 c1 _ HKC.out HKC.out HRC9.out HLC.out HRD9.out).mono ?_
    rw [show decide (c1 = c1) = true from decide_eq_true rfl]
    rintro e w10 ⟨rfl, ⟨q10, rfl⟩⟩
    have HB10 := Lib.hid (below_drewN HB9.out q10)
    have HO10 := Lib.hid (HO9.out.drewN q10)
    have HXX10 := Lib.hid (below_drewN HXX9.out q10)
    have HV10 := Lib.hid (HV9.out.drewN q10)
    have HRB10 := Lib.hid (HRB9.out.drewN q10)
    have HRC10 := Lib.hid (HRC9.out.drewN q10)
    have HRD10 := Lib.hid (HRD9.out.drewN q10)
    have HRS10 := Lib.hid (HRS9.out.drewN q10)
    have HRT10 := Lib.hid (HRT9.out.drewN q10)
    clear HO9 HV9 HRB9 HRC9 HRD9 HRS9 HRT9
    generalize w9.drewN q10 = w10 at *
    go_wp2_with fail
    refine (same_n _ _ _ _ ks ks s1 s1 _ HKS.out HKS.out HRS10.out HLS.out HRT10.out).mono ?_
    rw [show decide (s1 = s1) = true from decide_eq_true rfl]
    rintro e w11 ⟨rfl, ⟨q11, rfl⟩⟩
    have HB11 := Lib.hid (below_drewN HB10.out q11)
    have HO11 := Lib.hid (HO10.out.drewN q11)
    have HXX11 := Lib.hid (below_drewN HXX10.out q11)
    have HV11 := Lib.hid (HV10.out.drewN q11)
    have HRB11 := Lib.hid (HRB10.out.drewN q11)
    have HRC11 := Lib.hid (HRC10.out.drewN q11)
    have HRD11 := Lib.hid (HRD10.out.drewN q11)
    have HRS11 := Lib.hid (HRS10.out.drewN q11)
    have HRT11 := Lib.hid (HRT10.out.drewN q11)
    clear HO10 HV10 HRB10 HRC10 HRD10 HRS10 HRT10
    generalize w10.drewN q11 = w11 at *
    go_wp2_with fail
    refine (chk6_calls p _ _ _ x neg _ HN.out HP.out (HR.out.below HB11.out) HL.out (HT.out.below HB11.out)).mono ?_
    rintro e w12 ⟨rfl, hb⟩
    have HB12 := Lib.hid (blT HB11.out hb)
    have HO12 := Lib.hid (HO11.out.grown hb)
    have HXX12 := Lib.hid (blT HXX11.out hb)
    have HV12 := Lib.hid (HV11.out.below hb)
    have HRB12 := Lib.hid (HRB11.out.below hb)
    have HRC12 := Lib.hid (HRC11.out.below hb)
    have HRD12 := Lib.hid (HRD11.out.below hb)
    have HRS12 := Lib.hid (HRS11.out.below hb)
    have HRT12 := Lib.hid (HRT11.out.below hb)
    clear hb HO11 HV11 HRB11 HRC11 HRD11 HRS11 HRT11
    go_wp2_with fail
    refine (rchk6_calls p _ _ _ x neg _ HN.out HP.out (HR.out.below HB12.out) HL.out).mono ?_
    rintro e w13 ⟨rfl, hb⟩
    have HB13 := Lib.hid (blT HB12.out hb)
    have HO13 := Lib.hid (HO12.out.grown hb)
    have HXX13 := Lib.hid (blT HXX12.out hb)
    have HV13 := Lib.hid (HV12.out.below hb)
    have HRB13 := Lib.hid (HRB12.out.below hb)
    have HRC13 := Lib.hid (HRC12.out.below hb)
    have HRD13 := Lib.hid (HRD12.out.below hb)
    have HRS13 := Lib.hid (HRS12.out.below hb)
    have HRT13 := Lib.hid (HRT12.out.below hb)
    clear hb HO12 HV12 HRB12 HRC12 HRD12 HRS12 HRT12
    go_wp2
    go_loopw [141] (fun i wr => ∃ (k : Nat) (cs : List Int), k ≤ ka ∧ i = .int .i64 k ∧ Hid (Own wr w2.heap.size 40 1 Z3 ka z3 (nums .u64 cs)) ∧ Hid (Below w2.heap.size w2 wr)) (fun i _ => ka - (intOf i).toNat)
    case atStart => exact ⟨0, a1, Nat.zero_le _, rfl, HO13, HXX13⟩
    case round =>
      obtain ⟨k, cs, hk, rfl, HCR, HBR⟩ := hrel
      by_cases hlt : k < ka
      · obtain ⟨g, cap, hzv, _, _⟩ := World.ownsRow.form HCR.out (show 0 < ka by omega)
        cases hzv
        have hlen : cs.length = ka := by
          have h1 := HCR.out.len
          rw [nums_length] at h1
          omega
        have hcz : wr.cell? ⟨g, k, none⟩ = some (.int .u64 (cs[k]'(by omega))) := by
          rw [HCR.out.cellAt k hlt]; exact nums_get .u64 _ k (by omega)
        have hfz : wr.frozen? ⟨g, k, none⟩ = false := HCR.out.frozenAt k
        have HGB := Lib.hid HCR.out.base
        generalize cs[k]'(by omega) = u at *
        have HST : Hid (Own (wr.setCell ⟨g, k, none⟩ (.int .u64 (IntKind.u64.wrap (u + 1)))) w2.heap.size 40 1 (some ⟨g, 0, none⟩) ka z3 (nums .u64 (cs.set k (IntKind.u64.wrap (u + 1))))) := Lib.hid (by
          have h1 := HCR.out.stored k (.int .u64 (IntKind.u64.wrap (u + 1)))
          rw [nums_set] at h1
          exact h1)
        have HSB := Lib.hid (Below.setCell (p := ⟨g, k, none⟩) HBR.out HGB.out.1 (.int .u64 (IntKind.u64.wrap (u + 1))))
        generalize hz : IntKind.u64.wrap (u + 1) = z at *
        go_wp2
        go_roundw
        case rel => exact ⟨k + 1, cs.set k z, by omega, by go_num, HST, HSB⟩
        case measure => simp [intOf]; omega
      · have HBE := Lib.hid (blT HB2.out HBR.out)
        go_wp2_with fail
        refine (same_n _ _ _ _ n n x x _ HN.out HN.out (HR.out.below HBE.out) HL.out (HVW.out.below HBR.out)).mono ?_
        rw [show decide (x = x) = true from decide_eq_true rfl]
        rintro e w99 ⟨rfl, ⟨q99, rfl⟩⟩
        go_wp2
        go_ret
        exact ⟨by first | rfl | (simp; done), below_drewN HBE.out _⟩
end Go.Proofs.YtnlmmgcjhedjkaaDoor.P
