
/- The law StepWhole, walked. Conditions: words of their kinds; slices read as lists; the library's table lies as it was laid. -/
import Derived.Test.YtohcoidbncbijaaDoorStL
import Derived.Test.YtohcoidbncbijaaDoorPlY
import Derived.Test.YtohcoidbncbijaaDoorPlA
import Derived.Test.YtohcoidbncbijaaDoorGrY
import Derived.Test.YtohcoidbncbijaaDoorStV
import Derived.Test.YtohcoidbncbijaaDoorStU
import Derived.Test.YtohcoidbncbijaaDoorGrF
import Derived.Test.YtohcoidbncbijaaDoorRound3
namespace Go.Proofs.YtohcoidbncbijaaDoor.P
open Go.RowKit
set_option linter.unusedVariables false
set_option linter.unusedSimpArgs false
set_option maxRecDepth 100000 in
set_option maxHeartbeats 8000000 in
theorem stepWhole_walk (p : Int) (A : Option Addr) (ca : Nat) (ax : List (Int × Bool)) (a : Int) (inv : Bool) (X : Option Addr) (cx : Nat) (x : List Int) (w : World) (hp : U64 p) (hr : Row w A (axR ax)) (hla : ax.length * 16 ≤ 140737488351232) (hcap : ax.length ≤ ca) (hwa : ∀ a ∈ ax, (Lit.int .i64 a.1).wf = true) (ha : i64 a) (hrx : Row w X (nums .u64 x)) (hlx : x.length * 8 ≤ 140737488351232) (hwx : ∀ d ∈ x, (Lit.int .u64 d).wf = true) (hT : Tab w) :
    Calls Tryd.prog 18 #[.int .u64 p, .slice A ax.length ca, .int .i64 a, .bool inv, .slice X x.length cx] w fun e w' => e = .returned (.bool true) ∧ Below w.heap.size w w' := by
  have HP := Lib.hid hp
  have HR := Lib.hid hr
  have HT := Lib.hid hT
  have HW : Hid (∀ a ∈ ax, i64 a.1) := Lib.hid fun a ha => i64_wf (hwa a ha)
  clear hp hr hT hwa
  generalize hn : ax.length = n at *
  have HN := Lib.hid hn
  have HL : Hid (n ≤ 8796093022208) := Lib.hid (by omega)
  clear hn hla hcap
  have HRX := Lib.hid hrx
  have HWX : Hid (∀ d ∈ x, U64 d) := Lib.hid fun d hd => u64_wf (hwx d hd)
  clear hrx hwx
  generalize hm : x.length = m at *
  have HM := Lib.hid hm
  have HLM : Hid (m ≤ 9223372036854775807) := Lib.hid (by omega)
  have HM8 : Hid (m * 8 ≤ 140737488351232) := Lib.hid hlx
  clear hm hlx
  go_enter Tryd.func18, Tryd.ntmps18
  go_wp2_with fail
  refine (live16_calls _ HT.out).mono ?_
  rintro e w1 ⟨rfl, hb1⟩
  have HB1 := Lib.hid hb1
  clear hb1
  go_wp2_with fail
  refine (few7_calls _ _ _ ax _ _ HN.out (HR.out.below HB1.out) HL.out HW.out).mono ?_
  rintro e w2 ⟨r, rfl, hb⟩
  have HB2 := Lib.hid (blT HB1.out hb)
  clear hb HB1
  cases r
  case false =>
    go_wp2
    go_ret
    exact ⟨rfl, HB2.out⟩
  by_cases h50 : 40 < m
  case pos =>
    have f50 : decide ((40 : Int) < (m : Int)) = true := by simp; omega
    have f51 : decide (40 < m) = true := by simp; omega
    go_wp2
    go_ret
    exact ⟨by first | rfl | (simp; done), HB2.out⟩
  have f50 : decide ((40 : Int) < (m : Int)) = false := by simp; omega
  have f51 : decide (40 < m) = false := by simp; omega
  by_cases hs0 : (axS p ax a inv x).2 = 0
  case neg =>
    have hs1 : (axS p ax a inv x).1 = [] := by
      unfold axS at hs0 ⊢
      split
      · split
        · rename_i h1 h2; rw [if_pos h1, if_pos h2] at hs0; exact absurd rfl hs0
        · rfl
      · rfl
    obtain ⟨er, her⟩ : ∃ e, (axS p ax a inv x).2 = e := ⟨_, rfl⟩
    have HF : Hid (axS p ax a inv x = ([], er)) := Lib.hid (Prod.ext hs1 her)
    rw [her] at hs0
    have t0 : (er != 0) = true := by simpa using hs0
    clear hs0 hs1 her
    go_wp2_with fail
    refine (axis7_calls p A _ n ax a inv X cx m x w2 HN.out HM.out HP.out (HR.out.below HB2.out) HL.out HW.out (HRX.out.below HB2.out) HLM.out HWX.out (HT.out.below HB2.out)).mono ?_
    rw [HF.out]
    rintro e w3 ⟨B, b, rfl, ho, hb⟩
    have HB3 := Lib.hid (blT HB2.out hb)
    clear ho hb
    dsimp only
    go_wp2
    go_ret
    exact ⟨by first | rfl | (simp; done), HB3.out⟩
  have hc : wrd7 p ax x = 0 := by
    unfold axS at hs0
    split at hs0
    · assumption
    · exact hs0
  have hrg : 0 ≤ a ∧ a < ax.length := by
    unfold axS at hs0
    rw [if_pos hc] at hs0
    split at hs0
    · assumption
    · exact absurd hs0 (by decide)
  clear hs0
  obtain ⟨h0, h1⟩ := hrg
  obtain ⟨k, rfl⟩ := Int.eq_ofNat_of_zero_le h0
  have hka : k < ax.length := by omega
  have hkn : k < n := by have := HN.out; omega
  obtain ⟨hC7, hPL, hIN⟩ := wrd7_ok hc
  have HWB : Hid (WrdB p ax x) := Lib.hid ⟨hC7.known, hPL, hIN, HWX.out⟩
  obtain ⟨hA, hC6⟩ := hC7.at hka
  have hdA := dimsA_at ax hka 1
  obtain ⟨N, hN⟩ := Int.eq_ofNat_of_zero_le (show 0 ≤ (dimsA ax).getD k 1 by have := hA.D1; omega)
  obtain ⟨neg, hneg⟩ : ∃ b, (ax.getD k (1, false)).2 = b := ⟨_, rfl⟩
  have hge : ax.getD k (1, false) = ((N : Int), neg) := Prod.ext (by rw [← hdA, hN]) hneg
  have HF : Hid (axS p ax (k : Int) inv x = (axL p (dimsA ax) k neg inv x, 0)) := Lib.hid (by
    rw [axS, if_pos hc, if_pos ⟨h0, by omega⟩, Int.toNat_natCast, hge])
  have HMAY : Hid (∀ s ∈ stepsA inv k ((N : Int), neg), chk16 p ax s = 0) := Lib.hid fun s hs => step_may hC7 hka (by rw [hge]; exact hs)
  have HEND : Hid (runB p ax ((stepsA inv k ((N : Int), neg)).map fun s => (inv, s)) x = axL p (dimsA ax) k neg inv x) := Lib.hid (by
    rw [runB_map]
    have h2 := axis_run hC7 hka inv hPL hIN HWX.out
    rw [hge] at h2
    exact h2)
  have HLG : Hid (((axL p (dimsA ax) k neg inv x, (0 : Int)).1).length = m) := Lib.hid (by rw [axL_length]; exact HM.out)
  have HLG2 : Hid ((axL p (dimsA ax) k neg inv x).length = m) := Lib.hid (by rw [axL_length]; exact HM.out)
  generalize axL p (dimsA ax) k neg inv x = want at *
  have hge2 : ax[k] = ((N : Int), neg) := by
    have h2 := hge
    rw [List.getD_eq_getElem?_getD, List.getElem?_eq_getElem hka] at h2
    exact h2
  obtain ⟨hg1, hg2⟩ := smooth_stg (hC7.smooth _ (List.getElem_mem hka))
  rw [hge2] at hg1 hg2
  dsimp only at hg1 hg2
  obtain ⟨st, hst⟩ : ∃ st, st = (stgS (N : Int)).1 := ⟨_, rfl⟩
  have HSS : Hid (stgS (N : Int) = (st, 0)) := Lib.hid (Prod.ext hst.symm hg1)
  rw [← hst] at hg2
  have HM12 := Lib.hid hg2
  have HIN : Hid (i64 (N : Int)) := Lib.hid (by
    have h2 := HW.out _ (List.getElem_mem hka)
    rw [hge2] at h2
    exact h2)
  obtain ⟨xa, rfl⟩ := HR.out.some_of (by intro h0; have h1 := axR_length ax; rw [h0] at h1; simp at h1; omega)
  have HAC : Hid (∀ ws, Row ws (some xa) (axR ax) → ws.cell? (xa.add (k * 2)) = some (.int .i64 (N : Int)) ∧ ws.cell? ⟨(xa.add (k * 2)).block, (xa.add (k * 2)).off + 1, none⟩ = some (.bool neg)) := Lib.hid fun ws h => by
    have h1 := ax_cells h hka
    rw [hge2] at h1
    exact h1
  have g1 : decide ((k : Int) < 0) = false := by simp
  have g2 : decide ((n : Int) ≤ (k : Int)) = false := by simp; omega
  have g3 : decide (n ≤ k) = false := by simp; omega
  clear hc h0 h1 hka hC7 hPL hIN hA hC6 hdA hN hneg hge hge2 hg1 hg2 hst
  go_wp2_with fail
  refine (axis7_calls p (some xa) _ n ax (k : Int) inv X cx m x w2 HN.out HM.out HP.out (HR.out.below HB2.out) HL.out HW.out (HRX.out.below HB2.out) HLM.out HWX.out (HT.out.below HB2.out)).mono ?_
  rw [HF.out, HLG.out]
  rintro e w3 ⟨G, cg, rfl, ho, hb⟩
  have HB3 := Lib.hid (blT HB2.out hb)
  have HRG := Lib.hid ho.row
  clear ho hb
  dsimp only
  obtain ⟨c0, c1⟩ := HAC.out _ (HR.out.below HB3.out)
  go_wp2_with fail
  refine (stages_calls (N : Int) w3 HIN.out (HT.out.below HB3.out)).mono ?_
  rw [HSS.out]
  rintro e w4 ⟨SB, sb, rfl, ho, hb⟩
  have HB4 := Lib.hid (blT HB3.out hb)
  have HRG4 := Lib.hid (HRG.out.below hb)
  have HST := Lib.hid ho.row
  clear ho hb c0 c1 g1 g2
  dsimp only
  obtain ⟨c0, c1⟩ := HAC.out _ (HR.out.below HB4.out)
  cases inv
  · cases neg
    · skip
      have hle : stepsA false k ((N : Int), false) = st.map (sgS k) := by
        unfold stepsA
        rw [HSS.out]
        simp [sgS]
      rw [hle] at HMAY HEND
      clear hle
      obtain ⟨l, hl⟩ : ∃ l, l = st.map (sgS k) := ⟨_, rfl⟩
      rw [← hl] at HMAY HEND
      have HLIS : Hid (l = st.map (sgS k)) := Lib.hid hl
      have HLEN : Hid (l.length = st.length) := Lib.hid (by rw [hl]; simp [Nat.add_comm])
      have HL15 : Hid (l.length ≤ 15) := Lib.hid (by have h1 := HLEN.out; have h2 := HM12.out; omega)
      clear hl
      go_wp2
      go_loopw [15, 83] (fun v q ws => ∃ (j : Nat) (Z : Option Addr) (z : Nat), j ≤ st.length ∧ q = .int .i64 j ∧ v = .slice Z j z ∧ Hid (Own ws w4.heap.size 39 5 Z j z (spR ((st.take j).map (sgS k)))) ∧ Hid (Below w4.heap.size w4 ws)) (fun _ q _ => st.length - (intOf q).toNat)
      case atStart => exact ⟨0, none, 0, Nat.zero_le _, rfl, rfl, Lib.hid (Own.nil _ _ _ _), Lib.hid (Below.refl _ _)⟩
      case round =>
        obtain ⟨j, Z, z, hj, rfl, rfl, HOJ, HBJ⟩ := hrel
        by_cases hjt : j < st.length
        · have HRJ := Lib.hid (HST.out.below HBJ.out)
          obtain ⟨ba, rfl⟩ := HRJ.out.some_of (by intro h0; have h1 := stR3_length st; rw [h0] at h1; simp at h1; omega)
          obtain ⟨hs0, hs1, hs2⟩ := stg_cells HRJ.out hjt
          have HTK : Hid (spR ((st.take (j + 1)).map (sgS k)) = spR ((st.take j).map (sgS k)) ++ spC (sgS k st[j])) := Lib.hid (by rw [take_map_succ (sgS k) st hjt, spR_append _ [_], spR_one])
          generalize st[j] = s at *
          obtain ⟨s0, s1, s2⟩ := s
          dsimp only at hs0 hs1 hs2
          have hm12 := HM12.out
          have HSZ := Lib.hid HBJ.out.size
          have hrn : Row ((wr.alloc (.cells #[.int .i64 s0, .int .i64 s1, .int .i64 s2] 37)).alloc (.cells #[.int .i64 (k : Int), .bool false, .int .i64 s0, .int .i64 s1, .int .i64 s2] 39)) (some ⟨wr.heap.size + 1, 0, none⟩) (spC (sgS k (s0, s1, s2))) := by
            have h1 := row_new (wr.alloc (.cells #[.int .i64 s0, .int .i64 s1, .int .i64 s2] 37)) [.int .i64 (k : Int), .bool false, .int .i64 s0, .int .i64 s1, .int .i64 s2] 39
            rw [show (wr.alloc (.cells #[.int .i64 s0, .int .i64 s1, .int .i64 s2] 37)).heap.size = wr.heap.size + 1 by simp] at h1
            exact h1
          have hb9 : Below wr.heap.size wr ((wr.alloc (.cells #[.int .i64 s0, .int .i64 s1, .int .i64 s2] 37)).alloc (.cells #[.int .i64 (k : Int), .bool false, .int .i64 s0, .int .i64 s1, .int .i64 s2] 39)) := ((Below.refl _ _).alloc (Nat.le_refl _) _).alloc (by simp) _
          go_wp2_with (at_builtin; (refine append_cells_any _ Tryd.underlying26 info_step rfl (by decide) rfl _ _ rfl w4.heap.size j z 1 1 Z (some ⟨wr.heap.size + 1, 0, none⟩) (spR ((st.take j).map (sgS k))) (spC (sgS k (s0, s1, s2))) rfl rfl (HOJ.out.grown hb9) hrn rfl (spC_one _) (Nat.le_trans HSZ.out hb9.size) (by omega) (by omega) ?_); intro A6 cap2 w6 hown hbel)
          have HO6 : Hid (Own w6 w4.heap.size 39 5 A6 (j + 1) cap2 (spR ((st.take (j + 1)).map (sgS k)))) := Lib.hid (by rw [HTK.out]; exact hown)
          have HB6 : Hid (Below w4.heap.size w4 w6) := Lib.hid ((blT HBJ.out hb9).trans (hbel.mono (Nat.le_refl _)))
          clear hown hbel hrn hb9 hm12
          go_roundw
          case rel => exact ⟨j + 1, A6, cap2, by omega, by go_num, rfl, HO6, HB6⟩
          case measure => simp [intOf]; omega
        · have hje : j = st.length := by omega
          subst hje
          have HOE : Hid (Own wr w4.heap.size 39 5 Z st.length z (spR (st.map (sgS k)))) := Lib.hid (by have h1 := HOJ.out; rw [List.take_length] at h1; exact h1)
          have hwr : ∃ w8, w8 = wr := ⟨_, rfl⟩
          obtain ⟨w8, hw8⟩ := hwr
          clear hjt HOJ
          rw [← hw8] at HOE HBJ
          rw [← hw8]
          clear hw8
          have HBW8 := HBJ
          have HRL8 : Hid (Row w8 Z (spR l)) := Lib.hid (by rw [HLIS.out]; exact HOE.out.row)
          rw [show st.length = l.length from HLEN.out.symm]
          go_wp2
          have HB8 : Hid (Below w.heap.size w w8) := Lib.hid (blT HB4.out HBW8.out)
          have HX8 := Lib.hid (HRX.out.below HB8.out)
          have HRG8 := Lib.hid (HRG4.out.below HBW8.out)
          have hlen := HL15.out
          obtain ⟨K, hK⟩ : ∃ K, l.length = K := ⟨_, rfl⟩
          have HK : Hid (l.length = K) := Lib.hid hK
          rw [hK] at hlen
          rw [hK]
          clear hK
          go_loopw [4, 102] (fun v q wr => ∃ (i : Nat) (Z : Option Addr) (z : Nat), i ≤ K ∧ q = .int .i64 i ∧ v = .slice Z m z ∧ Hid (Row wr Z (nums .u64 (runB p ax ((l.map fun s => (false, s)).take i) x))) ∧ Hid (Below w8.heap.size w8 wr)) (fun _ q _ => K - (intOf q).toNat)
          case atStart => exact ⟨0, X, cx, Nat.zero_le _, rfl, rfl, Lib.hid HX8.out, Lib.hid (Below.refl _ _)⟩
          case round =>
            obtain ⟨i, Z, z, hi, rfl, rfl, HRZ, HB9⟩ := hrel
            have HB10 := Lib.hid (blT HB8.out HB9.out)
            by_cases hlt : i < K
            · have hil : i < l.length := by have := HK.out; omega
              obtain ⟨la, rfl⟩ := HRL8.out.some_of (by intro h0; have h1 := spR_length l; rw [h0] at h1; simp at h1; omega)
              obtain ⟨b0, b1, b2, b3, b4⟩ := sp_cells (HRL8.out.below HB9.out) hil
              have HMI := Lib.hid (HMAY.out _ (List.getElem_mem hil))
              have HTK : Hid (runB p ax ((l.map fun s => (false, s)).take (i + 1)) x = stepDo p ax false l[i] (runB p ax ((l.map fun s => (false, s)).take i) x)) := Lib.hid (by
                rw [runB_take p ax _ x (i := i) (by simpa using hil)]
                simp)
              have HWY := Lib.hid (HWB.out.run ((l.map fun s => (false, s)).take i))
              obtain ⟨⟨s0, s1, s2, s3, s4⟩, hs⟩ : ∃ s, l[i] = s := ⟨_, rfl⟩
              rw [hs] at HMI HTK b0 b1 b2 b3 b4
              dsimp only at b0 b1 b2 b3 b4
              clear hs hil
              generalize runB p ax ((l.map fun s => (false, s)).take i) x = y at *
              have HMY : Hid (y.length = m) := Lib.hid (by have h1 := HWY.out.all; have h2 := HWB.out.all; have h3 := HM.out; omega)
              have HDO := Lib.hid ((HWY.out.may HMI.out).do false)
              have HLD : Hid (((stepDo p ax false (s0, s1, s2, s3, s4) y, (0 : Int)).1).length = m) := Lib.hid (by rw [stepDo_length]; exact HMY.out)
              have hbA : Below wr.heap.size wr (wr.alloc (.cells #[.int .i64 s0, .bool s1, .int .i64 s2, .int .i64 s3, .int .i64 s4] 39)) := (Below.refl _ _).alloc (Nat.le_refl _) _
              have HBA := Lib.hid hbA
              clear hbA
              go_wp2_with fail
              clear b0 b1 b2 b3 b4
              generalize (wr.alloc (.cells #[.int .i64 s0, .bool s1, .int .i64 s2, .int .i64 s3, .int .i64 s4] 39)) = V at *
              have HBV : Hid (Below w.heap.size w V) := Lib.hid (blT HB10.out HBA.out)
              refine (sdo_calls p (some xa) _ n ax false s0 s1 s2 s3 s4 Z z m y V HN.out HMY.out HP.out (HR.out.below HBV.out) HL.out HW.out (HRZ.out.below HBA.out) HLM.out HWY.out.u64 (HT.out.below HBV.out)).mono ?_
              rw [HDO.out, HLD.out]
              rintro e w11 ⟨Y, cy, rfl, ho, hb⟩
              have HRY : Hid (Row w11 Y (nums .u64 (runB p ax ((l.map fun s => (false, s)).take (i + 1)) x))) := Lib.hid (by rw [HTK.out]; exact ho.row)
              have HB12 : Hid (Below w8.heap.size w8 w11) := Lib.hid (blT (blT HB9.out HBA.out) hb)
              clear ho hb
              dsimp only
              go_wp2
              go_roundw
              case rel => exact ⟨i + 1, Y, cy, by omega, by go_num, rfl, HRY, HB12⟩
              case measure => simp [intOf]; omega
            · have hie : i = K := by omega
              have HRE : Hid (Row wr Z (nums .u64 want)) := Lib.hid (by
                have h1 := HRZ.out
                rw [List.take_of_length_le (by simp; have := HK.out; omega), HEND.out] at h1
                exact h1)
              clear hie HRZ
              go_wp2_with fail
              refine (same_n _ _ _ _ m m want want _ HLG2.out HLG2.out HRE.out HLM.out (HRG8.out.below HB9.out)).mono ?_
              rw [show decide (want = want) = true from decide_eq_true rfl]
              rintro e w9 ⟨rfl, ⟨q9, rfl⟩⟩
              go_wp2
              go_ret
              exact ⟨by first | rfl | (simp; done), below_drewN HB10.out q9⟩
    · skip
      have hle : stepsA false k ((N : Int), true) = [((k : Int), true, 0, 0, 0)] ++ st.map (sgS k) := by
        unfold stepsA
        rw [HSS.out]
        simp [sgS]
      rw [hle] at HMAY HEND
      clear hle
      obtain ⟨l, hl⟩ : ∃ l, l = [((k : Int), true, 0, 0, 0)] ++ st.map (sgS k) := ⟨_, rfl⟩
      rw [← hl] at HMAY HEND
      have HLIS : Hid (l = [((k : Int), true, 0, 0, 0)] ++ st.map (sgS k)) := Lib.hid hl
      have HLEN : Hid (l.length = 1 + st.length) := Lib.hid (by rw [hl]; simp [Nat.add_comm])
      have HL15 : Hid (l.length ≤ 15) := Lib.hid (by have h1 := HLEN.out; have h2 := HM12.out; omega)
      clear hl
      have hrn0 : Row (w4.alloc (.cells #[.int .i64 (k : Int), .bool true, .int .i64 0, .int .i64 0, .int .i64 0] 39)) (some ⟨w4.heap.size, 0, none⟩) (spC ((k : Int), true, 0, 0, 0)) := row_new w4 [.int .i64 (k : Int), .bool true, .int .i64 0, .int .i64 0, .int .i64 0] 39
      have hbn0 : Below w4.heap.size w4 (w4.alloc (.cells #[.int .i64 (k : Int), .bool true, .int .i64 0, .int .i64 0, .int .i64 0] 39)) := (Below.refl _ _).alloc (Nat.le_refl _) _
      go_wp2_with (at_builtin; (refine append_cells_any _ Tryd.underlying26 info_step rfl (by decide) rfl _ _ rfl w4.heap.size 0 0 1 1 none (some ⟨w4.heap.size, 0, none⟩) [] (spC ((k : Int), true, 0, 0, 0)) rfl rfl (Own.nil _ _ _ _) hrn0 rfl (spC_one _) hbn0.size (by omega) (by omega) ?_); intro A5 c5 w5 hown50 hbel50; have HO5 : Hid (Own w5 w4.heap.size 39 5 A5 1 c5 (spC ((k : Int), true, 0, 0, 0))) := Lib.hid (by simpa using hown50); have HB5 : Hid (Below w4.heap.size w4 w5) := Lib.hid (hbn0.trans hbel50); clear hown50 hbel50 hrn0 hbn0)
      go_loopw [15, 83] (fun v q ws => ∃ (j : Nat) (Z : Option Addr) (z : Nat), j ≤ st.length ∧ q = .int .i64 j ∧ v = .slice Z (1 + j) z ∧ Hid (Own ws w4.heap.size 39 5 Z (1 + j) z (spR ([((k : Int), true, 0, 0, 0)] ++ (st.take j).map (sgS k)))) ∧ Hid (Below w4.heap.size w4 ws)) (fun _ q _ => st.length - (intOf q).toNat)
      case atStart => exact ⟨0, A5, c5, Nat.zero_le _, rfl, rfl, Lib.hid (by rw [List.take_zero, List.map_nil, List.append_nil, spR_one]; exact HO5.out), HB5⟩
      case round =>
        obtain ⟨j, Z, z, hj, rfl, rfl, HOJ, HBJ⟩ := hrel
        by_cases hjt : j < st.length
        · have HRJ := Lib.hid (HST.out.below HBJ.out)
          obtain ⟨ba, rfl⟩ := HRJ.out.some_of (by intro h0; have h1 := stR3_length st; rw [h0] at h1; simp at h1; omega)
          obtain ⟨hs0, hs1, hs2⟩ := stg_cells HRJ.out hjt
          have HTK : Hid (spR ([((k : Int), true, 0, 0, 0)] ++ (st.take (j + 1)).map (sgS k)) = spR ([((k : Int), true, 0, 0, 0)] ++ (st.take j).map (sgS k)) ++ spC (sgS k st[j])) := Lib.hid (by rw [take_map_succ (sgS k) st hjt, ← List.append_assoc, spR_append _ [_], spR_one])
          generalize st[j] = s at *
          obtain ⟨s0, s1, s2⟩ := s
          dsimp only at hs0 hs1 hs2
          have hm12 := HM12.out
          have HSZ := Lib.hid HBJ.out.size
          have hrn : Row ((wr.alloc (.cells #[.int .i64 s0, .int .i64 s1, .int .i64 s2] 37)).alloc (.cells #[.int .i64 (k : Int), .bool false, .int .i64 s0, .int .i64 s1, .int .i64 s2] 39)) (some ⟨wr.heap.size + 1, 0, none⟩) (spC (sgS k (s0, s1, s2))) := by
            have h1 := row_new (wr.alloc (.cells #[.int .i64 s0, .int .i64 s1, .int .i64 s2] 37)) [.int .i64 (k : Int), .bool false, .int .i64 s0, .int .i64 s1, .int .i64 s2] 39
            rw [show (wr.alloc (.cells #[.int .i64 s0, .int .i64 s1, .int .i64 s2] 37)).heap.size = wr.heap.size + 1 by simp] at h1
            exact h1
          have hb9 : Below wr.heap.size wr ((wr.alloc (.cells #[.int .i64 s0, .int .i64 s1, .int .i64 s2] 37)).alloc (.cells #[.int .i64 (k : Int), .bool false, .int .i64 s0, .int .i64 s1, .int .i64 s2] 39)) := ((Below.refl _ _).alloc (Nat.le_refl _) _).alloc (by simp) _
          go_wp2_with (at_builtin; (refine append_cells_any _ Tryd.underlying26 info_step rfl (by decide) rfl _ _ rfl w4.heap.size (1 + j) z 1 1 Z (some ⟨wr.heap.size + 1, 0, none⟩) (spR ([((k : Int), true, 0, 0, 0)] ++ (st.take j).map (sgS k))) (spC (sgS k (s0, s1, s2))) rfl rfl (HOJ.out.grown hb9) hrn rfl (spC_one _) (Nat.le_trans HSZ.out hb9.size) (by omega) (by omega) ?_); intro A6 cap2 w6 hown hbel)
          have HO6 : Hid (Own w6 w4.heap.size 39 5 A6 (1 + (j + 1)) cap2 (spR ([((k : Int), true, 0, 0, 0)] ++ (st.take (j + 1)).map (sgS k)))) := Lib.hid (by rw [HTK.out]; exact hown)
          have HB6 : Hid (Below w4.heap.size w4 w6) := Lib.hid ((blT HBJ.out hb9).trans (hbel.mono (Nat.le_refl _)))
          clear hown hbel hrn hb9 hm12
          go_roundw
          case rel => exact ⟨j + 1, A6, cap2, by omega, by go_num, rfl, HO6, HB6⟩
          case measure => simp [intOf]; omega
        · have hje : j = st.length := by omega
          subst hje
          have HOE : Hid (Own wr w4.heap.size 39 5 Z (1 + st.length) z (spR ([((k : Int), true, 0, 0, 0)] ++ st.map (sgS k)))) := Lib.hid (by have h1 := HOJ.out; rw [List.take_length] at h1; exact h1)
          have hwr : ∃ w8, w8 = wr := ⟨_, rfl⟩
          obtain ⟨w8, hw8⟩ := hwr
          clear hjt HOJ
          rw [← hw8] at HOE HBJ
          rw [← hw8]
          clear hw8
          have HBW8 := HBJ
          have HRL8 : Hid (Row w8 Z (spR l)) := Lib.hid (by rw [HLIS.out]; exact HOE.out.row)
          rw [show 1 + st.length = l.length from HLEN.out.symm]
          go_wp2
          have HB8 : Hid (Below w.heap.size w w8) := Lib.hid (blT HB4.out HBW8.out)
          have HX8 := Lib.hid (HRX.out.below HB8.out)
          have HRG8 := Lib.hid (HRG4.out.below HBW8.out)
          have hlen := HL15.out
          obtain ⟨K, hK⟩ : ∃ K, l.length = K := ⟨_, rfl⟩
          have HK : Hid (l.length = K) := Lib.hid hK
          rw [hK] at hlen
          rw [hK]
          clear hK
          go_loopw [4, 102] (fun v q wr => ∃ (i : Nat) (Z : Option Addr) (z : Nat), i ≤ K ∧ q = .int .i64 i ∧ v = .slice Z m z ∧ Hid (Row wr Z (nums .u64 (runB p ax ((l.map fun s => (false, s)).take i) x))) ∧ Hid (Below w8.heap.size w8 wr)) (fun _ q _ => K - (intOf q).toNat)
          case atStart => exact ⟨0, X, cx, Nat.zero_le _, rfl, rfl, Lib.hid HX8.out, Lib.hid (Below.refl _ _)⟩
          case round =>
            obtain ⟨i, Z, z, hi, rfl, rfl, HRZ, HB9⟩ := hrel
            have HB10 := Lib.hid (blT HB8.out HB9.out)
            by_cases hlt : i < K
            · have hil : i < l.length := by have := HK.out; omega
              obtain ⟨la, rfl⟩ := HRL8.out.some_of (by intro h0; have h1 := spR_length l; rw [h0] at h1; simp at h1; omega)
              obtain ⟨b0, b1, b2, b3, b4⟩ := sp_cells (HRL8.out.below HB9.out) hil
              have HMI := Lib.hid (HMAY.out _ (List.getElem_mem hil))
              have HTK : Hid (runB p ax ((l.map fun s => (false, s)).take (i + 1)) x = stepDo p ax false l[i] (runB p ax ((l.map fun s => (false, s)).take i) x)) := Lib.hid (by
                rw [runB_take p ax _ x (i := i) (by simpa using hil)]
                simp)
              have HWY := Lib.hid (HWB.out.run ((l.map fun s => (false, s)).take i))
              obtain ⟨⟨s0, s1, s2, s3, s4⟩, hs⟩ : ∃ s, l[i] = s := ⟨_, rfl⟩
              rw [hs] at HMI HTK b0 b1 b2 b3 b4
              dsimp only at b0 b1 b2 b3 b4
              clear hs hil
              generalize runB p ax ((l.map fun s => (false, s)).take i) x = y at *
              have HMY : Hid (y.length = m) := Lib.hid (by have h1 := HWY.out.all; have h2 := HWB.out.all; have h3 := HM.out; omega)
              have HDO := Lib.hid ((HWY.out.may HMI.out).do false)
              have HLD : Hid (((stepDo p ax false (s0, s1, s2, s3, s4) y, (0 : Int)).1).length = m) := Lib.hid (by rw [stepDo_length]; exact HMY.out)
              have hbA : Below wr.heap.size wr (wr.alloc (.cells #[.int .i64 s0, .bool s1, .int .i64 s2, .int .i64 s3, .int .i64 s4] 39)) := (Below.refl _ _).alloc (Nat.le_refl _) _
              have HBA := Lib.hid hbA
              clear hbA
              go_wp2_with fail
              clear b0 b1 b2 b3 b4
              generalize (wr.alloc (.cells #[.int .i64 s0, .bool s1, .int .i64 s2, .int .i64 s3, .int .i64 s4] 39)) = V at *
              have HBV : Hid (Below w.heap.size w V) := Lib.hid (blT HB10.out HBA.out)
              refine (sdo_calls p (some xa) _ n ax false s0 s1 s2 s3 s4 Z z m y V HN.out HMY.out HP.out (HR.out.below HBV.out) HL.out HW.out (HRZ.out.below HBA.out) HLM.out HWY.out.u64 (HT.out.below HBV.out)).mono ?_
              rw [HDO.out, HLD.out]
              rintro e w11 ⟨Y, cy, rfl, ho, hb⟩
              have HRY : Hid (Row w11 Y (nums .u64 (runB p ax ((l.map fun s => (false, s)).take (i + 1)) x))) := Lib.hid (by rw [HTK.out]; exact ho.row)
              have HB12 : Hid (Below w8.heap.size w8 w11) := Lib.hid (blT (blT HB9.out HBA.out) hb)
              clear ho hb
              dsimp only
              go_wp2
              go_roundw
              case rel => exact ⟨i + 1, Y, cy, by omega, by go_num, rfl, HRY, HB12⟩
              case measure => simp [intOf]; omega
            · have hie : i = K := by omega
              have HRE : Hid (Row wr Z (nums .u64 want)) := Lib.hid (by
                have h1 := HRZ.out
                rw [List.take_of_length_le (by simp; have := HK.out; omega), HEND.out] at h1
                exact h1)
              clear hie HRZ
              go_wp2_with fail
              refine (same_n _ _ _ _ m m want want _ HLG2.out HLG2.out HRE.out HLM.out (HRG8.out.below HB9.out)).mono ?_
              rw [show decide (want = want) = true from decide_eq_true rfl]
              rintro e w9 ⟨rfl, ⟨q9, rfl⟩⟩
              go_wp2
              go_ret
              exact ⟨by first | rfl | (simp; done), below_drewN HB10.out q9⟩
  · cases neg
    · skip
      have hle : stepsA true k ((N : Int), false) = st.map (sgS k) ++ [((k : Int), true, 0, 0, 0)] := by
        unfold stepsA
        rw [HSS.out]
        simp [sgS]
      rw [hle] at HMAY HEND
      clear hle
      obtain ⟨l, hl⟩ : ∃ l, l = st.map (sgS k) ++ [((k : Int), true, 0, 0, 0)] := ⟨_, rfl⟩
      rw [← hl] at HMAY HEND
      have HLIS : Hid (l = st.map (sgS k) ++ [((k : Int), true, 0, 0, 0)]) := Lib.hid hl
      have HLEN : Hid (l.length = st.length + 1) := Lib.hid (by rw [hl]; simp [Nat.add_comm])
      have HL15 : Hid (l.length ≤ 15) := Lib.hid (by have h1 := HLEN.out; have h2 := HM12.out; omega)
      clear hl
      go_wp2
      go_loopw [15, 83] (fun v q ws => ∃ (j : Nat) (Z : Option Addr) (z : Nat), j ≤ st.length ∧ q = .int .i64 j ∧ v = .slice Z j z ∧ Hid (Own ws w4.heap.size 39 5 Z j z (spR ((st.take j).map (sgS k)))) ∧ Hid (Below w4.heap.size w4 ws)) (fun _ q _ => st.length - (intOf q).toNat)
      case atStart => exact ⟨0, none, 0, Nat.zero_le _, rfl, rfl, Lib.hid (Own.nil _ _ _ _), Lib.hid (Below.refl _ _)⟩
      case round =>
        obtain ⟨j, Z, z, hj, rfl, rfl, HOJ, HBJ⟩ := hrel
        by_cases hjt : j < st.length
        · have HRJ := Lib.hid (HST.out.below HBJ.out)
          obtain ⟨ba, rfl⟩ := HRJ.out.some_of (by intro h0; have h1 := stR3_length st; rw [h0] at h1; simp at h1; omega)
          obtain ⟨hs0, hs1, hs2⟩ := stg_cells HRJ.out hjt
          have HTK : Hid (spR ((st.take (j + 1)).map (sgS k)) = spR ((st.take j).map (sgS k)) ++ spC (sgS k st[j])) := Lib.hid (by rw [take_map_succ (sgS k) st hjt, spR_append _ [_], spR_one])
          generalize st[j] = s at *
          obtain ⟨s0, s1, s2⟩ := s
          dsimp only at hs0 hs1 hs2
          have hm12 := HM12.out
          have HSZ := Lib.hid HBJ.out.size
          have hrn : Row ((wr.alloc (.cells #[.int .i64 s0, .int .i64 s1, .int .i64 s2] 37)).alloc (.cells #[.int .i64 (k : Int), .bool false, .int .i64 s0, .int .i64 s1, .int .i64 s2] 39)) (some ⟨wr.heap.size + 1, 0, none⟩) (spC (sgS k (s0, s1, s2))) := by
            have h1 := row_new (wr.alloc (.cells #[.int .i64 s0, .int .i64 s1, .int .i64 s2] 37)) [.int .i64 (k : Int), .bool false, .int .i64 s0, .int .i64 s1, .int .i64 s2] 39
            rw [show (wr.alloc (.cells #[.int .i64 s0, .int .i64 s1, .int .i64 s2] 37)).heap.size = wr.heap.size + 1 by simp] at h1
            exact h1
          have hb9 : Below wr.heap.size wr ((wr.alloc (.cells #[.int .i64 s0, .int .i64 s1, .int .i64 s2] 37)).alloc (.cells #[.int .i64 (k : Int), .bool false, .int .i64 s0, .int .i64 s1, .int .i64 s2] 39)) := ((Below.refl _ _).alloc (Nat.le_refl _) _).alloc (by simp) _
          go_wp2_with (at_builtin; (refine append_cells_any _ Tryd.underlying26 info_step rfl (by decide) rfl _ _ rfl w4.heap.size j z 1 1 Z (some ⟨wr.heap.size + 1, 0, none⟩) (spR ((st.take j).map (sgS k))) (spC (sgS k (s0, s1, s2))) rfl rfl (HOJ.out.grown hb9) hrn rfl (spC_one _) (Nat.le_trans HSZ.out hb9.size) (by omega) (by omega) ?_); intro A6 cap2 w6 hown hbel)
          have HO6 : Hid (Own w6 w4.heap.size 39 5 A6 (j + 1) cap2 (spR ((st.take (j + 1)).map (sgS k)))) := Lib.hid (by rw [HTK.out]; exact hown)
          have HB6 : Hid (Below w4.heap.size w4 w6) := Lib.hid ((blT HBJ.out hb9).trans (hbel.mono (Nat.le_refl _)))
          clear hown hbel hrn hb9 hm12
          go_roundw
          case rel => exact ⟨j + 1, A6, cap2, by omega, by go_num, rfl, HO6, HB6⟩
          case measure => simp [intOf]; omega
        · have hje : j = st.length := by omega
          subst hje
          have HOE : Hid (Own wr w4.heap.size 39 5 Z st.length z (spR (st.map (sgS k)))) := Lib.hid (by have h1 := HOJ.out; rw [List.take_length] at h1; exact h1)
          have hrn0 : Row (wr.alloc (.cells #[.int .i64 (k : Int), .bool true, .int .i64 0, .int .i64 0, .int .i64 0] 39)) (some ⟨wr.heap.size, 0, none⟩) (spC ((k : Int), true, 0, 0, 0)) := row_new wr [.int .i64 (k : Int), .bool true, .int .i64 0, .int .i64 0, .int .i64 0] 39
          have hbn0 : Below wr.heap.size wr (wr.alloc (.cells #[.int .i64 (k : Int), .bool true, .int .i64 0, .int .i64 0, .int .i64 0] 39)) := (Below.refl _ _).alloc (Nat.le_refl _) _
          have hm12 := HM12.out
          have HSZ := Lib.hid HBJ.out.size
          clear hjt HOJ
          go_wp2_with (at_builtin; (refine append_cells_any _ Tryd.underlying26 info_step rfl (by decide) rfl _ _ rfl w4.heap.size st.length z 1 1 Z (some ⟨wr.heap.size, 0, none⟩) (spR (st.map (sgS k))) (spC ((k : Int), true, 0, 0, 0)) rfl rfl (HOE.out.grown hbn0) hrn0 rfl (spC_one _) (Nat.le_trans HSZ.out hbn0.size) (by omega) (by omega) ?_); intro A8 c8 w8 hown8 hbel8; have HRL0 : Hid (Row w8 A8 (spR (st.map (sgS k)) ++ spC ((k : Int), true, 0, 0, 0))) := Lib.hid hown8.row; have HBW8 : Hid (Below w4.heap.size w4 w8) := Lib.hid ((blT HBJ.out hbn0).trans hbel8); clear hown8 hbel8 hrn0 hbn0 hm12; rw [show st.length + 1 = l.length from HLEN.out.symm])
          have HRL8 : Hid (Row w8 A8 (spR l)) := Lib.hid (by rw [HLIS.out, spR_append, spR_one]; exact HRL0.out)
          clear HRL0
          have HB8 : Hid (Below w.heap.size w w8) := Lib.hid (blT HB4.out HBW8.out)
          have HX8 := Lib.hid (HRX.out.below HB8.out)
          have HRG8 := Lib.hid (HRG4.out.below HBW8.out)
          have hlen := HL15.out
          obtain ⟨K, hK⟩ : ∃ K, l.length = K := ⟨_, rfl⟩
          have HK : Hid (l.length = K) := Lib.hid hK
          rw [hK] at hlen
          rw [hK]
          clear hK
          go_loopw [4, 102] (fun v q wr => ∃ (i : Nat) (Z : Option Addr) (z : Nat), i ≤ K ∧ q = .int .i64 i ∧ v = .slice Z m z ∧ Hid (Row wr Z (nums .u64 (runB p ax ((l.map fun s => (true, s)).take i) x))) ∧ Hid (Below w8.heap.size w8 wr)) (fun _ q _ => K - (intOf q).toNat)
          case atStart => exact ⟨0, X, cx, Nat.zero_le _, rfl, rfl, Lib.hid HX8.out, Lib.hid (Below.refl _ _)⟩
          case round =>
            obtain ⟨i, Z, z, hi, rfl, rfl, HRZ, HB9⟩ := hrel
            have HB10 := Lib.hid (blT HB8.out HB9.out)
            by_cases hlt : i < K
            · have hil : i < l.length := by have := HK.out; omega
              obtain ⟨la, rfl⟩ := HRL8.out.some_of (by intro h0; have h1 := spR_length l; rw [h0] at h1; simp at h1; omega)
              obtain ⟨b0, b1, b2, b3, b4⟩ := sp_cells (HRL8.out.below HB9.out) hil
              have HMI := Lib.hid (HMAY.out _ (List.getElem_mem hil))
              have HTK : Hid (runB p ax ((l.map fun s => (true, s)).take (i + 1)) x = stepDo p ax true l[i] (runB p ax ((l.map fun s => (true, s)).take i) x)) := Lib.hid (by
                rw [runB_take p ax _ x (i := i) (by simpa using hil)]
                simp)
              have HWY := Lib.hid (HWB.out.run ((l.map fun s => (true, s)).take i))
              obtain ⟨⟨s0, s1, s2, s3, s4⟩, hs⟩ : ∃ s, l[i] = s := ⟨_, rfl⟩
              rw [hs] at HMI HTK b0 b1 b2 b3 b4
              dsimp only at b0 b1 b2 b3 b4
              clear hs hil
              generalize runB p ax ((l.map fun s => (true, s)).take i) x = y at *
              have HMY : Hid (y.length = m) := Lib.hid (by have h1 := HWY.out.all; have h2 := HWB.out.all; have h3 := HM.out; omega)
              have HDO := Lib.hid ((HWY.out.may HMI.out).do true)
              have HLD : Hid (((stepDo p ax true (s0, s1, s2, s3, s4) y, (0 : Int)).1).length = m) := Lib.hid (by rw [stepDo_length]; exact HMY.out)
              have hbA : Below wr.heap.size wr (wr.alloc (.cells #[.int .i64 s0, .bool s1, .int .i64 s2, .int .i64 s3, .int .i64 s4] 39)) := (Below.refl _ _).alloc (Nat.le_refl _) _
              have HBA := Lib.hid hbA
              clear hbA
              go_wp2_with fail
              clear b0 b1 b2 b3 b4
              generalize (wr.alloc (.cells #[.int .i64 s0, .bool s1, .int .i64 s2, .int .i64 s3, .int .i64 s4] 39)) = V at *
              have HBV : Hid (Below w.heap.size w V) := Lib.hid (blT HB10.out HBA.out)
              refine (sdo_calls p (some xa) _ n ax true s0 s1 s2 s3 s4 Z z m y V HN.out HMY.out HP.out (HR.out.below HBV.out) HL.out HW.out (HRZ.out.below HBA.out) HLM.out HWY.out.u64 (HT.out.below HBV.out)).mono ?_
              rw [HDO.out, HLD.out]
              rintro e w11 ⟨Y, cy, rfl, ho, hb⟩
              have HRY : Hid (Row w11 Y (nums .u64 (runB p ax ((l.map fun s => (true, s)).take (i + 1)) x))) := Lib.hid (by rw [HTK.out]; exact ho.row)
              have HB12 : Hid (Below w8.heap.size w8 w11) := Lib.hid (blT (blT HB9.out HBA.out) hb)
              clear ho hb
              dsimp only
              go_wp2
              go_roundw
              case rel => exact ⟨i + 1, Y, cy, by omega, by go_num, rfl, HRY, HB12⟩
              case measure => simp [intOf]; omega
            · have hie : i = K := by omega
              have HRE : Hid (Row wr Z (nums .u64 want)) := Lib.hid (by
                have h1 := HRZ.out
                rw [List.take_of_length_le (by simp; have := HK.out; omega), HEND.out] at h1
                exact h1)
              clear hie HRZ
              go_wp2_with fail
              refine (same_n _ _ _ _ m m want want _ HLG2.out HLG2.out HRE.out HLM.out (HRG8.out.below HB9.out)).mono ?_
              rw [show decide (want = want) = true from decide_eq_true rfl]
              rintro e w9 ⟨rfl, ⟨q9, rfl⟩⟩
              go_wp2
              go_ret
              exact ⟨by first | rfl | (simp; done), below_drewN HB10.out q9⟩
    · skip
      have hle : stepsA true k ((N : Int), true) = st.map (sgS k) ++ [((k : Int), true, 0, 0, 0)] := by
        unfold stepsA
        rw [HSS.out]
        simp [sgS]
      rw [hle] at HMAY HEND
      clear hle
      obtain ⟨l, hl⟩ : ∃ l, l = st.map (sgS k) ++ [((k : Int), true, 0, 0, 0)] := ⟨_, rfl⟩
      rw [← hl] at HMAY HEND
      have HLIS : Hid (l = st.map (sgS k) ++ [((k : Int), true, 0, 0, 0)]) := Lib.hid hl
      have HLEN : Hid (l.length = st.length + 1) := Lib.hid (by rw [hl]; simp [Nat.add_comm])
      have HL15 : Hid (l.length ≤ 15) := Lib.hid (by have h1 := HLEN.out; have h2 := HM12.out; omega)
      clear hl
      go_wp2
      go_loopw [15, 83] (fun v q ws => ∃ (j : Nat) (Z : Option Addr) (z : Nat), j ≤ st.length ∧ q = .int .i64 j ∧ v = .slice Z j z ∧ Hid (Own ws w4.heap.size 39 5 Z j z (spR ((st.take j).map (sgS k)))) ∧ Hid (Below w4.heap.size w4 ws)) (fun _ q _ => st.length - (intOf q).toNat)
      case atStart => exact ⟨0, none, 0, Nat.zero_le _, rfl, rfl, Lib.hid (Own.nil _ _ _ _), Lib.hid (Below.refl _ _)⟩
      case round =>
        obtain ⟨j, Z, z, hj, rfl, rfl, HOJ, HBJ⟩ := hrel
        by_cases hjt : j < st.length
        · have HRJ := Lib.hid (HST.out.below HBJ.out)
          obtain ⟨ba, rfl⟩ := HRJ.out.some_of (by intro h0; have h1 := stR3_length st; rw [h0] at h1; simp at h1; omega)
          obtain ⟨hs0, hs1, hs2⟩ := stg_cells HRJ.out hjt
          have HTK : Hid (spR ((st.take (j + 1)).map (sgS k)) = spR ((st.take j).map (sgS k)) ++ spC (sgS k st[j])) := Lib.hid (by rw [take_map_succ (sgS k) st hjt, spR_append _ [_], spR_one])
          generalize st[j] = s at *
          obtain ⟨s0, s1, s2⟩ := s
          dsimp only at hs0 hs1 hs2
          have hm12 := HM12.out
          have HSZ := Lib.hid HBJ.out.size
          have hrn : Row ((wr.alloc (.cells #[.int .i64 s0, .int .i64 s1, .int .i64 s2] 37)).alloc (.cells #[.int .i64 (k : Int), .bool false, .int .i64 s0, .int .i64 s1, .int .i64 s2] 39)) (some ⟨wr.heap.size + 1, 0, none⟩) (spC (sgS k (s0, s1, s2))) := by
            have h1 := row_new (wr.alloc (.cells #[.int .i64 s0, .int .i64 s1, .int .i64 s2] 37)) [.int .i64 (k : Int), .bool false, .int .i64 s0, .int .i64 s1, .int .i64 s2] 39
            rw [show (wr.alloc (.cells #[.int .i64 s0, .int .i64 s1, .int .i64 s2] 37)).heap.size = wr.heap.size + 1 by simp] at h1
            exact h1
          have hb9 : Below wr.heap.size wr ((wr.alloc (.cells #[.int .i64 s0, .int .i64 s1, .int .i64 s2] 37)).alloc (.cells #[.int .i64 (k : Int), .bool false, .int .i64 s0, .int .i64 s1, .int .i64 s2] 39)) := ((Below.refl _ _).alloc (Nat.le_refl _) _).alloc (by simp) _
          go_wp2_with (at_builtin; (refine append_cells_any _ Tryd.underlying26 info_step rfl (by decide) rfl _ _ rfl w4.heap.size j z 1 1 Z (some ⟨wr.heap.size + 1, 0, none⟩) (spR ((st.take j).map (sgS k))) (spC (sgS k (s0, s1, s2))) rfl rfl (HOJ.out.grown hb9) hrn rfl (spC_one _) (Nat.le_trans HSZ.out hb9.size) (by omega) (by omega) ?_); intro A6 cap2 w6 hown hbel)
          have HO6 : Hid (Own w6 w4.heap.size 39 5 A6 (j + 1) cap2 (spR ((st.take (j + 1)).map (sgS k)))) := Lib.hid (by rw [HTK.out]; exact hown)
          have HB6 : Hid (Below w4.heap.size w4 w6) := Lib.hid ((blT HBJ.out hb9).trans (hbel.mono (Nat.le_refl _)))
          clear hown hbel hrn hb9 hm12
          go_roundw
          case rel => exact ⟨j + 1, A6, cap2, by omega, by go_num, rfl, HO6, HB6⟩
          case measure => simp [intOf]; omega
        · have hje : j = st.length := by omega
          subst hje
          have HOE : Hid (Own wr w4.heap.size 39 5 Z st.length z (spR (st.map (sgS k)))) := Lib.hid (by have h1 := HOJ.out; rw [List.take_length] at h1; exact h1)
          have hrn0 : Row (wr.alloc (.cells #[.int .i64 (k : Int), .bool true, .int .i64 0, .int .i64 0, .int .i64 0] 39)) (some ⟨wr.heap.size, 0, none⟩) (spC ((k : Int), true, 0, 0, 0)) := row_new wr [.int .i64 (k : Int), .bool true, .int .i64 0, .int .i64 0, .int .i64 0] 39
          have hbn0 : Below wr.heap.size wr (wr.alloc (.cells #[.int .i64 (k : Int), .bool true, .int .i64 0, .int .i64 0, .int .i64 0] 39)) := (Below.refl _ _).alloc (Nat.le_refl _) _
          have hm12 := HM12.out
          have HSZ := Lib.hid HBJ.out.size
          clear hjt HOJ
          go_wp2_with (at_builtin; (refine append_cells_any _ Tryd.underlying26 info_step rfl (by decide) rfl _ _ rfl w4.heap.size st.length z 1 1 Z (some ⟨wr.heap.size, 0, none⟩) (spR (st.map (sgS k))) (spC ((k : Int), true, 0, 0, 0)) rfl rfl (HOE.out.grown hbn0) hrn0 rfl (spC_one _) (Nat.le_trans HSZ.out hbn0.size) (by omega) (by omega) ?_); intro A8 c8 w8 hown8 hbel8; have HRL0 : Hid (Row w8 A8 (spR (st.map (sgS k)) ++ spC ((k : Int), true, 0, 0, 0))) := Lib.hid hown8.row; have HBW8 : Hid (Below w4.heap.size w4 w8) := Lib.hid ((blT HBJ.out hbn0).trans hbel8); clear hown8 hbel8 hrn0 hbn0 hm12; rw [show st.length + 1 = l.length from HLEN.out.symm])
          have HRL8 : Hid (Row w8 A8 (spR l)) := Lib.hid (by rw [HLIS.out, spR_append, spR_one]; exact HRL0.out)
          clear HRL0
          have HB8 : Hid (Below w.heap.size w w8) := Lib.hid (blT HB4.out HBW8.out)
          have HX8 := Lib.hid (HRX.out.below HB8.out)
          have HRG8 := Lib.hid (HRG4.out.below HBW8.out)
          have hlen := HL15.out
          obtain ⟨K, hK⟩ : ∃ K, l.length = K := ⟨_, rfl⟩
          have HK : Hid (l.length = K) := Lib.hid hK
          rw [hK] at hlen
          rw [hK]
          clear hK
          go_loopw [4, 102] (fun v q wr => ∃ (i : Nat) (Z : Option Addr) (z : Nat), i ≤ K ∧ q = .int .i64 i ∧ v = .slice Z m z ∧ Hid (Row wr Z (nums .u64 (runB p ax ((l.map fun s => (true, s)).take i) x))) ∧ Hid (Below w8.heap.size w8 wr)) (fun _ q _ => K - (intOf q).toNat)
          case atStart => exact ⟨0, X, cx, Nat.zero_le _, rfl, rfl, Lib.hid HX8.out, Lib.hid (Below.refl _ _)⟩
          case round =>
            obtain ⟨i, Z, z, hi, rfl, rfl, HRZ, HB9⟩ := hrel
            have HB10 := Lib.hid (blT HB8.out HB9.out)
            by_cases hlt : i < K
            · have hil : i < l.length := by have := HK.out; omega
              obtain ⟨la, rfl⟩ := HRL8.out.some_of (by intro h0; have h1 := spR_length l; rw [h0] at h1; simp at h1; omega)
              obtain ⟨b0, b1, b2, b3, b4⟩ := sp_cells (HRL8.out.below HB9.out) hil
              have HMI := Lib.hid (HMAY.out _ (List.getElem_mem hil))
              have HTK : Hid (runB p ax ((l.map fun s => (true, s)).take (i + 1)) x = stepDo p ax true l[i] (runB p ax ((l.map fun s => (true, s)).take i) x)) := Lib.hid (by
                rw [runB_take p ax _ x (i := i) (by simpa using hil)]
                simp)
              have HWY := Lib.hid (HWB.out.run ((l.map fun s => (true, s)).take i))
              obtain ⟨⟨s0, s1, s2, s3, s4⟩, hs⟩ : ∃ s, l[i] = s := ⟨_, rfl⟩
              rw [hs] at HMI HTK b0 b1 b2 b3 b4
              dsimp only at b0 b1 b2 b3 b4
              clear hs hil
              generalize runB p ax ((l.map fun s => (true, s)).take i) x = y at *
              have HMY : Hid (y.length = m) := Lib.hid (by have h1 := HWY.out.all; have h2 := HWB.out.all; have h3 := HM.out; omega)
              have HDO := Lib.hid ((HWY.out.may HMI.out).do true)
              have HLD : Hid (((stepDo p ax true (s0, s1, s2, s3, s4) y, (0 : Int)).1).length = m) := Lib.hid (by rw [stepDo_length]; exact HMY.out)
              have hbA : Below wr.heap.size wr (wr.alloc (.cells #[.int .i64 s0, .bool s1, .int .i64 s2, .int .i64 s3, .int .i64 s4] 39)) := (Below.refl _ _).alloc (Nat.le_refl _) _
              have HBA := Lib.hid hbA
              clear hbA
              go_wp2_with fail
              clear b0 b1 b2 b3 b4
              generalize (wr.alloc (.cells #[.int .i64 s0, .bool s1, .int .i64 s2, .int .i64 s3, .int .i64 s4] 39)) = V at *
              have HBV : Hid (Below w.heap.size w V) := Lib.hid (blT HB10.out HBA.out)
              refine (sdo_calls p (some xa) _ n ax true s0 s1 s2 s3 s4 Z z m y V HN.out HMY.out HP.out (HR.out.below HBV.out) HL.out HW.out (HRZ.out.below HBA.out) HLM.out HWY.out.u64 (HT.out.below HBV.out)).mono ?_
              rw [HDO.out, HLD.out]
              rintro e w11 ⟨Y, cy, rfl, ho, hb⟩
              have HRY : Hid (Row w11 Y (nums .u64 (runB p ax ((l.map fun s => (true, s)).take (i + 1)) x))) := Lib.hid (by rw [HTK.out]; exact ho.row)
              have HB12 : Hid (Below w8.heap.size w8 w11) := Lib.hid (blT (blT HB9.out HBA.out) hb)
              clear ho hb
              dsimp only
              go_wp2
              go_roundw
              case rel => exact ⟨i + 1, Y, cy, by omega, by go_num, rfl, HRY, HB12⟩
              case measure => simp [intOf]; omega
            · have hie : i = K := by omega
              have HRE : Hid (Row wr Z (nums .u64 want)) := Lib.hid (by
                have h1 := HRZ.out
                rw [List.take_of_length_le (by simp; have := HK.out; omega), HEND.out] at h1
                exact h1)
              clear hie HRZ
              go_wp2_with fail
              refine (same_n _ _ _ _ m m want want _ HLG2.out HLG2.out HRE.out HLM.out (HRG8.out.below HB9.out)).mono ?_
              rw [show decide (want = want) = true from decide_eq_true rfl]
              rintro e w9 ⟨rfl, ⟨q9, rfl⟩⟩
              go_wp2
              go_ret
              exact ⟨by first | rfl | (simp; done), below_drewN HB10.out q9⟩
end Go.Proofs.YtohcoidbncbijaaDoor.P
