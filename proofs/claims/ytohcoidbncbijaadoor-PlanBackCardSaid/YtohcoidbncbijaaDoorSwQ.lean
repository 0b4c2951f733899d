
/- The law PlanBack, walked. Conditions: words of their kinds; slices read as lists; the library's table lies as it was laid. -/
import Derived.Test.YtohcoidbncbijaaDoorStO
import Derived.Test.YtohcoidbncbijaaDoorPlW
import Derived.Test.YtohcoidbncbijaaDoorPlY
import Derived.Test.YtohcoidbncbijaaDoorStV
import Derived.Test.YtohcoidbncbijaaDoorStU
import Derived.Test.YtohcoidbncbijaaDoorGrF
import Derived.Test.YtohcoidbncbijaaDoorRound3
namespace Go.Proofs.YtohcoidbncbijaaDoor.P
open Go.RowKit
set_option linter.unusedVariables false
set_option linter.unusedSimpArgs false
theorem both_at (inv : Bool) (l1 l2 : List Stp) {i : Nat} (h : i < ((l1.map fun s => (inv, s)) ++ (l2.map fun s => (!inv, s))).length) (h2 : i < (l1 ++ l2).length) :
    (((l1.map fun s => (inv, s)) ++ (l2.map fun s => (!inv, s)))[i]).2 = (l1 ++ l2)[i] ∧ (((l1.map fun s => (inv, s)) ++ (l2.map fun s => (!inv, s)))[i]).1 = (inv == decide (i < l1.length)) := by
  by_cases hi : i < l1.length
  · rw [List.getElem_append_left (by simpa using hi), List.getElem_append_left hi]
    simp [hi]
  · rw [List.getElem_append_right (by simpa using Nat.le_of_not_lt hi), List.getElem_append_right (by omega)]
    simp [hi]
theorem spR_ones (l : List Stp) : ∀ u ∈ spR l, u.oneCell' = true := by
  intro u hu
  simp only [spR, List.mem_flatMap] at hu
  obtain ⟨s, _, h⟩ := hu
  exact spC_one s u h
set_option maxRecDepth 100000 in
set_option maxHeartbeats 4000000 in
theorem planBack_walk (p : Int) (A : Option Addr) (ca : Nat) (ax : List (Int × Bool)) (inv : Bool) (X : Option Addr) (cx : Nat) (x : List Int) (w : World) (hp : U64 p) (hr : Row w A (axR ax)) (hla : ax.length * 16 ≤ 140737488351232) (hcap : ax.length ≤ ca) (hwa : ∀ a ∈ ax, (Lit.int .i64 a.1).wf = true) (hrx : Row w X (nums .u64 x)) (hlx : x.length * 8 ≤ 140737488351232) (hwx : ∀ d ∈ x, (Lit.int .u64 d).wf = true) (hT : Tab w) :
    Calls Tryd.prog 15 #[.int .u64 p, .slice A ax.length ca, .bool inv, .slice X x.length cx] w fun e w' => e = .returned (.bool true) ∧ Below w.heap.size w w' := by
  have HP := Lib.hid hp
  have HR := Lib.hid hr
  have HT := Lib.hid hT
  have HW : Hid (∀ a ∈ ax, i64 a.1) := Lib.hid fun a ha => i64_wf (hwa a ha)
  clear hp hr hT hwa
  generalize hn : ax.length = n at *
  have HN := Lib.hid hn
  have HL : Hid (n ≤ 8796093022208) := Lib.hid (by omega)
  clear hn hla hcap
  have HRX := Lib.hid hrx
  have HWX : Hid (∀ d ∈ x, U64 d) := Lib.hid fun d hd => u64_wf (hwx d hd)
  clear hrx hwx
  generalize hm : x.length = m at *
  have HM := Lib.hid hm
  have HLM : Hid (m ≤ 9223372036854775807) := Lib.hid (by omega)
  have HM8 : Hid (m * 8 ≤ 140737488351232) := Lib.hid hlx
  clear hm hlx
  go_enter Tryd.func15, Tryd.ntmps15
  go_wp2_with fail
  refine (live17_calls _ HT.out).mono ?_
  rintro e w1 ⟨rfl, hb1⟩
  have HB1 := Lib.hid hb1
  clear hb1
  go_wp2_with fail
  refine (few7_calls _ _ _ ax _ _ HN.out (HR.out.below HB1.out) HL.out HW.out).mono ?_
  rintro e w2 ⟨r, rfl, hb⟩
  have HB2 := Lib.hid (blT HB1.out hb)
  clear hb HB1
  cases r
  case false =>
    go_wp2
    go_ret
    exact ⟨rfl, HB2.out⟩
  by_cases h50 : 50 < m
  case pos =>
    have f50 : decide ((50 : Int) < (m : Int)) = true := by simp; omega
    have f51 : decide (50 < m) = true := by simp; omega
    go_wp2
    go_ret
    exact ⟨by first | rfl | (simp; done), HB2.out⟩
  have f50 : decide ((50 : Int) < (m : Int)) = false := by simp; omega
  have f51 : decide (50 < m) = false := by simp; omega
  by_cases hc : chk7 p ax = 0
  case neg =>
    have HF : Hid (∀ b, stepsS p ax b = ([], chk7 p ax)) := Lib.hid fun b => by rw [stepsS, if_neg hc]
    have t0 : (chk7 p ax != 0) = true := by simpa using hc
    clear hc
    go_wp2_with fail
    refine (psteps_calls p A _ n ax inv w2 HN.out HP.out (HR.out.below HB2.out) HL.out HW.out (HT.out.below HB2.out)).mono ?_
    rw [HF.out]
    rintro e w3 ⟨B, b, rfl, ho, hb⟩
    have HB3 := Lib.hid (blT HB2.out hb)
    clear ho hb
    dsimp only
    go_wp2_with fail
    refine (psteps_calls p A _ n ax (!inv) w3 HN.out HP.out (HR.out.below HB3.out) HL.out HW.out (HT.out.below HB3.out)).mono ?_
    rw [HF.out]
    rintro e w4 ⟨C, c, rfl, ho, hb⟩
    have HB4 := Lib.hid (blT HB3.out hb)
    clear ho hb
    dsimp only
    go_wp2
    go_ret
    exact ⟨by first | rfl | (simp; done), HB4.out⟩
  have hC7 := chk7_ok hc
  have HC7 := Lib.hid hC7
  have HSS : Hid (∀ b, stepsS p ax b = (stepsN ax b n, 0)) := Lib.hid fun b => by rw [stepsS, if_pos hC7.ok, HN.out]
  have HMAY : Hid (∀ b, ∀ s ∈ stepsN ax b n, chk16 p ax s = 0) := Lib.hid fun b s hs => steps_may hC7 (by rw [HN.out]; exact Nat.le_refl _) hs
  have HEND : Hid (WrdB p ax x → runB p ax (((stepsN ax inv n).map fun s => (inv, s)) ++ ((stepsN ax (!inv) n).map fun s => (!inv, s))) x = x) := Lib.hid fun h => by
    have h1 := steps_back hC7 inv h
    rw [HN.out] at h1
    exact h1
  have hlen : ∀ b, (stepsN ax b n).length ≤ 56 := fun b => by
    have h1 := stepsN_len hC7.smooth b n (by rw [HN.out]; exact Nat.le_refl _)
    have h2 := hC7.dims.n4
    rw [dimsA_length, HN.out] at h2
    omega
  have hlen1 := hlen inv
  have hlen2 := hlen (!inv)
  have HS1 := Lib.hid (HSS.out inv)
  have HS2 := Lib.hid (HSS.out (!inv))
  have HM1 := Lib.hid (HMAY.out inv)
  have HM2 := Lib.hid (HMAY.out (!inv))
  obtain ⟨l1, hl1⟩ : ∃ l, stepsN ax inv n = l := ⟨_, rfl⟩
  obtain ⟨l2, hl2⟩ : ∃ l, stepsN ax (!inv) n = l := ⟨_, rfl⟩
  rw [hl1] at HS1 HM1 HEND hlen1
  rw [hl2] at HS2 HM2 HEND hlen2
  clear hl1 hl2 hc hC7 hlen HSS HMAY
  obtain ⟨K1, hK1⟩ : ∃ K, l1.length = K := ⟨_, rfl⟩
  obtain ⟨K2, hK2⟩ : ∃ K, l2.length = K := ⟨_, rfl⟩
  obtain ⟨K, hK⟩ : ∃ K, K1 + K2 = K := ⟨_, rfl⟩
  have HK1 : Hid (l1.length = K1) := Lib.hid hK1
  have HK1' : Hid (((l1, (0 : Int)).1).length = K1) := Lib.hid hK1
  have HK2 : Hid (l2.length = K2) := Lib.hid hK2
  have HK2' : Hid (((l2, (0 : Int)).1).length = K2) := Lib.hid hK2
  have HONE1 := Lib.hid (spR_ones l1)
  have HONE2 := Lib.hid (spR_ones l2)
  rw [hK1] at hlen1
  rw [hK2] at hlen2
  have HMB : Hid (∀ s ∈ l1 ++ l2, chk16 p ax s = 0) := Lib.hid fun s hs => by
    rcases List.mem_append.1 hs with h | h
    · exact HM1.out s h
    · exact HM2.out s h
  clear hK1 hK2
  go_wp2_with fail
  refine (psteps_calls p A _ n ax inv w2 HN.out HP.out (HR.out.below HB2.out) HL.out HW.out (HT.out.below HB2.out)).mono ?_
  rw [HS1.out, HK1'.out]
  rintro e w3 ⟨B, cb, rfl, ho, hb⟩
  have HB3 := Lib.hid (blT HB2.out hb)
  have HRL := Lib.hid ho.row
  clear ho hb
  dsimp only
  go_wp2_with fail
  refine (psteps_calls p A _ n ax (!inv) w3 HN.out HP.out (HR.out.below HB3.out) HL.out HW.out (HT.out.below HB3.out)).mono ?_
  rw [HS2.out, HK2'.out]
  rintro e w4 ⟨M, cm, rfl, ho, hb⟩
  have HB4 := Lib.hid (blT HB3.out hb)
  have HRL4 := Lib.hid (HRL.out.below hb)
  have HRM := Lib.hid ho.row
  clear ho hb
  dsimp only
  have HRX4 := Lib.hid (HRX.out.below HB4.out)
  go_wp2_with (first
    | (at_builtin; (refine append_cells_any w4 Tryd.underlying26 info_step rfl (by decide) rfl _ _ rfl w4.heap.size 0 0 K1 cb none B [] (spR l1) rfl rfl (Own.nil _ _ _ _) HRL4.out (by rw [spR_length, HK1.out]) HONE1.out (Nat.le_refl _) (by omega) (by omega) ?_); intro A5 c5 w5 hown50 hbel5; have hown5 : Own w5 w4.heap.size 39 5 A5 K1 c5 (spR l1) := (by simpa using hown50); clear hown50; have HRM5 := HRM.out.below hbel5; have hsz5 := hbel5.size)
    | (at_builtin; (refine append_cells_any w5 Tryd.underlying26 info_step rfl (by decide) rfl _ _ rfl w4.heap.size K1 c5 K2 cm A5 M (spR l1) (spR l2) rfl rfl hown5 HRM5 (by rw [spR_length, HK2.out]) HONE2.out hsz5 (by omega) (by omega) ?_); intro A6 c6 w6 hown6 hbel6; have HB6 := Lib.hid (blT HB4.out (hbel5.trans hbel6)); have HRL6 : Hid (Row w6 A6 (spR (l1 ++ l2))) := Lib.hid (by have h1 := hown6.row; rw [spR_append]; exact h1); rw [hK]; have HX6 := Lib.hid (HRX4.out.below (hbel5.trans hbel6)); clear hown5 hbel5 hown6 hbel6 HRM5 hsz5))
  by_cases hW : prodL (dimsA ax) = x.length ∧ inS p x = true
  · have HWB : Hid (WrdB p ax x) := Lib.hid ⟨HC7.out.known, hW.1, hW.2, HWX.out⟩
    have HE := Lib.hid (HEND.out HWB.out)
    obtain ⟨l, hl⟩ : ∃ l, l = ((l1.map fun s => (inv, s)) ++ (l2.map fun s => (!inv, s))) := ⟨_, rfl⟩
    have HAT : Hid (∀ (i : Nat) (h : i < l.length) (h2 : i < (l1 ++ l2).length), (l[i]).2 = (l1 ++ l2)[i] ∧ (l[i]).1 = (inv == decide (i < K1))) := Lib.hid (by
      subst hl
      intro i h h2
      have h3 := both_at inv l1 l2 h h2
      rw [HK1.out] at h3
      exact h3)
    have HLL : Hid (l.length = K) := Lib.hid (by rw [hl]; have h1 := HK1.out; have h2 := HK2.out; simp; omega)
    rw [← hl] at HE
    clear hl hW
    have HKL : Hid ((l1 ++ l2).length = K) := Lib.hid (by have h1 := HK1.out; have h2 := HK2.out; simp; omega)
    go_loopw [13, 67] (fun v q wr => ∃ (i : Nat) (Z : Option Addr) (z : Nat), i ≤ K ∧ q = .int .i64 i ∧ v = .slice Z m z ∧ Hid (Row wr Z (nums .u64 (runB p ax (l.take i) x))) ∧ Hid (Below w6.heap.size w6 wr)) (fun _ q _ => K - (intOf q).toNat)
    case atStart => exact ⟨0, X, cx, Nat.zero_le _, rfl, rfl, Lib.hid HX6.out, Lib.hid (Below.refl _ _)⟩
    case round =>
      obtain ⟨i, Z, z, hi, rfl, rfl, HRZ, HB7⟩ := hrel
      have HB8 := Lib.hid (blT HB6.out HB7.out)
      by_cases hlt : i < K
      · have hil : i < (l1 ++ l2).length := by have := HKL.out; omega
        have hil2 : i < l.length := by have := HLL.out; omega
        obtain ⟨la, rfl⟩ := HRL6.out.some_of (by intro h0; have h1 := spR_length (l1 ++ l2); rw [h0] at h1; simp at h1; have h2 := HKL.out; simp at h2; omega)
        obtain ⟨b0, b1, b2, b3, b4⟩ := sp_cells (HRL6.out.below HB7.out) hil
        have HMI := Lib.hid (HMB.out _ (List.getElem_mem hil))
        obtain ⟨ha1, ha2⟩ := HAT.out i hil2 hil
        have HTK : Hid (runB p ax (l.take (i + 1)) x = stepDo p ax (inv == decide (i < K1)) ((l1 ++ l2)[i]) (runB p ax (l.take i) x)) := Lib.hid (by
          rw [runB_take p ax _ x hil2, ha1, ha2])
        have HWY := Lib.hid (HWB.out.run (l.take i))
        obtain ⟨⟨s0, s1, s2, s3, s4⟩, hs⟩ : ∃ s, (l1 ++ l2)[i] = s := ⟨_, rfl⟩
        rw [hs] at HMI HTK b0 b1 b2 b3 b4
        dsimp only at b0 b1 b2 b3 b4
        obtain ⟨dI, hdI⟩ : ∃ d, decide (i < K1) = d := ⟨_, rfl⟩
        have hdJ : decide ((i : Int) < (K1 : Int)) = dI := by rw [← hdI]; congr 1; simp
        rw [hdI] at HTK
        clear hs hil hil2 ha1 ha2
        generalize runB p ax (l.take i) x = y at *
        have HMY : Hid (y.length = m) := Lib.hid (by have h1 := HWY.out.all; have h2 := HWB.out.all; have h3 := HM.out; omega)
        have HDO := Lib.hid ((HWY.out.may HMI.out).do (inv == dI))
        have HLD : Hid (((stepDo p ax (inv == dI) (s0, s1, s2, s3, s4) y, (0 : Int)).1).length = m) := Lib.hid (by rw [stepDo_length]; exact HMY.out)
        have hbA : Below wr.heap.size wr (wr.alloc (.cells #[.int .i64 s0, .bool s1, .int .i64 s2, .int .i64 s3, .int .i64 s4] 39)) := (Below.refl _ _).alloc (Nat.le_refl _) _
        have HBA := Lib.hid hbA
        clear hbA
        obtain ⟨bv, hbv⟩ : ∃ b, (inv == dI) = b := ⟨_, rfl⟩
        rw [hbv] at HDO HLD HTK
        go_wp2_with fail
        clear b0 b1 b2 b3 b4
        generalize (wr.alloc (.cells #[.int .i64 s0, .bool s1, .int .i64 s2, .int .i64 s3, .int .i64 s4] 39)) = V at *
        have HBV : Hid (Below w.heap.size w V) := Lib.hid (blT HB8.out HBA.out)
        refine (sdo_calls p A _ n ax bv s0 s1 s2 s3 s4 Z z m y V HN.out HMY.out HP.out (HR.out.below HBV.out) HL.out HW.out (HRZ.out.below HBA.out) HLM.out HWY.out.u64 (HT.out.below HBV.out)).mono ?_
        rw [HDO.out, HLD.out]
        rintro e w7 ⟨Y, cy, rfl, ho, hb⟩
        have HRY : Hid (Row w7 Y (nums .u64 (runB p ax (l.take (i + 1)) x))) := Lib.hid (by rw [HTK.out]; exact ho.row)
        have HB9 : Hid (Below w6.heap.size w6 w7) := Lib.hid (blT (blT HB7.out HBA.out) hb)
        clear ho hb hdI hdJ hbv
        dsimp only
        go_wp2
        go_roundw
        case rel => exact ⟨i + 1, Y, cy, by omega, by go_num, rfl, HRY, HB9⟩
        case measure => simp [intOf]; omega
      · have hie : i = K := by omega
        have HRE : Hid (Row wr Z (nums .u64 x)) := Lib.hid (by
          have h1 := HRZ.out
          rw [List.take_of_length_le (by have := HLL.out; omega), HE.out] at h1
          exact h1)
        clear hie HRZ
        go_wp2_with fail
        refine (same_n _ _ _ _ m m x x _ HM.out HM.out HRE.out HLM.out (HX6.out.below HB7.out)).mono ?_
        rw [show decide (x = x) = true from decide_eq_true rfl]
        rintro e w9 ⟨rfl, ⟨q9, rfl⟩⟩
        go_wp2
        go_ret
        exact ⟨by first | rfl | (simp; done), below_drewN HB8.out q9⟩
  · have HNO : Hid (∀ s, chk16 p ax s = 0 → wrd16 p ax s x = 6 ∨ wrd16 p ax s x = 7) := Lib.hid fun s hs => wrd16_not hs hW
    have HKL : Hid ((l1 ++ l2).length = K) := Lib.hid (by have h1 := HK1.out; have h2 := HK2.out; simp; omega)
    clear hW
    go_loopw [13, 67] (fun v q wr => q = .int .i64 0 ∧ v = .slice X m cx ∧ Hid (Below w6.heap.size w6 wr)) (fun _ q _ => K - (intOf q).toNat)
    case atStart => exact ⟨rfl, rfl, Lib.hid (Below.refl _ _)⟩
    case round =>
      obtain ⟨rfl, rfl, HB7⟩ := hrel
      have HB8 := Lib.hid (blT HB6.out HB7.out)
      by_cases hlt : 0 < K
      · have hil : 0 < (l1 ++ l2).length := by have := HKL.out; omega
        obtain ⟨la, rfl⟩ := HRL6.out.some_of (by intro h0; have h1 := spR_length (l1 ++ l2); rw [h0] at h1; simp at h1; have h2 := HKL.out; simp at h2; omega)
        obtain ⟨b0, b1, b2, b3, b4⟩ := sp_cells (HRL6.out.below HB7.out) hil
        have HMI := Lib.hid (HMB.out _ (List.getElem_mem hil))
        obtain ⟨⟨s0, s1, s2, s3, s4⟩, hs⟩ : ∃ s, (l1 ++ l2)[0] = s := ⟨_, rfl⟩
        rw [hs] at HMI b0 b1 b2 b3 b4
        dsimp only at b0 b1 b2 b3 b4
        have e0 : la.add (0 * 5) = la := by simp [Addr.add]
        rw [e0] at b0 b1 b2 b3 b4
        have hbA : Below wr.heap.size wr (wr.alloc (.cells #[.int .i64 s0, .bool s1, .int .i64 s2, .int .i64 s3, .int .i64 s4] 39)) := (Below.refl _ _).alloc (Nat.le_refl _) _
        have HBA := Lib.hid hbA
        obtain ⟨dI, hdI⟩ : ∃ d, decide (0 < K1) = d := ⟨_, rfl⟩
        have hdJ : decide ((0 : Int) < (K1 : Int)) = dI := by rw [← hdI]; congr 1; simp
        obtain ⟨bv, hbv⟩ : ∃ b, (inv == dI) = b := ⟨_, rfl⟩
        clear hbA hs hil
        have HWK := Lib.hid (HNO.out _ HMI.out)
        go_wp2_with fail
        clear b0 b1 b2 b3 b4
        generalize (wr.alloc (.cells #[.int .i64 s0, .bool s1, .int .i64 s2, .int .i64 s3, .int .i64 s4] 39)) = V at *
        have HBV : Hid (Below w.heap.size w V) := Lib.hid (blT HB8.out HBA.out)
        refine (sdo_calls p A _ n ax bv s0 s1 s2 s3 s4 X cx m x V HN.out HM.out HP.out (HR.out.below HBV.out) HL.out HW.out (HRX.out.below HBV.out) HLM.out HWX.out (HT.out.below HBV.out)).mono ?_
        rcases HWK.out with h6 | h6
        all_goals
          have HDO : Hid (doS16 p ax bv (s0, s1, s2, s3, s4) x = ([], wrd16 p ax (s0, s1, s2, s3, s4) x)) := Lib.hid (by rw [doS16, if_neg (by rw [h6]; decide)])
          rw [HDO.out, h6]
          rintro e w7 ⟨Y, cy, rfl, ho, hb⟩
          have HB9 := Lib.hid (blT HBV.out hb)
          clear ho hb hdI hdJ hbv h6
          dsimp only
          go_wp2
          go_ret
          exact ⟨by first | rfl | (simp; done), HB9.out⟩
      · go_wp2_with fail
        refine (same_n _ _ _ _ m m x x _ HM.out HM.out (HX6.out.below HB7.out) HLM.out (HX6.out.below HB7.out)).mono ?_
        rw [show decide (x = x) = true from decide_eq_true rfl]
        rintro e w9 ⟨rfl, ⟨q9, rfl⟩⟩
        go_wp2
        go_ret
        exact ⟨by first | rfl | (simp; done), below_drewN HB8.out q9⟩
end Go.Proofs.YtohcoidbncbijaaDoor.P
