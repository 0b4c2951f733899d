
/- The law StepPredicts, walked. Conditions: words of their kinds; slices read as lists; the library's table lies as it was laid. -/
import Derived.Test.YtohcoidbncbijaaDoorSqK
import Derived.Test.YtohcoidbncbijaaDoorStL
import Derived.Test.YtohcoidbncbijaaDoorStU
import Derived.Test.YtohcoidbncbijaaDoorGrF
namespace Go.Proofs.YtohcoidbncbijaaDoor.P
open Go.RowKit
set_option linter.unusedVariables false
set_option linter.unusedSimpArgs false
set_option maxRecDepth 100000 in
set_option maxHeartbeats 4000000 in
theorem stepPredicts_walk (p : Int) (A : Option Addr) (ca : Nat) (ax : List (Int × Bool)) (inv : Bool) (s : Stp) (X : Option Addr) (cx : Nat) (x : List Int) (w : World) (hp : U64 p) (hr : Row w A (axR ax)) (hla : ax.length * 16 ≤ 140737488351232) (hcap : ax.length ≤ ca) (hwa : ∀ a ∈ ax, (Lit.int .i64 a.1).wf = true) (hs0 : i64 s.1) (hs2 : i64 s.2.2.1) (hs3 : i64 s.2.2.2.1) (hs4 : i64 s.2.2.2.2) (hrx : Row w X (nums .u64 x)) (hlx : x.length * 8 ≤ 140737488351232) (hwx : ∀ d ∈ x, (Lit.int .u64 d).wf = true) (hT : Tab w) :
    Calls Tryd.prog 17 #[.int .u64 p, .slice A ax.length ca, .bool inv, .agg #[.int .i64 s.1, .bool s.2.1, .int .i64 s.2.2.1, .int .i64 s.2.2.2.1, .int .i64 s.2.2.2.2], .slice X x.length cx] w fun e w' => e = .returned (.bool true) ∧ Below w.heap.size w w' := by
  obtain ⟨s0, s1, s2, s3, s4⟩ := s
  dsimp only at *
  have HP := Lib.hid hp
  have HR := Lib.hid hr
  have HT := Lib.hid hT
  have HW : Hid (∀ a ∈ ax, i64 a.1) := Lib.hid fun a ha => i64_wf (hwa a ha)
  clear hp hr hT hwa
  generalize hn : ax.length = n at *
  have HN := Lib.hid hn
  have HL : Hid (n ≤ 8796093022208) := Lib.hid (by omega)
  clear hn hla hcap
  have HRX := Lib.hid hrx
  have HWX : Hid (∀ d ∈ x, U64 d) := Lib.hid fun d hd => u64_wf (hwx d hd)
  clear hrx hwx
  generalize hm : x.length = m at *
  have HM := Lib.hid hm
  have HLM : Hid (m ≤ 9223372036854775807) := Lib.hid (by omega)
  have HM8 : Hid (m * 8 ≤ 140737488351232) := Lib.hid hlx
  clear hm hlx
  have hbA : Below w.heap.size w (w.alloc (.cells #[.int .i64 s0, .bool s1, .int .i64 s2, .int .i64 s3, .int .i64 s4] 39)) := (Below.refl _ _).alloc (Nat.le_refl _) _
  have HBX : Hid (Row (w.alloc (.cells #[.int .i64 s0, .bool s1, .int .i64 s2, .int .i64 s3, .int .i64 s4] 39)) (some ⟨w.heap.size, 0, none⟩) [.int .i64 s0, .bool s1, .int .i64 s2, .int .i64 s3, .int .i64 s4]) := Lib.hid (row_new w [.int .i64 s0, .bool s1, .int .i64 s2, .int .i64 s3, .int .i64 s4] _)
  have HBA := Lib.hid hbA
  have HTA := Lib.hid (HT.out.below hbA)
  clear hbA
  go_enter Tryd.func17, Tryd.ntmps17
  go_wp2_with fail
  generalize (w.alloc (.cells #[.int .i64 s0, .bool s1, .int .i64 s2, .int .i64 s3, .int .i64 s4] 39)) = V at *
  refine (live16_calls V HTA.out).mono ?_
  rintro e w1 ⟨rfl, hb1⟩
  have HB1 := Lib.hid (blT HBA.out hb1)
  have HBX1 := Lib.hid (HBX.out.below hb1)
  clear hb1 HBX HBA HTA
  go_wp2_with fail
  refine (few7_calls _ _ _ ax _ _ HN.out (HR.out.below HB1.out) HL.out HW.out).mono ?_
  rintro e w2 ⟨r, rfl, hb⟩
  have HB2 := Lib.hid (blT HB1.out hb)
  have HBX2 := Lib.hid (HBX1.out.below hb)
  clear hb HB1 HBX1
  cases r
  case false =>
    go_wp2
    go_ret
    exact ⟨rfl, HB2.out⟩
  by_cases h50 : 50 < m
  case pos =>
    have f50 : decide ((50 : Int) < (m : Int)) = true := by simp; omega
    have f51 : decide (50 < m) = true := by simp; omega
    go_wp2
    go_ret
    exact ⟨by first | rfl | (simp; done), HB2.out⟩
  have f50 : decide ((50 : Int) < (m : Int)) = false := by simp; omega
  have f51 : decide (50 < m) = false := by simp; omega
  have b0 : w2.cell? ⟨w.heap.size, 0, none⟩ = some (.int .i64 s0) := HBX2.out.cell (i := 0) rfl
  have b1 : w2.cell? ⟨w.heap.size, 1, none⟩ = some (.bool s1) := HBX2.out.cell (i := 1) rfl
  have b2 : w2.cell? ⟨w.heap.size, 2, none⟩ = some (.int .i64 s2) := HBX2.out.cell (i := 2) rfl
  have b3 : w2.cell? ⟨w.heap.size, 3, none⟩ = some (.int .i64 s3) := HBX2.out.cell (i := 3) rfl
  have b4 : w2.cell? ⟨w.heap.size, 4, none⟩ = some (.int .i64 s4) := HBX2.out.cell (i := 4) rfl
  by_cases hcx : wrd16 p ax (s0, s1, s2, s3, s4) x = 0
  case neg =>
    have HF : Hid (doS16 p ax inv (s0, s1, s2, s3, s4) x = ([], wrd16 p ax (s0, s1, s2, s3, s4) x)) := Lib.hid (by rw [doS16, if_neg hcx])
    have HF2 : Hid (predS p ax inv (s0, s1, s2, s3, s4) x = (0, 0, wrd16 p ax (s0, s1, s2, s3, s4) x)) := Lib.hid (by rw [predS, if_neg hcx])
    have t0 : (wrd16 p ax (s0, s1, s2, s3, s4) x != 0) = true := by simpa using hcx
    have t1 : (wrd16 p ax (s0, s1, s2, s3, s4) x == 0) = false := by simpa using hcx
    clear hcx
    go_wp2_with fail
    refine (sdo_calls p A _ n ax inv s0 s1 s2 s3 s4 X cx m x w2 HN.out HM.out HP.out (HR.out.below HB2.out) HL.out HW.out (HRX.out.below HB2.out) HLM.out HWX.out (HT.out.below HB2.out)).mono ?_
    rw [HF.out]
    rintro e w3 ⟨Z1, z1, rfl, ho, hb⟩
    have HB3 := Lib.hid (blT HB2.out hb)
    have HBX3 := Lib.hid (HBX2.out.below hb)
    clear ho hb b0 b1 b2 b3 b4
    dsimp only
    have b0 : w3.cell? ⟨w.heap.size, 0, none⟩ = some (.int .i64 s0) := HBX3.out.cell (i := 0) rfl
    have b1 : w3.cell? ⟨w.heap.size, 1, none⟩ = some (.bool s1) := HBX3.out.cell (i := 1) rfl
    have b2 : w3.cell? ⟨w.heap.size, 2, none⟩ = some (.int .i64 s2) := HBX3.out.cell (i := 2) rfl
    have b3 : w3.cell? ⟨w.heap.size, 3, none⟩ = some (.int .i64 s3) := HBX3.out.cell (i := 3) rfl
    have b4 : w3.cell? ⟨w.heap.size, 4, none⟩ = some (.int .i64 s4) := HBX3.out.cell (i := 4) rfl
    go_wp2_with fail
    refine (spr_calls p A _ n ax inv s0 s1 s2 s3 s4 X cx m x w3 HN.out HM.out HP.out (HR.out.below HB3.out) HL.out HW.out (HRX.out.below HB3.out) HLM.out HWX.out (HT.out.below HB3.out)).mono ?_
    rw [HF2.out]
    rintro e w4 ⟨rfl, hb⟩
    have HB4 := Lib.hid (blT HB3.out hb)
    clear hb b0 b1 b2 b3 b4
    dsimp only
    generalize wrd16 p ax (s0, s1, s2, s3, s4) x = er at *
    have e0 : (er == er) = true := by simp
    have e1 : (er != er) = false := by simp
    have HBV : Hid (Below w.heap.size w (w4.alloc (.cells #[.int .u64 0, .int .u64 0] 77))) := Lib.hid (HB4.out.alloc HB4.out.size _)
    have hr4 := row_new w4 [.int .u64 0, .int .u64 0] 77
    have c0 : (w4.alloc (.cells #[.int .u64 0, .int .u64 0] 77)).cell? ⟨w4.heap.size, 0, none⟩ = some (.int .u64 0) := hr4.cell (i := 0) rfl
    have c1 : (w4.alloc (.cells #[.int .u64 0, .int .u64 0] 77)).cell? ⟨w4.heap.size, 1, none⟩ = some (.int .u64 0) := hr4.cell (i := 1) rfl
    clear hr4
    have hq : ∀ w, (Op.equalIn 10000 77 (.agg #[.int .u64 0, .int .u64 0]) (.agg #[.int .u64 0, .int .u64 0])).run Tryd.prog w = .ok true w := fun w => by rw [eq_pair]; simp
    go_wp2
    go_ret
    exact ⟨by first | rfl | (simp; done), HBV.out⟩
  have hKX := wrd16_ok hcx
  have HDX := Lib.hid (hKX.do inv)
  have HF2 : Hid (predS p ax inv (s0, s1, s2, s3, s4) x = (redS p (csum one' (stepDo p ax inv (s0, s1, s2, s3, s4) x)), redS p (csum plc' (stepDo p ax inv (s0, s1, s2, s3, s4) x)), 0)) := Lib.hid (by rw [predS, if_pos hcx])
  obtain ⟨hkn, hm1, hm4⟩ : knownS p = true ∧ 1 ≤ m ∧ m ≤ 4096 := by
    obtain ⟨k, N, neg, hK⟩ := chk16_ok hKX.chk
    have h1 := hK.chk.dims.pos.prod
    have h2 := hKX.all
    have h3 := HM.out
    have h4 := hK.chk.dims.all
    exact ⟨hK.c6.known, by omega, by omega⟩
  have HKN := Lib.hid hkn
  have HLX : Hid (((stepDo p ax inv (s0, s1, s2, s3, s4) x, (0 : Int)).1).length = m) := Lib.hid (by rw [stepDo_length]; exact HM.out)
  have HLY : Hid ((stepDo p ax inv (s0, s1, s2, s3, s4) x).length = m) := HLX
  have HUY := Lib.hid (stepDo_u64 p ax inv (s0, s1, s2, s3, s4) x)
  have HIY := Lib.hid (stepDo_in hkn ax inv (s0, s1, s2, s3, s4) x)
  clear hcx hKX hkn
  go_wp2_with fail
  refine (sdo_calls p A _ n ax inv s0 s1 s2 s3 s4 X cx m x w2 HN.out HM.out HP.out (HR.out.below HB2.out) HL.out HW.out (HRX.out.below HB2.out) HLM.out HWX.out (HT.out.below HB2.out)).mono ?_
  rw [HDX.out, HLX.out]
  rintro e w3 ⟨Z1, z1, rfl, ho, hb⟩
  have HB3 := Lib.hid (blT HB2.out hb)
  have HBX3 := Lib.hid (HBX2.out.below hb)
  have HRY3 := Lib.hid ho.row
  clear ho hb b0 b1 b2 b3 b4
  dsimp only
  have b0 : w3.cell? ⟨w.heap.size, 0, none⟩ = some (.int .i64 s0) := HBX3.out.cell (i := 0) rfl
  have b1 : w3.cell? ⟨w.heap.size, 1, none⟩ = some (.bool s1) := HBX3.out.cell (i := 1) rfl
  have b2 : w3.cell? ⟨w.heap.size, 2, none⟩ = some (.int .i64 s2) := HBX3.out.cell (i := 2) rfl
  have b3 : w3.cell? ⟨w.heap.size, 3, none⟩ = some (.int .i64 s3) := HBX3.out.cell (i := 3) rfl
  have b4 : w3.cell? ⟨w.heap.size, 4, none⟩ = some (.int .i64 s4) := HBX3.out.cell (i := 4) rfl
  go_wp2_with fail
  refine (spr_calls p A _ n ax inv s0 s1 s2 s3 s4 X cx m x w3 HN.out HM.out HP.out (HR.out.below HB3.out) HL.out HW.out (HRX.out.below HB3.out) HLM.out HWX.out (HT.out.below HB3.out)).mono ?_
  rw [HF2.out]
  rintro e w4 ⟨rfl, hb⟩
  have HB4 := Lib.hid (blT HB3.out hb)
  have HRY4 := Lib.hid (HRY3.out.below hb)
  clear hb b0 b1 b2 b3 b4
  dsimp only
  have hbA : Below w4.heap.size w4 (w4.alloc (.cells #[.int .u64 (redS p (csum one' (stepDo p ax inv (s0, s1, s2, s3, s4) x))), .int .u64 (redS p (csum plc' (stepDo p ax inv (s0, s1, s2, s3, s4) x)))] 77)) := (Below.refl _ _).alloc (Nat.le_refl _) _
  have HB5 : Hid (Below w.heap.size w (w4.alloc (.cells #[.int .u64 (redS p (csum one' (stepDo p ax inv (s0, s1, s2, s3, s4) x))), .int .u64 (redS p (csum plc' (stepDo p ax inv (s0, s1, s2, s3, s4) x)))] 77))) := Lib.hid (blT HB4.out hbA)
  have HRY5 := Lib.hid (HRY4.out.below hbA)
  have HRM5 := Lib.hid (row_new w4 [.int .u64 (redS p (csum one' (stepDo p ax inv (s0, s1, s2, s3, s4) x))), .int .u64 (redS p (csum plc' (stepDo p ax inv (s0, s1, s2, s3, s4) x)))] 77)
  have HRM5' : Hid (Row (w4.alloc (.cells #[.int .u64 (redS p (csum one' (stepDo p ax inv (s0, s1, s2, s3, s4) x))), .int .u64 (redS p (csum plc' (stepDo p ax inv (s0, s1, s2, s3, s4) x)))] 77)) (some ⟨w4.heap.size, 0, none⟩) [.int .u64 (redS p (csum one' (stepDo p ax inv (s0, s1, s2, s3, s4) x))), .int .u64 (redS p (csum plc' (stepDo p ax inv (s0, s1, s2, s3, s4) x)))]) := HRM5
  clear hbA HRM5
  have HSC := Lib.hid fun w h => ccsums_calls p Z1 m z1 (stepDo p ax inv (s0, s1, s2, s3, s4) x) w HLY.out HP.out h hm4 HUY.out HKN.out
  go_wp2_with fail
  generalize redS p (csum one' (stepDo p ax inv (s0, s1, s2, s3, s4) x)) = za at *
  generalize redS p (csum plc' (stepDo p ax inv (s0, s1, s2, s3, s4) x)) = zb at *
  generalize (w4.alloc (.cells #[.int .u64 za, .int .u64 zb] 77)) = w5 at *
  generalize w4.heap.size = mb at *
  refine (HSC.out w5 HRY5.out).mono ?_
  rintro e w6 ⟨rfl, hb⟩
  have hbA : Below w6.heap.size w6 (w6.alloc (.cells #[.int .u64 za, .int .u64 zb] 77)) := (Below.refl _ _).alloc (Nat.le_refl _) _
  have HB6 := Lib.hid (blT HB5.out (hb.trans (hbA.mono hb.size)))
  have HRY6 := Lib.hid (HRY5.out.below (hb.trans (hbA.mono hb.size)))
  have hm0 := HRM5'.out.below (hb.trans (hbA.mono hb.size))
  have hn0 := row_new w6 [.int .u64 za, .int .u64 zb] 77
  have c0 : (w6.alloc (.cells #[.int .u64 za, .int .u64 zb] 77)).cell? ⟨mb, 0, none⟩ = some (.int .u64 za) := hm0.cell (i := 0) rfl
  have c1 : (w6.alloc (.cells #[.int .u64 za, .int .u64 zb] 77)).cell? ⟨mb, 1, none⟩ = some (.int .u64 zb) := hm0.cell (i := 1) rfl
  have d0 : (w6.alloc (.cells #[.int .u64 za, .int .u64 zb] 77)).cell? ⟨w6.heap.size, 0, none⟩ = some (.int .u64 za) := hn0.cell (i := 0) rfl
  have d1 : (w6.alloc (.cells #[.int .u64 za, .int .u64 zb] 77)).cell? ⟨w6.heap.size, 1, none⟩ = some (.int .u64 zb) := hn0.cell (i := 1) rfl
  have m0 : ((m : Int) == (m : Int)) = true := by simp
  clear hb hbA hm0 hn0
  have hq : ∀ w, (Op.equalIn 10000 77 (.agg #[.int .u64 za, .int .u64 zb]) (.agg #[.int .u64 za, .int .u64 zb])).run Tryd.prog w = .ok true w := fun w => by rw [eq_pair]; simp
  go_wp2_with fail
  refine (in_n p Z1 z1 m (stepDo p ax inv (s0, s1, s2, s3, s4) x) _ HLY.out HRY6.out HLM.out).mono ?_
  rw [HIY.out]
  rintro e w7 ⟨rfl, h7⟩
  go_wp2
  go_ret
  exact ⟨by first | rfl | (simp; done), HB6.out⟩
end Go.Proofs.YtohcoidbncbijaaDoor.P
