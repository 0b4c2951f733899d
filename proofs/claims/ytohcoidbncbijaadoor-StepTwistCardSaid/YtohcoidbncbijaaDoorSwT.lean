
/- The law StepTwist, walked. Conditions: words of their kinds; slices read as lists; the library's table lies as it was laid. -/
import Derived.Test.YtohcoidbncbijaaDoorStL
import Derived.Test.YtohcoidbncbijaaDoorStU
import Derived.Test.YtohcoidbncbijaaDoorGrF
import Derived.Test.YtohcoidbncbijaaDoorRound3
namespace Go.Proofs.YtohcoidbncbijaaDoor.P
open Go.RowKit
set_option linter.unusedVariables false
set_option linter.unusedSimpArgs false
set_option maxRecDepth 100000 in
set_option maxHeartbeats 4000000 in
theorem stepTwist_walk (p : Int) (A : Option Addr) (ca : Nat) (ax : List (Int × Bool)) (a : Int) (X : Option Addr) (cx : Nat) (x : List Int) (w : World) (hp : U64 p) (hr : Row w A (axR ax)) (hla : ax.length * 16 ≤ 140737488351232) (hcap : ax.length ≤ ca) (hwa : ∀ a ∈ ax, (Lit.int .i64 a.1).wf = true) (ha : i64 a) (hrx : Row w X (nums .u64 x)) (hlx : x.length * 8 ≤ 140737488351232) (hwx : ∀ d ∈ x, (Lit.int .u64 d).wf = true) (hT : Tab w) :
    Calls Tryd.prog 11 #[.int .u64 p, .slice A ax.length ca, .int .i64 a, .slice X x.length cx] w fun e w' => e = .returned (.bool true) ∧ Below w.heap.size w w' := by
  have HP := Lib.hid hp
  have HR := Lib.hid hr
  have HT := Lib.hid hT
  have HW : Hid (∀ a ∈ ax, i64 a.1) := Lib.hid fun a ha => i64_wf (hwa a ha)
  clear hp hr hT hwa
  generalize hn : ax.length = n at *
  have HN := Lib.hid hn
  have HL : Hid (n ≤ 8796093022208) := Lib.hid (by omega)
  clear hn hla hcap
  have HRX := Lib.hid hrx
  have HWX : Hid (∀ d ∈ x, U64 d) := Lib.hid fun d hd => u64_wf (hwx d hd)
  clear hrx hwx
  generalize hm : x.length = m at *
  have HM := Lib.hid hm
  have HLM : Hid (m ≤ 9223372036854775807) := Lib.hid (by omega)
  have HM8 : Hid (m * 8 ≤ 140737488351232) := Lib.hid hlx
  clear hm hlx
  go_enter Tryd.func11, Tryd.ntmps11
  go_wp2_with fail
  refine (live16_calls _ HT.out).mono ?_
  rintro e w1 ⟨rfl, hb1⟩
  have HB1 := Lib.hid hb1
  clear hb1
  go_wp2_with fail
  refine (few7_calls _ _ _ ax _ _ HN.out (HR.out.below HB1.out) HL.out HW.out).mono ?_
  rintro e w2 ⟨r, rfl, hb⟩
  have HB2 := Lib.hid (blT HB1.out hb)
  clear hb HB1
  cases r
  case false =>
    go_wp2
    go_ret
    exact ⟨rfl, HB2.out⟩
  by_cases h50 : 50 < m
  case pos =>
    have f50 : decide ((50 : Int) < (m : Int)) = true := by simp; omega
    have f51 : decide (50 < m) = true := by simp; omega
    go_wp2
    go_ret
    exact ⟨by first | rfl | (simp; done), HB2.out⟩
  have f50 : decide ((50 : Int) < (m : Int)) = false := by simp; omega
  have f51 : decide (50 < m) = false := by simp; omega
  have hbA : Below w2.heap.size w2 (w2.alloc (.cells #[.int .i64 a, .bool true, .int .i64 0, .int .i64 0, .int .i64 0] 39)) := (Below.refl _ _).alloc (Nat.le_refl _) _
  have HBX : Hid (Row (w2.alloc (.cells #[.int .i64 a, .bool true, .int .i64 0, .int .i64 0, .int .i64 0] 39)) (some ⟨w2.heap.size, 0, none⟩) [.int .i64 a, .bool true, .int .i64 0, .int .i64 0, .int .i64 0]) := Lib.hid (row_new w2 [.int .i64 a, .bool true, .int .i64 0, .int .i64 0, .int .i64 0] _)
  have HBA := Lib.hid hbA
  clear hbA
  by_cases hc : wrd16 p ax (a, true, 0, 0, 0) x = 0
  case neg =>
    have HF : Hid (doS16 p ax false (a, true, 0, 0, 0) x = ([], wrd16 p ax (a, true, 0, 0, 0) x)) := Lib.hid (by rw [doS16, if_neg hc])
    have t0 : (wrd16 p ax (a, true, 0, 0, 0) x != 0) = true := by simpa using hc
    clear hc
    go_wp2_with fail
    have HBV : Hid (Below w.heap.size w (w2.alloc (.cells #[.int .i64 a, .bool true, .int .i64 0, .int .i64 0, .int .i64 0] 39))) := Lib.hid (blT HB2.out HBA.out)
    generalize (w2.alloc (.cells #[.int .i64 a, .bool true, .int .i64 0, .int .i64 0, .int .i64 0] 39)) = V at *
    refine (sdo_calls p A _ n ax false a true 0 0 0 X cx m x V HN.out HM.out HP.out (HR.out.below HBV.out) HL.out HW.out (HRX.out.below HBV.out) HLM.out HWX.out (HT.out.below HBV.out)).mono ?_
    rw [HF.out]
    rintro e w3 ⟨B, b, rfl, ho, hb⟩
    have HB3 := Lib.hid (blT HBV.out hb)
    clear ho hb
    dsimp only
    go_wp2
    go_ret
    exact ⟨by first | rfl | (simp; done), HB3.out⟩
  have hK0 := wrd16_ok hc
  obtain ⟨k, N, neg, hK⟩ := chk16_ok hK0.chk
  have hsk := hK.axis
  dsimp only at hsk
  subst hsk
  have HD1 := Lib.hid (hK0.do false)
  have HD2 := Lib.hid ((hK0.next false).do true)
  have HLY : Hid (((stepDo p ax false ((k : Int), true, 0, 0, 0) x, (0 : Int)).1).length = m) := Lib.hid (by rw [stepDo_length]; exact HM.out)
  have HLY2 : Hid ((stepDo p ax false ((k : Int), true, 0, 0, 0) x).length = m) := Lib.hid (by rw [stepDo_length]; exact HM.out)
  have HUY := Lib.hid (stepDo_u64 p ax false ((k : Int), true, 0, 0, 0) x)
  have HBK : Hid (∀ v, v < m → mulS p ((stepDo p ax true ((k : Int), true, 0, 0, 0) (stepDo p ax false ((k : Int), true, 0, 0, 0) x)).getD v 0) (N : Int) = x.getD v 0) := Lib.hid fun v hv => twist_back hK hK0.all hK0.inn HWX.out (by rw [HM.out]; exact hv)
  have HSM : Hid (neg = false → stepDo p ax false ((k : Int), true, 0, 0, 0) x = x) := Lib.hid (by intro h; subst h; exact twist_same hK hK0.inn HWX.out)
  generalize stepDo p ax false ((k : Int), true, 0, 0, 0) x = y at *
  have HLZ : Hid (((stepDo p ax true ((k : Int), true, 0, 0, 0) y, (0 : Int)).1).length = m) := Lib.hid (by rw [stepDo_length]; exact HLY2.out)
  have HLZ2 : Hid ((stepDo p ax true ((k : Int), true, 0, 0, 0) y).length = m) := Lib.hid (by rw [stepDo_length]; exact HLY2.out)
  have HUZ := Lib.hid (stepDo_u64 p ax true ((k : Int), true, 0, 0, 0) y)
  generalize stepDo p ax true ((k : Int), true, 0, 0, 0) y = z at *
  have hka := hK.lt
  have hkn : k < n := by have := HN.out; omega
  have hN1 := hK.c6.n1
  have hN4 := hK.c6.n2
  have hcv : IntKind.u64.wrap (N : Int) = (N : Int) := by rw [IntKind.wrap_u64]; omega
  have HUN : Hid (U64 (N : Int)) := Lib.hid ⟨by omega, by omega⟩
  have hge : ax[k] = ((N : Int), neg) := by
    have h1 := hK.get
    rw [List.getD_eq_getElem?_getD, List.getElem?_eq_getElem hka] at h1
    exact h1
  obtain ⟨xa, rfl⟩ := HR.out.some_of (by intro h0; have h1 := axR_length ax; rw [h0] at h1; simp at h1; omega)
  have HAC : Hid (∀ ws, Row ws (some xa) (axR ax) → ws.cell? (xa.add (k * 2)) = some (.int .i64 (N : Int)) ∧ ws.cell? ⟨(xa.add (k * 2)).block, (xa.add (k * 2)).off + 1, none⟩ = some (.bool neg)) := Lib.hid fun ws h => by
    have h1 := ax_cells h hka
    rw [hge] at h1
    exact h1
  have g1 : decide ((k : Int) < 0) = false := by simp
  have g2 : decide ((n : Int) ≤ (k : Int)) = false := by simp; omega
  have g3 : decide (n ≤ k) = false := by simp; omega
  clear hc hK0 hK hge hN1 hN4 hka
  go_wp2_with fail
  have HBV : Hid (Below w.heap.size w (w2.alloc (.cells #[.int .i64 (k : Int), .bool true, .int .i64 0, .int .i64 0, .int .i64 0] 39))) := Lib.hid (blT HB2.out HBA.out)
  generalize (w2.alloc (.cells #[.int .i64 (k : Int), .bool true, .int .i64 0, .int .i64 0, .int .i64 0] 39)) = V at *
  refine (sdo_calls p (some xa) _ n ax false (k : Int) true 0 0 0 X cx m x V HN.out HM.out HP.out (HR.out.below HBV.out) HL.out HW.out (HRX.out.below HBV.out) HLM.out HWX.out (HT.out.below HBV.out)).mono ?_
  rw [HD1.out, HLY.out]
  rintro e w3 ⟨Y, cy, rfl, ho, hb⟩
  have HB3 := Lib.hid (blT HBV.out hb)
  have HRY := Lib.hid ho.row
  have HBX3 := Lib.hid (HBX.out.below hb)
  clear ho hb
  dsimp only
  have b0 : w3.cell? ⟨w2.heap.size, 0, none⟩ = some (.int .i64 (k : Int)) := HBX3.out.cell (i := 0) rfl
  have b1 : w3.cell? ⟨w2.heap.size, 1, none⟩ = some (.bool true) := HBX3.out.cell (i := 1) rfl
  have b2 : w3.cell? ⟨w2.heap.size, 2, none⟩ = some (.int .i64 0) := HBX3.out.cell (i := 2) rfl
  have b3 : w3.cell? ⟨w2.heap.size, 3, none⟩ = some (.int .i64 0) := HBX3.out.cell (i := 3) rfl
  have b4 : w3.cell? ⟨w2.heap.size, 4, none⟩ = some (.int .i64 0) := HBX3.out.cell (i := 4) rfl
  go_wp2_with fail
  clear b0 b1 b2 b3 b4
  refine (sdo_calls p (some xa) _ n ax true (k : Int) true 0 0 0 Y cy m y w3 HN.out HLY2.out HP.out (HR.out.below HB3.out) HL.out HW.out HRY.out HLM.out HUY.out (HT.out.below HB3.out)).mono ?_
  rw [HD2.out, HLZ.out]
  rintro e w4 ⟨Z, cz, rfl, ho, hb⟩
  have HB4 := Lib.hid (blT HB3.out hb)
  have HRZ := Lib.hid ho.row
  have HRY4 := Lib.hid (HRY.out.below hb)
  have HRX4 := Lib.hid (HRX.out.below HB4.out)
  have HR4 := Lib.hid (HR.out.below HB4.out)
  clear ho hb
  dsimp only
  go_wp2
  go_loopw [69] (fun q wr => ∃ i : Nat, i ≤ m ∧ q = .int .i64 i ∧ Hid (Below w4.heap.size w4 wr)) (fun q _ => m - (intOf q).toNat)
  case atStart => exact ⟨0, Nat.zero_le _, rfl, Lib.hid (Below.refl _ _)⟩
  case round =>
    obtain ⟨i, hi, rfl, HB5⟩ := hrel
    have HR5 := Lib.hid (HR4.out.below HB5.out)
    obtain ⟨c0, c1⟩ := HAC.out _ HR5.out
    by_cases hlt : i < m
    · have hix : i < x.length := by have := HM.out; omega
      have hiz : i < z.length := by have := HLZ2.out; omega
      obtain ⟨xb, rfl⟩ := HRX4.out.some_of (nums_ne (by omega))
      obtain ⟨zb, rfl⟩ := HRZ.out.some_of (nums_ne (by omega))
      have hcx := (HRX4.out.below HB5.out).num hix
      have hcz := (HRZ.out.below HB5.out).num hiz
      have he := HBK.out i hlt
      rw [getD_of hix, getD_of hiz] at he
      rw [← he] at hcx
      have HUZ1 := Lib.hid (HUZ.out _ (List.getElem_mem hiz))
      clear he
      generalize z[i] = u at *
      go_wp2
      go_quiet (first | (go_at_call 41; exact Calls.quiet_of (mul_calls _ _ _ _ HP.out HUZ1.out HUN.out)))
      go_wp2
      go_roundw
      case rel => exact ⟨i + 1, by omega, by go_num, Lib.hid (below_drewN HB5.out nq)⟩
      case measure => simp [intOf]; omega
    · have HB6 := Lib.hid (blT HB4.out HB5.out)
      have HRX5 := Lib.hid (HRX4.out.below HB5.out)
      have HRY5 := Lib.hid (HRY4.out.below HB5.out)
      cases neg
      · have hyx := HSM.out rfl
        subst hyx
        go_wp2_with fail
        refine (same_n _ _ _ _ m m y y _ HLY2.out HLY2.out HRY5.out HLM.out HRX5.out).mono ?_
        rw [show decide (y = y) = true from decide_eq_true rfl]
        rintro e w9 ⟨rfl, ⟨q9, rfl⟩⟩
        go_wp2
        go_ret
        exact ⟨by first | rfl | (simp; done), below_drewN HB6.out q9⟩
      · go_wp2
        go_ret
        exact ⟨by first | rfl | (simp; done), HB6.out⟩
end Go.Proofs.YtohcoidbncbijaaDoor.P
