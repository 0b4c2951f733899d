
/- The law FactorBack, walked. Conditions: a number of 64 bits; the library's table lies as it was laid. -/
import Derived.Test.YtnlmmgcjhedjkaaDoorFacD
namespace Go.Proofs.YtnlmmgcjhedjkaaDoor.P
open Go.RowKit
set_option linter.unusedVariables false
set_option linter.unusedSimpArgs false
set_option maxRecDepth 100000 in
set_option maxHeartbeats 2000000 in
theorem factorBack_walk (n : Int) (w : World) (hn : i64 n) (hT : Tab w) :
    Calls Tryd.prog 5 #[.int .i64 n] w fun e w' => e = .returned (.bool true) ∧ Below w.heap.size w w' := by
  have HN := Lib.hid hn
  have HT := Lib.hid hT
  clear hn hT
  by_cases hf : (facS n).2 = 0
  case neg =>
    have HE := Lib.hid (facS_err hf)
    have HG := Lib.hid (stgS_no hf)
    clear hf
    go_enter Tryd.func5, Tryd.ntmps5
    go_wp2_with fail
    refine (live04_calls _ HT.out).mono ?_
    rintro e w1 ⟨rfl, hb⟩
    have HB1 := Lib.hid hb
    clear hb
    go_wp2_with fail
    refine (radices_calls n _ HN.out (HT.out.below HB1.out)).mono ?_
    rw [HE.out]
    rintro e w2 ⟨Z2, z2, rfl, ho, hb⟩
    have HB2 := Lib.hid (blT HB1.out hb)
    clear ho hb
    go_wp2_with fail
    refine (stages_calls n _ HN.out (HT.out.below HB2.out)).mono ?_
    rw [HG.out]
    rintro e w3 ⟨Z3, z3, rfl, ho, hb⟩
    have HB3 := Lib.hid (blT HB2.out hb)
    clear ho hb
    go_wp2
    go_ret
    exact ⟨by first | rfl | (simp; done), HB3.out⟩
  have HG := Lib.hid (stgS_ok hf)
  have HS0 : Hid ((stgS n).2 = 0) := Lib.hid (by rw [stgS_err]; exact hf)
  have HCS := Lib.hid (chk4_self n)
  have HGL := Lib.hid (stgS_len n)
  obtain ⟨hok, he⟩ := facS_ok hf
  have HE := Lib.hid he
  have HOK := Lib.hid hok
  have hl12 := hok.len
  have hn1 := hok.n1
  have hn2 := hok.n2
  have HPR := Lib.hid hok.prod
  clear hf he hok
  rw [HG.out] at HCS HGL
  generalize (facS n).1 = l at *
  have HSL : Hid ((stgL l).length = l.length) := Lib.hid (by simp [stgL])
  have HS1 : Hid ((stgL l, (0 : Int)).1.length = l.length) := HSL
  have HLL : Hid ((l, (0 : Int)).1.length = l.length) := Lib.hid rfl
  have hwn : IntKind.i64.wrap n = n := wrapI (by omega) (by omega)
  have hwn2 : wrap64 n = n := wrap64_id ⟨by omega, by omega⟩
  go_enter Tryd.func5, Tryd.ntmps5
  go_wp2_with fail
  refine (live04_calls _ HT.out).mono ?_
  rintro e w1 ⟨rfl, hb⟩
  have HB1 := Lib.hid hb
  clear hb
  go_wp2_with fail
  refine (radices_calls n _ HN.out (HT.out.below HB1.out)).mono ?_
  rw [HE.out, show ((l, (0 : Int)).1.length) = l.length from rfl]
  rintro e w2 ⟨Z2, z2, rfl, ho, hb⟩
  have HB2 := Lib.hid (blT HB1.out hb)
  have HA2 : Hid (Row w2 Z2 (nums .i64 l)) := Lib.hid ho.row
  clear ho hb
  go_wp2_with fail
  refine (stages_calls n _ HN.out (HT.out.below HB2.out)).mono ?_
  rw [HG.out, show ((stgL l, (0 : Int)).1.length) = l.length from HSL.out]
  rintro e w3 ⟨Z3, z3, rfl, ho, hb⟩
  have HB3 := Lib.hid (blT HB2.out hb)
  have HA3 := Lib.hid (HA2.out.below hb)
  have HS3 : Hid (Row w3 Z3 (stR3 (stgL l))) := Lib.hid ho.row
  clear ho hb HA2
  go_wp2
  go_loopw [7, 44] (fun v i wr => ∃ k : Nat, k ≤ l.length ∧ i = .int .i64 k ∧ v = .int .i64 (prodL (l.take k)) ∧ Hid (Below w3.heap.size w3 wr)) (fun _ i _ => l.length - (intOf i).toNat)
  case atStart => exact ⟨0, Nat.zero_le _, rfl, rfl, Lib.hid (Below.refl _ _)⟩
  case round =>
    obtain ⟨k, hk, rfl, rfl, HB4⟩ := hrel
    by_cases hlt : k < l.length
    · obtain ⟨xa, rfl⟩ := HA3.out.some_of (by intro h0; have := nums_length .i64 l; rw [h0] at this; simp at this; omega)
      obtain ⟨ya, rfl⟩ := HS3.out.some_of (by intro h0; have := stR3_length (stgL l); rw [h0, HSL.out] at this; simp at this; omega)
      have hc : wr.cell? (xa.add k) = some (.int .i64 l[k]) := (HA3.out.below HB4.out).num hlt
      have hs := HOK.out.stage hlt
      have hkk : k < (stgL l).length := by rw [HSL.out]; exact hlt
      obtain ⟨hc0, hc1, hc2⟩ := stg_cells (HS3.out.below HB4.out) hkk
      have eg : (stgL l)[k] = stgF l k := by simp [stgL]
      rw [eg, hs.stg] at hc0 hc1 hc2
      dsimp only at hc0 hc1 hc2
      have HNX := Lib.hid hs.next
      generalize l[k] = r at *
      generalize prodL (l.take k) = P at *
      generalize prodL (l.drop (k + 1)) = Q at *
      have hr2 := hs.r2
      have hr5 := hs.r5
      have hP1 := hs.P1
      have hPr := hs.PrN
      have hall := hs.all
      have hPP : P ≤ P * r := mul_mono (by omega) (by omega)
      rw [Int.mul_comm P r] at hall
      have hrp : r * P = P * r := Int.mul_comm _ _
      clear hs eg
      generalize hu : P * r = u at *
      generalize hv : r * P = v at *
      have hw1 : IntKind.i64.wrap u = u := wrapI (by omega) (by omega)
      have hw2 : wrap64 u = u := wrap64_id ⟨by omega, by omega⟩
      have hw3 : IntKind.i64.wrap v = v := wrapI (by omega) (by omega)
      have hw4 : wrap64 v = v := wrap64_id ⟨by omega, by omega⟩
      have t1 : decide ((l.length : Int) ≤ (k : Int)) = false := by simp; omega
      have t2 : decide (r < 2) = false := by simp; omega
      have t3 : decide (5 < r) = false := by simp; omega
      have t4 : decide (l.length ≤ k) = false := by simp; omega
      clear hrp
      go_wp2
      go_quiet (fail)
      go_wp2
      go_roundw
      case rel => exact ⟨k + 1, by omega, by go_num, by rw [HNX.out], Lib.hid (below_drewN HB4.out _)⟩
      case measure => simp [intOf]; omega
    · have hke : k = l.length := by omega
      have HPK : Hid (prodL (l.take k) = n) := Lib.hid (by rw [hke, List.take_length]; exact HPR.out)
      rw [HPK.out]
      have HB5 := Lib.hid (blT HB3.out HB4.out)
      have HS4 := Lib.hid (HS3.out.below HB4.out)
      have hcall := chk4_calls n Z3 z3 (stgL l) wr HN.out HS4.out HGL.out (HT.out.below HB5.out)
      rw [show chk4 n (stgL l) = 0 from HCS.out, HSL.out] at hcall
      have HCL := Lib.hid hcall
      clear hcall hke
      go_wp2_with fail
      refine HCL.out.mono ?_
      rintro e w5 ⟨rfl, hb⟩
      have HB6 := Lib.hid (blT HB5.out hb)
      clear hb
      go_wp2
      go_ret
      exact ⟨by first | rfl | (simp; done), HB6.out⟩
end Go.Proofs.YtnlmmgcjhedjkaaDoor.P
