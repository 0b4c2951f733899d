
/- The law PlanWhole, walked. Conditions: words of their kinds; slices read as lists; the library's table lies as it was laid. -/
import Derived.Test.YtohcoidbncbijaaDoorStO
import Derived.Test.YtohcoidbncbijaaDoorPlW
import Derived.Test.YtohcoidbncbijaaDoorGrZ
import Derived.Test.YtohcoidbncbijaaDoorStV
import Derived.Test.YtohcoidbncbijaaDoorStU
import Derived.Test.YtohcoidbncbijaaDoorGrF
import Derived.Test.YtohcoidbncbijaaDoorRound3
namespace Go.Proofs.YtohcoidbncbijaaDoor.P
open Go.RowKit
set_option linter.unusedVariables false
set_option linter.unusedSimpArgs false
set_option maxRecDepth 100000 in
set_option maxHeartbeats 4000000 in
theorem planWhole_walk (p : Int) (A : Option Addr) (ca : Nat) (ax : List (Int × Bool)) (inv : Bool) (X : Option Addr) (cx : Nat) (x : List Int) (w : World) (hp : U64 p) (hr : Row w A (axR ax)) (hla : ax.length * 16 ≤ 140737488351232) (hcap : ax.length ≤ ca) (hwa : ∀ a ∈ ax, (Lit.int .i64 a.1).wf = true) (hrx : Row w X (nums .u64 x)) (hlx : x.length * 8 ≤ 140737488351232) (hwx : ∀ d ∈ x, (Lit.int .u64 d).wf = true) (hT : Tab w) :
    Calls Tryd.prog 19 #[.int .u64 p, .slice A ax.length ca, .bool inv, .slice X x.length cx] w fun e w' => e = .returned (.bool true) ∧ Below w.heap.size w w' := by
  have HP := Lib.hid hp
  have HR := Lib.hid hr
  have HT := Lib.hid hT
  have HW : Hid (∀ a ∈ ax, i64 a.1) := Lib.hid fun a ha => i64_wf (hwa a ha)
  clear hp hr hT hwa
  generalize hn : ax.length = n at *
  have HN := Lib.hid hn
  have HL : Hid (n ≤ 8796093022208) := Lib.hid (by omega)
  clear hn hla hcap
  have HRX := Lib.hid hrx
  have HWX : Hid (∀ d ∈ x, U64 d) := Lib.hid fun d hd => u64_wf (hwx d hd)
  clear hrx hwx
  generalize hm : x.length = m at *
  have HM := Lib.hid hm
  have HLM : Hid (m ≤ 9223372036854775807) := Lib.hid (by omega)
  have HM8 : Hid (m * 8 ≤ 140737488351232) := Lib.hid hlx
  clear hm hlx
  go_enter Tryd.func19, Tryd.ntmps19
  go_wp2_with fail
  refine (live17_calls _ HT.out).mono ?_
  rintro e w1 ⟨rfl, hb1⟩
  have HB1 := Lib.hid hb1
  clear hb1
  go_wp2_with fail
  refine (few7_calls _ _ _ ax _ _ HN.out (HR.out.below HB1.out) HL.out HW.out).mono ?_
  rintro e w2 ⟨r, rfl, hb⟩
  have HB2 := Lib.hid (blT HB1.out hb)
  clear hb HB1
  cases r
  case false =>
    go_wp2
    go_ret
    exact ⟨rfl, HB2.out⟩
  by_cases h50 : 50 < m
  case pos =>
    have f50 : decide ((50 : Int) < (m : Int)) = true := by simp; omega
    have f51 : decide (50 < m) = true := by simp; omega
    go_wp2
    go_ret
    exact ⟨by first | rfl | (simp; done), HB2.out⟩
  have f50 : decide ((50 : Int) < (m : Int)) = false := by simp; omega
  have f51 : decide (50 < m) = false := by simp; omega
  by_cases hc : wrd7 p ax x = 0
  case neg =>
    have HF : Hid (grS p ax inv x = ([], wrd7 p ax x)) := Lib.hid (by rw [grS, if_neg hc])
    have t0 : (wrd7 p ax x != 0) = true := by simpa using hc
    clear hc
    go_wp2_with fail
    refine (do7_calls p A _ n ax inv X cx m x w2 HN.out HM.out HP.out (HR.out.below HB2.out) HL.out HW.out (HRX.out.below HB2.out) HLM.out HWX.out (HT.out.below HB2.out)).mono ?_
    rw [HF.out]
    rintro e w3 ⟨B, b, rfl, ho, hb⟩
    have HB3 := Lib.hid (blT HB2.out hb)
    clear ho hb
    dsimp only
    go_wp2
    go_ret
    exact ⟨by first | rfl | (simp; done), HB3.out⟩
  obtain ⟨hC7, hPL, hIN⟩ := wrd7_ok hc
  have HF : Hid (grS p ax inv x = (grN p ax inv x n, 0)) := Lib.hid (by rw [grS, if_pos hc, HN.out])
  have HWB : Hid (WrdB p ax x) := Lib.hid ⟨hC7.known, hPL, hIN, HWX.out⟩
  have HSS : Hid (stepsS p ax inv = (stepsN ax inv n, 0)) := Lib.hid (by rw [stepsS, if_pos hC7.ok, HN.out])
  have HMAY : Hid (∀ s ∈ stepsN ax inv n, chk16 p ax s = 0) := Lib.hid fun s hs => steps_may hC7 (by rw [HN.out]; exact Nat.le_refl _) hs
  have HEND : Hid (runB p ax ((stepsN ax inv n).map fun s => (inv, s)) x = grN p ax inv x n) := Lib.hid (by
    have h1 := steps_whole hC7 inv HWB.out
    rw [HN.out] at h1
    exact h1)
  have HLG : Hid (((grN p ax inv x n, (0 : Int)).1).length = m) := Lib.hid (by rw [grN_length]; exact HM.out)
  have HLG2 : Hid ((grN p ax inv x n).length = m) := Lib.hid (by rw [grN_length]; exact HM.out)
  have hlen : (stepsN ax inv n).length ≤ 56 := by
    have h1 := stepsN_len hC7.smooth inv n (by rw [HN.out]; exact Nat.le_refl _)
    have h2 := hC7.dims.n4
    rw [dimsA_length, HN.out] at h2
    omega
  generalize grN p ax inv x n = want at *
  obtain ⟨l, hl⟩ : ∃ l, stepsN ax inv n = l := ⟨_, rfl⟩
  rw [hl] at HSS HMAY HEND hlen
  clear hl hc hC7 hPL hIN
  obtain ⟨K, hK⟩ : ∃ K, l.length = K := ⟨_, rfl⟩
  have HK : Hid (l.length = K) := Lib.hid hK
  have HK2 : Hid (((l, (0 : Int)).1).length = K) := Lib.hid hK
  have hK56 : K ≤ 56 := by omega
  clear hK hlen
  go_wp2_with fail
  refine (do7_calls p A _ n ax inv X cx m x w2 HN.out HM.out HP.out (HR.out.below HB2.out) HL.out HW.out (HRX.out.below HB2.out) HLM.out HWX.out (HT.out.below HB2.out)).mono ?_
  rw [HF.out, HLG.out]
  rintro e w3 ⟨G, cg, rfl, ho, hb⟩
  have HB3 := Lib.hid (blT HB2.out hb)
  have HRG := Lib.hid ho.row
  clear ho hb
  dsimp only
  go_wp2_with fail
  refine (psteps_calls p A _ n ax inv w3 HN.out HP.out (HR.out.below HB3.out) HL.out HW.out (HT.out.below HB3.out)).mono ?_
  rw [HSS.out, HK2.out]
  rintro e w4 ⟨B, cb, rfl, ho, hb⟩
  have HB4 := Lib.hid (blT HB3.out hb)
  have HRG4 := Lib.hid (HRG.out.below hb)
  have HRL := Lib.hid ho.row
  clear ho hb
  dsimp only
  have HRX4 := Lib.hid (HRX.out.below HB4.out)
  go_wp2
  go_loopw [3, 51] (fun v q wr => ∃ (i : Nat) (Z : Option Addr) (z : Nat), i ≤ K ∧ q = .int .i64 i ∧ v = .slice Z m z ∧ Hid (Row wr Z (nums .u64 (runB p ax ((l.map fun s => (inv, s)).take i) x))) ∧ Hid (Below w4.heap.size w4 wr)) (fun _ q _ => K - (intOf q).toNat)
  case atStart => exact ⟨0, X, cx, Nat.zero_le _, rfl, rfl, Lib.hid HRX4.out, Lib.hid (Below.refl _ _)⟩
  case round =>
    obtain ⟨i, Z, z, hi, rfl, rfl, HRZ, HB5⟩ := hrel
    have HB6 := Lib.hid (blT HB4.out HB5.out)
    by_cases hlt : i < K
    · have hil : i < l.length := by have := HK.out; omega
      obtain ⟨la, rfl⟩ := HRL.out.some_of (by intro h0; have h1 := spR_length l; rw [h0] at h1; simp at h1; omega)
      obtain ⟨b0, b1, b2, b3, b4⟩ := sp_cells (HRL.out.below HB5.out) hil
      have HMI := Lib.hid (HMAY.out _ (List.getElem_mem hil))
      have HTK : Hid (runB p ax ((l.map fun s => (inv, s)).take (i + 1)) x = stepDo p ax inv l[i] (runB p ax ((l.map fun s => (inv, s)).take i) x)) := Lib.hid (by
        rw [runB_take p ax _ x (i := i) (by simpa using hil)]
        simp)
      have HWY := Lib.hid (HWB.out.run ((l.map fun s => (inv, s)).take i))
      obtain ⟨⟨s0, s1, s2, s3, s4⟩, hs⟩ : ∃ s, l[i] = s := ⟨_, rfl⟩
      rw [hs] at HMI HTK b0 b1 b2 b3 b4
      dsimp only at b0 b1 b2 b3 b4
      clear hs hil
      generalize runB p ax ((l.map fun s => (inv, s)).take i) x = y at *
      have HMY : Hid (y.length = m) := Lib.hid (by have h1 := HWY.out.all; have h2 := HWB.out.all; have h3 := HM.out; omega)
      have HDO := Lib.hid ((HWY.out.may HMI.out).do inv)
      have HLD : Hid (((stepDo p ax inv (s0, s1, s2, s3, s4) y, (0 : Int)).1).length = m) := Lib.hid (by rw [stepDo_length]; exact HMY.out)
      have hbA : Below wr.heap.size wr (wr.alloc (.cells #[.int .i64 s0, .bool s1, .int .i64 s2, .int .i64 s3, .int .i64 s4] 39)) := (Below.refl _ _).alloc (Nat.le_refl _) _
      have HBA := Lib.hid hbA
      clear hbA
      go_wp2_with fail
      clear b0 b1 b2 b3 b4
      generalize (wr.alloc (.cells #[.int .i64 s0, .bool s1, .int .i64 s2, .int .i64 s3, .int .i64 s4] 39)) = V at *
      have HBV : Hid (Below w.heap.size w V) := Lib.hid (blT HB6.out HBA.out)
      refine (sdo_calls p A _ n ax inv s0 s1 s2 s3 s4 Z z m y V HN.out HMY.out HP.out (HR.out.below HBV.out) HL.out HW.out (HRZ.out.below HBA.out) HLM.out HWY.out.u64 (HT.out.below HBV.out)).mono ?_
      rw [HDO.out, HLD.out]
      rintro e w7 ⟨Y, cy, rfl, ho, hb⟩
      have HRY : Hid (Row w7 Y (nums .u64 (runB p ax ((l.map fun s => (inv, s)).take (i + 1)) x))) := Lib.hid (by rw [HTK.out]; exact ho.row)
      have HB7 : Hid (Below w4.heap.size w4 w7) := Lib.hid (blT (blT HB5.out HBA.out) hb)
      clear ho hb
      dsimp only
      go_wp2
      go_roundw
      case rel => exact ⟨i + 1, Y, cy, by omega, by go_num, rfl, HRY, HB7⟩
      case measure => simp [intOf]; omega
    · have hie : i = K := by omega
      have HRE : Hid (Row wr Z (nums .u64 want)) := Lib.hid (by
        have h1 := HRZ.out
        rw [List.take_of_length_le (by simp; have := HK.out; omega), HEND.out] at h1
        exact h1)
      clear hie HRZ
      go_wp2_with fail
      refine (same_n _ _ _ _ m m want want _ HLG2.out HLG2.out HRE.out HLM.out (HRG4.out.below HB5.out)).mono ?_
      rw [show decide (want = want) = true from decide_eq_true rfl]
      rintro e w9 ⟨rfl, ⟨q9, rfl⟩⟩
      go_wp2
      go_ret
      exact ⟨by first | rfl | (simp; done), below_drewN HB6.out q9⟩
end Go.Proofs.YtohcoidbncbijaaDoor.P
