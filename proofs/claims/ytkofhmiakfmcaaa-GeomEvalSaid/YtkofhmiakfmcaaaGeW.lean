/- The law GeomEval, walked. Conditions: words of their kinds; the slices read as lists. -/
import Derived.Test.YtkofhmiakfmcaaaEval0
import Derived.Test.YtkofhmiakfmcaaaFsW
namespace Go.Proofs.Ytkofhmiakfmcaaa.P
open Go.RowKit
set_option linter.unusedVariables false
set_option linter.unusedSimpArgs false
theorem eval_n (p r : Int) (A : Option Addr) (n c : Nat) (l : List Int) (w : World) (hn : l.length = n) (hp : U64 p) (hr : U64 r) (hR : Row w A (nums .u64 l)) (hl : n ≤ 9223372036854775807) (hw : ∀ a ∈ l, U64 a) :
    Calls Try.prog 78 #[.int .u64 p, .slice A n c, .int .u64 r] w fun e w' => e = .returned (.tuple #[.int .u64 (evalS p r l).1, .int .i64 (evalS p r l).2]) ∧ Below w.heap.size w w' := by
  subst hn; exact eval_calls p r A c l w hp hr hR hl hw
theorem evalS_ok {p r : Int} {l : List Int} (hk : knownS p = true) (h : l.length ≤ 65536) : evalS p r l = (evalG p r l, 0) := by rw [evalS, if_pos hk, if_pos h]
set_option maxRecDepth 100000 in
set_option maxHeartbeats 2000000 in
theorem geomEval_walk (p : Int) (A : Option Addr) (ca : Nat) (x : List Int) (B : Option Addr) (cb : Nat) (y : List Int) (c r : Int) (w : World) (hp : U64 p)
    (hr : Row w A (nums .u64 x)) (hy : x.length * 8 ≤ 140737488351232) (hw : ∀ d ∈ x, (Lit.int .u64 d).wf = true) (hrv : Row w B (nums .u64 y)) (hyv : y.length * 8 ≤ 140737488351232) (hwv : ∀ d ∈ y, (Lit.int .u64 d).wf = true) (hc : U64 c) (hru : U64 r) :
    Calls Try.prog 21 #[.int .u64 p, .slice A x.length ca, .slice B y.length cb, .int .u64 c, .int .u64 r] w fun e w' => e = .returned (.bool true) ∧ Below w.heap.size w w' := by
  have HP := Lib.hid hp
  have HC := Lib.hid hc
  have HRU := Lib.hid hru
  have HR := Lib.hid hr
  have HW : Hid (∀ d ∈ x, U64 d) := Lib.hid fun d hd => u64_wf (hw d hd)
  have HRV := Lib.hid hrv
  have HWV : Hid (∀ d ∈ y, U64 d) := Lib.hid fun d hd => u64_wf (hwv d hd)
  clear hp hr hw hrv hwv hc hru
  generalize hn : x.length = n at *
  generalize hm : y.length = m at *
  have HN := Lib.hid hn
  have HM := Lib.hid hm
  have HL : Hid (n ≤ 9223372036854775807) := Lib.hid (by omega)
  have HLM : Hid (m ≤ 9223372036854775807) := Lib.hid (by omega)
  clear hn hm
  go_enter Try.func21, Try.ntmps21
  go_wp2_with fail
  refine (live08_calls _).mono ?_
  rintro e w1 ⟨rfl, ⟨q0, rfl⟩⟩
  have HB1 : Hid (Below w.heap.size w (w.drewN q0)) := Lib.hid (below_drewN (Below.refl _ _) _)
  have HR1 := Lib.hid (HR.out.drewN q0)
  have HRV1 := Lib.hid (HRV.out.drewN q0)
  by_cases g0 : 40 < n
  · have f0 : decide (40 < (n : Int)) = true := by simp; omega
    clear g0
    go_wp2
    go_ret
    exact ⟨rfl, HB1.out⟩
  have f0 : decide (40 < (n : Int)) = false := by simp; omega
  by_cases g1 : n = m
  case neg =>
    have f1 : ((n : Int) != (m : Int)) = true := by simp; omega
    go_wp2
    go_ret
    exact ⟨rfl, HB1.out⟩
  subst g1
  have f1 : ((n : Int) != (n : Int)) = false := by simp
  have hn40 : n ≤ 40 := by omega
  generalize w.drewN q0 = w1 at *
  by_cases hk : knownS p = true
  case neg =>
    have hk2 : knownS p = false := by simpa using hk
    go_wp2_with (go_at_call 43; refine (known_calls _ _).mono ?_; rintro e w' ⟨rfl, rfl⟩)
    go_ret
    exact ⟨rfl, HB1.out⟩
  have HK := Lib.hid hk
  have HZL := Lib.hid (zL_length p c x y n)
  have HZU := Lib.hid (zL_u64 p c x y n)
  have HE1 : Hid (evalS p r x = (evalG p r x, 0)) := Lib.hid (evalS_ok hk (by rw [HN.out]; omega))
  have HE2 : Hid (evalS p r y = (evalG p r y, 0)) := Lib.hid (evalS_ok hk (by rw [HM.out]; omega))
  have HE3 : Hid (evalS p r (zL p c x y n) = (evalG p r (zL p c x y n), 0)) := Lib.hid (evalS_ok hk (by rw [HZL.out]; omega))
  have HE4 : Hid (evalG p r (zL p c x y n) = addS p (mulS p c (evalG p r x)) (evalG p r y)) := Lib.hid (evalG_sums p r c x y (zL p c x y n) (by rw [HM.out, HN.out]) (by rw [HZL.out, HN.out]) (fun t ht => zL_at p c x y (by rw [HN.out] at ht; exact ht)))
  have HPW : Hid (powersS p c (n : Int) = ((List.range n).map (powS p c), 0)) := Lib.hid (by rw [powersS, if_pos hk, if_pos ⟨by omega, by omega⟩, Int.toNat_natCast])
  have HPL : Hid (((List.range n).map (powS p c)).length = n) := Lib.hid (by simp)
  have HPU : Hid (∀ a ∈ (List.range n).map (powS p c), U64 a) := Lib.hid fun a ha => by
    simp only [List.mem_map] at ha
    obtain ⟨u, _, rfl⟩ := ha
    exact u64_powS _ _ _
  have HE5 : Hid (evalS p r ((List.range n).map (powS p c)) = (geoS p (mulS p c r) n, 0)) := Lib.hid (by rw [evalS_ok hk (by rw [HPL.out]; omega), evalG_powers])
  have HSS : Hid (sumS p (mulS p c r) (n : Int) = (geoS p (mulS p c r) n, 0)) := Lib.hid (by rw [sumS, if_pos hk, if_pos ⟨by omega, by omega⟩, Int.toNat_natCast])
  have HI : Hid (i64 (n : Int)) := Lib.hid ⟨by omega, by omega⟩
  have HG1 := Lib.hid (u64_evalG p r x)
  have HG2 := Lib.hid (u64_evalG p r y)
  go_wp2_with (go_at_call 43; refine (known_calls _ _).mono ?_; rintro e w3 ⟨rfl, rfl⟩)
  go_loopw [11, 44] (fun o q wr => ∃ (k : Nat) (Q : Option Addr) (s : Nat), k ≤ n ∧ q = .int .i64 k ∧ o = .slice Q k s ∧ Hid (Own wr w3.heap.size 37 1 Q k s (nums .u64 (zL p c x y k))) ∧ Hid (Below w3.heap.size w3 wr)) (fun _ q _ => n - (intOf q).toNat)
  case atStart => exact ⟨0, none, 0, Nat.zero_le _, rfl, rfl, Lib.hid (Own.nil _ _ _ _), Lib.hid (Below.refl _ _)⟩
  case round =>
    obtain ⟨k, Q, s, hkn, rfl, rfl, HO, HBW⟩ := hrel
    by_cases hlt : k < n
    · obtain ⟨xa, rfl⟩ := HR1.out.some_of (by intro h0; have h1 := nums_length .u64 x; rw [h0, HN.out] at h1; simp at h1; omega)
      obtain ⟨ya, rfl⟩ := HRV1.out.some_of (by intro h0; have h1 := nums_length .u64 y; rw [h0, HM.out] at h1; simp at h1; omega)
      have hltx : k < x.length := by have := HN.out; omega
      have hlty : k < y.length := by have := HM.out; omega
      have hc1 := (HR1.out.below HBW.out).num hltx
      have hc2 := (HRV1.out.below HBW.out).num hlty
      have HZS := Lib.hid (zL_succ p c x y k)
      have HZK : Hid (zF p c x y k = addS p (mulS p c x[k]) y[k]) := Lib.hid (by rw [zF, getD_of hltx, getD_of hlty])
      have HU1 : Hid (U64 x[k]) := Lib.hid (HW.out _ (List.getElem_mem hltx))
      have HU2 : Hid (U64 y[k]) := Lib.hid (HWV.out _ (List.getElem_mem hlty))
      have HX1 : Hid ((xa.add k).block < w3.heap.size) := Lib.hid (World.block_lt_of_cell? w3 _ (HR1.out.num hltx))
      have HX2 : Hid ((ya.add k).block < w3.heap.size) := Lib.hid (World.block_lt_of_cell? w3 _ (HRV1.out.num hlty))
      generalize x[k] = u at *
      generalize y[k] = v at *
      have HSZ := Lib.hid HBW.out.size
      go_wp2
      go_region_held3 (fun w' => w'.cell? (xa.add k) = some (.int .u64 u) ∧ w'.cell? (ya.add k) = some (.int .u64 v))
        (first | exact keep2 (by assumption) (by assumption) | exact keepB2 (by assumption) HX1.out HX2.out (by assumption) | go_keep)
        (first
          | (go_at_call 44; refine (mul_calls p c u _ HP.out HC.out HU1.out).mono ?_; rintro e w5 ⟨rfl, ⟨q, rfl⟩⟩)
          | (go_at_call 49; refine (add_calls p (mulS p c u) v _ HP.out (u64_mulS _ _ _) HU2.out).mono ?_; rintro e w6 ⟨rfl, rfl⟩)
          | (refine step_append_row _ Try.underlying47 info_u64 (by rfl) _ _ (by rfl) w3.heap.size k s 1 1 Q ⟨_, 0, none⟩ (zL p c x y k) [addS p (mulS p c u) v] (by rfl) (by rfl) ((HO.out.drewN _).grown ((Below.refl _ _).alloc (Nat.le_refl _) _)) (row_new1 _ _ _) rfl (by decide) (Nat.le_trans HSZ.out (by simp)) (by omega) (by omega) ?_; intro g cap2 w7 hown hbel hgrow hlt5))
      have HO7 : Hid (Own w7 w3.heap.size 37 1 (some ⟨g, 0, none⟩) (k + 1) cap2 (nums .u64 (zL p c x y (k + 1)))) := Lib.hid (by rw [HZS.out, HZK.out]; exact hown)
      have HB7 : Hid (Below w3.heap.size w3 w7) := Lib.hid (((below_drewN HBW.out _).alloc HSZ.out _).trans (hbel.mono (Nat.le_refl _)))
      clear hown hbel hgrow hlt5
      go_wp2
      go_roundw
      case rel => exact ⟨k + 1, some ⟨g, 0, none⟩, cap2, by omega, by go_num, rfl, HO7, HB7⟩
      case measure => simp [intOf]; omega
    · have hke : k = n := by omega
      subst hke
      have HBE : Hid (Below w.heap.size w wr) := Lib.hid (blC HB1.out HBW.out)
      have HRO : Hid (Row wr Q (nums .u64 (zL p c x y k))) := Lib.hid HO.out.row
      have HRX := Lib.hid (HR1.out.below HBW.out)
      have HRY := Lib.hid (HRV1.out.below HBW.out)
      clear HO HBW HR1 HRV1 HB1
      go_wp2_with fail
      refine (eval_n p r A k ca x _ HN.out HP.out HRU.out HRX.out HL.out HW.out).mono ?_
      rw [HE1.out]
      rintro e w4 ⟨rfl, hb4⟩
      have HBE4 : Hid (Below w.heap.size w w4) := Lib.hid (blC HBE.out hb4)
      have HRO4 := Lib.hid (HRO.out.below hb4)
      have HRY4 := Lib.hid (HRY.out.below hb4)
      clear hb4
      go_wp2_with fail
      refine (eval_n p r B k cb y _ HM.out HP.out HRU.out HRY4.out HL.out HWV.out).mono ?_
      rw [HE2.out]
      rintro e w5 ⟨rfl, hb5⟩
      have HBE5 : Hid (Below w.heap.size w w5) := Lib.hid (blC HBE4.out hb5)
      have HRO5 := Lib.hid (HRO4.out.below hb5)
      clear hb5
      go_wp2_with fail
      refine (eval_n p r Q k s (zL p c x y k) _ HZL.out HP.out HRU.out HRO5.out HL.out HZU.out).mono ?_
      rw [HE3.out]
      rintro e w6 ⟨rfl, hb6⟩
      have HBE6 : Hid (Below w.heap.size w w6) := Lib.hid (blC HBE5.out hb6)
      clear hb6
      go_wp2_with fail
      refine (powers_calls p c (k : Int) _ HP.out HC.out HI.out).mono ?_
      rw [HPW.out, show (((List.range k).map (powS p c), (0 : Int)).1.length) = k from HPL.out]
      rintro e w7 ⟨G, cg, rfl, ho7, hb7⟩
      have HBE7 : Hid (Below w.heap.size w w7) := Lib.hid (blC HBE6.out hb7)
      have HRG : Hid (Row w7 G (nums .u64 ((List.range k).map (powS p c)))) := Lib.hid ho7.row
      clear ho7 hb7
      go_wp2_with fail
      refine (eval_n p r G k cg ((List.range k).map (powS p c)) _ HPL.out HP.out HRU.out HRG.out HL.out HPU.out).mono ?_
      rw [HE5.out]
      rintro e w8 ⟨rfl, hb8⟩
      have HBE8 : Hid (Below w.heap.size w w8) := Lib.hid (blC HBE7.out hb8)
      clear hb8
      rw [HE4.out]
      go_wp2_with fail
      refine (mul_calls p c r _ HP.out HC.out HRU.out).mono ?_
      rintro e w9 ⟨rfl, ⟨q2, rfl⟩⟩
      go_wp2_with fail
      refine (sum_calls p (mulS p c r) (k : Int) _ HP.out (u64_mulS _ _ _)).mono ?_
      rw [HSS.out]
      rintro e w10 ⟨rfl, ⟨q3, rfl⟩⟩
      go_wp2_with (first
        | (go_at_call 44; refine (mul_calls p c (evalG p r x) _ HP.out HC.out HG1.out).mono ?_; rintro e w11 ⟨rfl, ⟨q4, rfl⟩⟩)
        | (go_at_call 49; refine (add_calls p (mulS p c (evalG p r x)) (evalG p r y) _ HP.out (u64_mulS _ _ _) HG2.out).mono ?_; rintro e w12 ⟨rfl, rfl⟩))
      go_ret
      exact ⟨by first | rfl | (simp; done), by repeat (first | exact HBE8.out | refine below_drewN ?_ _)⟩
end Go.Proofs.Ytkofhmiakfmcaaa.P
