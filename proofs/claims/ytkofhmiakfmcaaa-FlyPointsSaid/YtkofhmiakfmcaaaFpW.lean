/- The law FlyPoints, walked. Conditions: words of their kinds; the slice reads as a list. -/
import Derived.Test.YtkofhmiakfmcaaaFlyN
namespace Go.Proofs.Ytkofhmiakfmcaaa.P
open Go.RowKit
set_option linter.unusedVariables false
set_option linter.unusedSimpArgs false
def sumF (p : Int) (x : List Int) (k : Nat) : Int := redS p (S k (fun i => x.getD i 0))
theorem sumF_zero (p : Int) (x : List Int) : sumF p x 0 = 0 := redS_zero p
theorem sumF_step (p : Int) (x : List Int) (k : Nat) : addS p (sumF p x k) (x.getD k 0) = sumF p x (k + 1) := by
  unfold sumF addS
  rw [redS_add_left]; rfl
theorem u64_sumF (p : Int) (x : List Int) (k : Nat) : U64 (sumF p x k) := u64_redS _ _
/-- The points' sum so far. -/
def gF (p a : Int) (k : Nat) : Int := redS p (S k (fun i => a ^ i))
theorem gF_zero (p a : Int) : gF p a 0 = 0 := redS_zero p
theorem gF_step (p a : Int) (k : Nat) : addS p (gF p a k) (powS p a k) = gF p a (k + 1) := by
  unfold gF addS powS
  rw [redS_add_left, redS_add_right]; rfl
theorem u64_gF (p a : Int) (k : Nat) : U64 (gF p a k) := u64_redS _ _
set_option maxRecDepth 100000 in
set_option maxHeartbeats 2000000 in
theorem flyPoints_walk (p r : Int) (inv : Bool) (A : Option Addr) (ca : Nat) (x : List Int) (w : World) (hp : U64 p) (hri : i64 r)
    (hr : Row w A (nums .u64 x)) (hy : x.length * 8 ≤ 140737488351232) (hw : ∀ d ∈ x, (Lit.int .u64 d).wf = true) :
    Calls Try.prog 27 #[.int .u64 p, .int .i64 r, .bool inv, .slice A x.length ca] w fun e w' => e = .returned (.bool true) ∧ Below w.heap.size w w' := by
  have HP := Lib.hid hp
  have HI := Lib.hid hri
  have HR := Lib.hid hr
  have HW : Hid (∀ d ∈ x, U64 d) := Lib.hid fun d hd => u64_wf (hw d hd)
  clear hp hr hw hri
  generalize hn : x.length = n at *
  have HN := Lib.hid hn
  have HL : Hid (n ≤ 9223372036854775807) := Lib.hid (by omega)
  clear hn
  go_enter Try.func27, Try.ntmps27
  go_wp2_with fail
  refine (live15_calls _).mono ?_
  rintro e w1 ⟨rfl, hb1⟩
  have HB1 := Lib.hid hb1
  have HR1 := Lib.hid (HR.out.below hb1)
  clear hb1
  by_cases g0 : 12 < n
  · have f0 : decide (12 < (n : Int)) = true := by simp; omega
    clear g0
    go_wp2
    go_ret
    exact ⟨rfl, HB1.out⟩
  have f0 : decide (12 < (n : Int)) = false := by simp; omega
  go_wp2_with fail
  refine (points_calls p r inv _ HP.out HI.out).mono ?_
  by_cases hpt : (ptsS p r inv).2 = 0
  case neg =>
    have s0 : ((ptsS p r inv).2 == 0) = false := by simpa using hpt
    rintro e w2 ⟨L, cl, rfl, ho2, hb2⟩
    have HB2 : Hid (Below w.heap.size w w2) := Lib.hid (blC HB1.out hb2)
    have HR2 := Lib.hid (HR1.out.below hb2)
    clear ho2 hb2 hpt HB1 HR1
    go_wp2_with fail
    refine (do_n p inv A n ca x _ HN.out HP.out (HR2.out) HL.out HW.out).mono ?_
    by_cases hd : (doS p inv x).2 = 0
    case neg =>
      have HE : Hid ((doS p inv x).1 = []) := Lib.hid (doS_no p inv x hd)
      have t0 : ((doS p inv x).2 != 0) = true := by simpa using hd
      rw [HE.out]
      rintro e wA ⟨Y, cy, rfl, hoA, hbA⟩
      have HBA : Hid (Below w.heap.size w wA) := Lib.hid (blC HB2.out hbA)
      clear hoA hbA hd
      go_wp2
      go_ret
      exact ⟨by first | rfl | (simp; done), HBA.out⟩
    obtain ⟨ho2, hin2, e2⟩ := doS_len p inv x hd
    obtain ⟨N2, hN2, h22, h25, hT2, _, _⟩ := ptsS_ok ho2
    rw [HN.out] at ho2 hN2 hT2 e2
    have hn2 : 2 ≤ n := by omega
    have hn5 : n ≤ 5 := by omega
    have HDD : Hid (doS p inv x = (doL p (turnS p n inv) x, 0)) := Lib.hid e2
    have HDL : Hid ((doL p (turnS p n inv) x).length = n) := Lib.hid (by rw [doL_length]; exact HN.out)
    have HD0 : Hid ((doL p (turnS p n inv) x).getD 0 0 = sumF p x n) := Lib.hid (by
      rw [doL_at p _ x (by rw [HN.out]; omega), doF, HN.out, sumF]
      exact red_S fun t ht => by rw [Nat.mul_zero, Int.pow_zero, Int.mul_one])
    have HDT : Hid (sumF p (doL p (turnS p n inv) x) n = mulS p n (x.getD 0 0)) := Lib.hid (by
      have e3 : N2 = n := by omega
      subst e3
      have h1 := hT2
      rw [← HN.out] at h1
      have h2 := h1.total
      rw [HN.out] at h2
      rw [← h2, sumF]
      exact red_S fun t ht => by rw [doL_at p _ x (by rw [HN.out]; exact ht)])
    rw [HDD.out, show ((doL p (turnS p n inv) x, (0 : Int)).1.length) = n from HDL.out]
    rintro e wA ⟨Y, cy, rfl, hoA, hbA⟩
    have HBA : Hid (Below w.heap.size w wA) := Lib.hid (blC HB2.out hbA)
    have HRA : Hid (Row wA A (nums .u64 x)) := Lib.hid ((HR2.out).below hbA)
    have HRY : Hid (Row wA Y (nums .u64 (doL p (turnS p n inv) x))) := Lib.hid hoA.row
    have HDU := Lib.hid (doL_u64 p (turnS p n inv) x)
    obtain ⟨xa, rfl⟩ := HRA.out.some_of (by intro h0; have h1 := nums_length .u64 x; rw [h0, HN.out] at h1; simp at h1; omega)
    obtain ⟨ya, rfl⟩ := HRY.out.some_of (by intro h0; have h1 := nums_length .u64 (doL p (turnS p n inv) x); rw [h0, HDL.out] at h1; simp at h1; omega)
    have hx0 : wA.cell? xa = some (.int .u64 (x.getD 0 0)) := by
      rw [getD_of (by have := HN.out; omega)]
      exact HRA.out.cell (i := 0) (nums_get .u64 x 0 (by have := HN.out; omega))
    have hy0 : wA.cell? ya = some (.int .u64 (sumF p x n)) := by
      rw [← HD0.out, getD_of (by have := HDL.out; omega)]
      exact HRY.out.cell (i := 0) (nums_get .u64 _ 0 (by have := HDL.out; omega))
    have HX0 := Lib.hid hx0
    have HY0 := Lib.hid hy0
    have HXU : Hid (U64 (x.getD 0 0)) := Lib.hid (by rw [getD_of (by have := HN.out; omega)]; exact HW.out _ (List.getElem_mem _))
    have HNU : Hid (U64 (n : Int)) := Lib.hid ⟨by omega, by omega⟩
    clear hoA hbA hd ho2 hin2 e2 hN2 hT2 hx0 hy0 HD0 HDD
    generalize hdd : doL p (turnS p n inv) x = dd at *
    generalize hG : sumF p x n = G at *
    generalize hF : sumF p dd n = F at *
    have HGE := Lib.hid hG
    have HFE := Lib.hid hF
    clear hdd hG hF
    go_wp2
    go_loopw [16, 17, 110] (fun s t q wr => ∃ k : Nat, k ≤ n ∧ q = .int .i64 k ∧ s = .int .u64 (sumF p x k) ∧ t = .int .u64 (sumF p dd k) ∧ wr = wA) (fun _ _ q _ => n - (intOf q).toNat)
    case atStart => exact ⟨0, Nat.zero_le _, rfl, by rw [sumF_zero], by rw [sumF_zero], rfl⟩
    case round =>
      obtain ⟨k, hk, rfl, rfl, rfl, rfl⟩ := hrel
      by_cases hlt : k < n
      · have hltx : k < x.length := by have := HN.out; omega
        have hltd : k < dd.length := by have := HDL.out; omega
        have hc1 := HRA.out.num hltx
        have hc2 := HRY.out.num hltd
        have HS1 := Lib.hid (sumF_step p x k)
        have HS2 := Lib.hid (sumF_step p dd k)
        rw [getD_of hltx] at HS1
        rw [getD_of hltd] at HS2
        have HU1 : Hid (U64 x[k]) := Lib.hid (HW.out _ (List.getElem_mem hltx))
        have HU2 : Hid (U64 dd[k]) := Lib.hid (HDU.out _ (List.getElem_mem hltd))
        have HV1 := Lib.hid (u64_sumF p x k)
        have HV2 := Lib.hid (u64_sumF p dd k)
        generalize x[k] = u at *
        generalize dd[k] = v at *
        generalize sumF p x k = s at *
        generalize sumF p dd k = t at *
        go_wp2_with fail
        refine (add_calls p s u _ HP.out HV1.out HU1.out).mono ?_
        rintro e wB ⟨rfl, rfl⟩
        go_wp2_with fail
        refine (add_calls p t v _ HP.out HV2.out HU2.out).mono ?_
        rintro e wB ⟨rfl, rfl⟩
        go_wp2
        go_roundw
        case rel => exact ⟨k + 1, by omega, by go_num, by rw [← HS1.out], by rw [← HS2.out], by trivial⟩
        case measure => simp [intOf]; omega
      · have hke : k = n := by omega
        subst hke
        rw [HGE.out, HFE.out, HDT.out]
        have hx0 := HX0.out
        have hy0 := HY0.out
        go_wp2_with (go_at_call 44; refine (mul_calls _ _ _ _ HP.out HNU.out HXU.out).mono ?_; rintro e wB ⟨rfl, ⟨q, rfl⟩⟩)
        go_ret
        exact ⟨by first | rfl | (simp; done), by first | exact HBA.out | exact below_drewN HBA.out _⟩
  obtain ⟨N, rfl, hN2, hN5, hT, hU, hpts⟩ := ptsS_ok hpt
  have HT := Lib.hid hT
  have HPT := Lib.hid hpts
  have HLL : Hid (((List.range N).map (powS p (turnS p (N : Int) inv))).length = N) := Lib.hid (by simp)
  rw [HPT.out, show (((List.range N).map (powS p (turnS p (N : Int) inv)), (0 : Int)).1.length) = N from HLL.out]
  rintro e w2 ⟨L, cl, rfl, ho2, hb2⟩
  have HB2 : Hid (Below w.heap.size w w2) := Lib.hid (blC HB1.out hb2)
  have HR2 := Lib.hid (HR1.out.below hb2)
  have HRL : Hid (Row w2 L (nums .u64 ((List.range N).map (powS p (turnS p (N : Int) inv))))) := Lib.hid ho2.row
  obtain ⟨la, rfl⟩ := HRL.out.some_of (by intro h0; have h1 := nums_length .u64 ((List.range N).map (powS p (turnS p (N : Int) inv))); rw [h0, HLL.out] at h1; simp at h1; omega)
  have HUA := Lib.hid hU
  have HG0 : Hid (gF p (turnS p (N : Int) inv) N = 0) := Lib.hid (hT.nought hN2)
  have HPN : Hid (powS p (turnS p (N : Int) inv) N = 1) := Lib.hid ((hT.ia N).2 (Nat.dvd_refl N))
  have HP1 : Hid (powS p (turnS p (N : Int) inv) 1 = turnS p (N : Int) inv) := Lib.hid hT.pow1
  have HNE : Hid (∀ k, 0 < k → k < N → powS p (turnS p (N : Int) inv) k ≠ 1) := Lib.hid fun k hk0 hkN h1 => by
    have h2 := (hT.ia k).1 h1
    have := Nat.le_of_dvd hk0 h2
    omega
  have HCL : Hid (∀ W, Row W (some la) (nums .u64 ((List.range N).map (powS p (turnS p (N : Int) inv)))) → ∀ k, k < N → W.cell? (la.add k) = some (.int .u64 (powS p (turnS p (N : Int) inv) k))) := Lib.hid fun W hW k hk => by
    have h1 := hW.num (i := k) (by simpa using hk)
    simpa using h1
  have hl1 : ∀ W, Row W (some la) (nums .u64 ((List.range N).map (powS p (turnS p (N : Int) inv)))) → W.cell? ⟨la.block, la.off + 1, none⟩ = some (.int .u64 (turnS p (N : Int) inv)) := fun W hW => by
    have h1 := HCL.out W hW 1 (by omega)
    rw [HP1.out] at h1
    exact h1
  have HL1 := Lib.hid hl1
  have q0 : ((N : Int) != (N : Int)) = false := by simp
  have q1 : decide ((N : Int) < 2) = false := by simp; omega
  have q2 : decide (5 < (N : Int)) = false := by simp; omega
  have q3 : decide (N < 2) = false := by simp; omega
  have q4 : decide (5 < N) = false := by simp; omega
  clear ho2 hb2 hpt hT hU hpts hl1 HB1 HR1 HPT
  generalize hae : turnS p (N : Int) inv = a at *
  clear hae
  generalize hlist : (List.range N).map (powS p a) = li at *
  clear hlist
  go_wp2
  go_loopw [11, 47] (fun s q wr => ∃ k : Nat, k ≤ N ∧ q = .int .i64 k ∧ s = .int .u64 (gF p a k) ∧ Hid (Below w2.heap.size w2 wr)) (fun _ q _ => N - (intOf q).toNat)
  case atStart => exact ⟨0, Nat.zero_le _, rfl, by rw [gF_zero], Lib.hid (Below.refl _ _)⟩
  case round =>
    obtain ⟨k, hk, rfl, rfl, HBW⟩ := hrel
    have hc1 := HL1.out wr (HRL.out.below HBW.out)
    by_cases hlt : k < N
    · have hck := HCL.out wr (HRL.out.below HBW.out) k hlt
      have HKU : Hid (U64 (k : Int)) := Lib.hid ⟨by omega, by omega⟩
      have f3 : (powS p a k != powS p a ((k : Int)).toNat) = false := by simp
      have HS := Lib.hid (gF_step p a k)
      have HSU := Lib.hid (u64_gF p a k)
      have HPU := Lib.hid (u64_powS p a k)
      by_cases hk0 : k = 0
      · subst hk0
        have hc0 : wr.cell? la = some (.int .u64 (powS p a 0)) := by
          have h1 := hck
          simpa [Addr.add] using h1
        rw [show ((0 : Nat) : Int) = 0 from rfl] at *
        clear hck
        go_wp2_with (first
          | (go_at_call 47; refine (pow_calls _ _ _ _ HP.out HUA.out HKU.out).mono ?_; rintro e w4 ⟨rfl, ⟨q4, rfl⟩⟩)
          | (go_at_call 49; refine (add_calls _ _ _ _ HP.out HSU.out HPU.out).mono ?_; rintro e w5 ⟨rfl, rfl⟩))
        go_roundw
        case rel => exact ⟨1, by omega, by go_num, by rw [← HS.out], Lib.hid (below_drewN HBW.out _)⟩
        case measure => simp [intOf]; omega
      · have f4 : decide (0 < (k : Int)) = true := by simp; omega
        have f5 : (powS p a k == 1) = false := by simpa using HNE.out k (by omega) hlt
        go_wp2_with (first
          | (go_at_call 47; refine (pow_calls _ _ _ _ HP.out HUA.out HKU.out).mono ?_; rintro e w4 ⟨rfl, ⟨q4, rfl⟩⟩)
          | (go_at_call 49; refine (add_calls _ _ _ _ HP.out HSU.out HPU.out).mono ?_; rintro e w5 ⟨rfl, rfl⟩))
        go_roundw
        case rel => exact ⟨k + 1, by omega, by go_num, by rw [← HS.out], Lib.hid (below_drewN HBW.out _)⟩
        case measure => simp [intOf]; omega
    · have hke : k = N := by omega
      subst hke
      rw [HG0.out]
      have HKU : Hid (U64 (k : Int)) := Lib.hid ⟨by omega, by omega⟩
      go_wp2_with fail
      refine (pow_calls _ _ _ _ HP.out HUA.out HKU.out).mono ?_
      rw [Int.toNat_natCast, HPN.out]
      rintro e w4 ⟨rfl, ⟨q4, rfl⟩⟩
      have HB5 : Hid (Below w.heap.size w (wr.drewN q4)) := Lib.hid (below_drewN (blC HB2.out HBW.out) _)
      have HR5 : Hid (Row (wr.drewN q4) A (nums .u64 x)) := Lib.hid ((HR2.out.below HBW.out).drewN q4)
      go_wp2_with fail
      refine (do_n p inv A n ca x _ HN.out HP.out (HR5.out) HL.out HW.out).mono ?_
      by_cases hd : (doS p inv x).2 = 0
      case neg =>
        have HE : Hid ((doS p inv x).1 = []) := Lib.hid (doS_no p inv x hd)
        have t0 : ((doS p inv x).2 != 0) = true := by simpa using hd
        rw [HE.out]
        rintro e wA ⟨Y, cy, rfl, hoA, hbA⟩
        have HBA : Hid (Below w.heap.size w wA) := Lib.hid (blC HB5.out hbA)
        clear hoA hbA hd
        go_wp2
        go_ret
        exact ⟨by first | rfl | (simp; done), HBA.out⟩
      obtain ⟨ho2, hin2, e2⟩ := doS_len p inv x hd
      obtain ⟨N2, hN2, h22, h25, hT2, _, _⟩ := ptsS_ok ho2
      rw [HN.out] at ho2 hN2 hT2 e2
      have hn2 : 2 ≤ n := by omega
      have hn5 : n ≤ 5 := by omega
      have HDD : Hid (doS p inv x = (doL p (turnS p n inv) x, 0)) := Lib.hid e2
      have HDL : Hid ((doL p (turnS p n inv) x).length = n) := Lib.hid (by rw [doL_length]; exact HN.out)
      have HD0 : Hid ((doL p (turnS p n inv) x).getD 0 0 = sumF p x n) := Lib.hid (by
        rw [doL_at p _ x (by rw [HN.out]; omega), doF, HN.out, sumF]
        exact red_S fun t ht => by rw [Nat.mul_zero, Int.pow_zero, Int.mul_one])
      have HDT : Hid (sumF p (doL p (turnS p n inv) x) n = mulS p n (x.getD 0 0)) := Lib.hid (by
        have e3 : N2 = n := by omega
        subst e3
        have h1 := hT2
        rw [← HN.out] at h1
        have h2 := h1.total
        rw [HN.out] at h2
        rw [← h2, sumF]
        exact red_S fun t ht => by rw [doL_at p _ x (by rw [HN.out]; exact ht)])
      rw [HDD.out, show ((doL p (turnS p n inv) x, (0 : Int)).1.length) = n from HDL.out]
      rintro e wA ⟨Y, cy, rfl, hoA, hbA⟩
      have HBA : Hid (Below w.heap.size w wA) := Lib.hid (blC HB5.out hbA)
      have HRA : Hid (Row wA A (nums .u64 x)) := Lib.hid ((HR5.out).below hbA)
      have HRY : Hid (Row wA Y (nums .u64 (doL p (turnS p n inv) x))) := Lib.hid hoA.row
      have HDU := Lib.hid (doL_u64 p (turnS p n inv) x)
      obtain ⟨xa, rfl⟩ := HRA.out.some_of (by intro h0; have h1 := nums_length .u64 x; rw [h0, HN.out] at h1; simp at h1; omega)
      obtain ⟨ya, rfl⟩ := HRY.out.some_of (by intro h0; have h1 := nums_length .u64 (doL p (turnS p n inv) x); rw [h0, HDL.out] at h1; simp at h1; omega)
      have hx0 : wA.cell? xa = some (.int .u64 (x.getD 0 0)) := by
        rw [getD_of (by have := HN.out; omega)]
        exact HRA.out.cell (i := 0) (nums_get .u64 x 0 (by have := HN.out; omega))
      have hy0 : wA.cell? ya = some (.int .u64 (sumF p x n)) := by
        rw [← HD0.out, getD_of (by have := HDL.out; omega)]
        exact HRY.out.cell (i := 0) (nums_get .u64 _ 0 (by have := HDL.out; omega))
      have HX0 := Lib.hid hx0
      have HY0 := Lib.hid hy0
      have HXU : Hid (U64 (x.getD 0 0)) := Lib.hid (by rw [getD_of (by have := HN.out; omega)]; exact HW.out _ (List.getElem_mem _))
      have HNU : Hid (U64 (n : Int)) := Lib.hid ⟨by omega, by omega⟩
      clear hoA hbA hd ho2 hin2 e2 hN2 hT2 hx0 hy0 HD0 HDD
      generalize hdd : doL p (turnS p n inv) x = dd at *
      generalize hG : sumF p x n = G at *
      generalize hF : sumF p dd n = F at *
      have HGE := Lib.hid hG
      have HFE := Lib.hid hF
      clear hdd hG hF
      go_wp2
      go_loopw [16, 17, 110] (fun s t q wr => ∃ k : Nat, k ≤ n ∧ q = .int .i64 k ∧ s = .int .u64 (sumF p x k) ∧ t = .int .u64 (sumF p dd k) ∧ wr = wA) (fun _ _ q _ => n - (intOf q).toNat)
      case atStart => exact ⟨0, Nat.zero_le _, rfl, by rw [sumF_zero], by rw [sumF_zero], rfl⟩
      case round =>
        obtain ⟨k, hk, rfl, rfl, rfl, rfl⟩ := hrel
        by_cases hlt : k < n
        · have hltx : k < x.length := by have := HN.out; omega
          have hltd : k < dd.length := by have := HDL.out; omega
          have hc1 := HRA.out.num hltx
          have hc2 := HRY.out.num hltd
          have HS1 := Lib.hid (sumF_step p x k)
          have HS2 := Lib.hid (sumF_step p dd k)
          rw [getD_of hltx] at HS1
          rw [getD_of hltd] at HS2
          have HU1 : Hid (U64 x[k]) := Lib.hid (HW.out _ (List.getElem_mem hltx))
          have HU2 : Hid (U64 dd[k]) := Lib.hid (HDU.out _ (List.getElem_mem hltd))
          have HV1 := Lib.hid (u64_sumF p x k)
          have HV2 := Lib.hid (u64_sumF p dd k)
          generalize x[k] = u at *
          generalize dd[k] = v at *
          generalize sumF p x k = s at *
          generalize sumF p dd k = t at *
          go_wp2_with fail
          refine (add_calls p s u _ HP.out HV1.out HU1.out).mono ?_
          rintro e wB ⟨rfl, rfl⟩
          go_wp2_with fail
          refine (add_calls p t v _ HP.out HV2.out HU2.out).mono ?_
          rintro e wB ⟨rfl, rfl⟩
          go_wp2
          go_roundw
          case rel => exact ⟨k + 1, by omega, by go_num, by rw [← HS1.out], by rw [← HS2.out], by trivial⟩
          case measure => simp [intOf]; omega
        · have hke : k = n := by omega
          subst hke
          rw [HGE.out, HFE.out, HDT.out]
          have hx0 := HX0.out
          have hy0 := HY0.out
          go_wp2_with (go_at_call 44; refine (mul_calls _ _ _ _ HP.out HNU.out HXU.out).mono ?_; rintro e wB ⟨rfl, ⟨q, rfl⟩⟩)
          go_ret
          exact ⟨by first | rfl | (simp; done), by first | exact HBA.out | exact below_drewN HBA.out _⟩
end Go.Proofs.Ytkofhmiakfmcaaa.P
