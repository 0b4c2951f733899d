/- The contracts of brackenref15's Do and Weigh. Conditions: words of their kinds; the slices read as lists. -/
import Derived.Test.YtkofhmiakfmcaaaFlyN
import Derived.WalkMore
namespace Go.Proofs.Ytkofhmiakfmcaaa.P
open Go.RowKit
set_option linter.unusedVariables false
set_option linter.unusedSimpArgs false
theorem fiveF_zero (p a : Int) (x : List Int) (u : Nat) : fiveF p a x u 0 = 0 := redS_zero p
theorem doP_succ (p a : Int) (x : List Int) (u : Nat) : (List.range (u + 1)).map (doF p a x) = (List.range u).map (doF p a x) ++ [doF p a x u] := by
  rw [List.range_succ, List.map_append, List.map_singleton]
theorem u64_fiveF (p a : Int) (x : List Int) (u t : Nat) : U64 (fiveF p a x u t) := u64_redS _ _
set_option maxRecDepth 100000 in
set_option maxHeartbeats 2000000 in
theorem r15_do (p : Int) (inv : Bool) (A : Option Addr) (n c : Nat) (x : List Int) (w : World) (hn : x.length = n) (hp : U64 p) (hr : Row w A (nums .u64 x)) (hl : n ≤ 9223372036854775807) (hw : ∀ d ∈ x, U64 d) :
    Calls Try.prog 87 #[.int .u64 p, .bool inv, .slice A n c] w fun e w' => ∃ B b,
      e = .returned (.tuple #[.slice B (doS p inv x).1.length b, .int .i64 (doS p inv x).2]) ∧ Own w' w.heap.size 37 1 B (doS p inv x).1.length b (nums .u64 (doS p inv x).1) ∧ Below w.heap.size w w' := by
  have HP := Lib.hid hp
  have HR := Lib.hid hr
  have HW := Lib.hid hw
  have HN := Lib.hid hn
  have HL := Lib.hid hl
  have HI : Hid (i64 (n : Int)) := Lib.hid ⟨by omega, by omega⟩
  by_cases hd : (doS p inv x).2 = 0
  case neg =>
    have HE0 := Lib.hid (doS_no p inv x hd)
    rw [HE0.out]
    by_cases ho : (ptsS p n inv).2 = 0
    · have hin : inS p x = false := by
        cases hh : inS p x with
        | false => rfl
        | true => exfalso; apply hd; rw [doS, hn, if_pos ho, if_pos hh]
      have HE : Hid ((doS p inv x).2 = 7) := Lib.hid (by rw [doS, hn, if_pos ho, hin]; rfl)
      rw [HE.out]
      have HIN := Lib.hid hin
      have HPT : Hid ((ptsS p n inv).2 = 0) := Lib.hid ho
      clear hp hr hw hd ho hin hn hl
      go_enter Try.func87, Try.ntmps87
      go_wp2_with fail
      refine (r15_points p n inv _ HP.out HI.out).mono ?_
      rw [HPT.out]
      rintro e w2 ⟨Y, cy, rfl, ho2, hb2⟩
      have HR2 := Lib.hid (HR.out.below hb2)
      have HB2 := Lib.hid hb2
      clear ho2 hb2
      go_wp2_with fail
      have hcall := r01_in p A c x w2 HR2.out (by rw [HN.out]; exact HL.out)
      rw [HIN.out, HN.out] at hcall
      refine hcall.mono ?_
      clear hcall
      rintro e w3 ⟨rfl, rfl⟩
      go_wp2
      go_ret2
      exact ⟨none, 0, rfl, Own.nil _ _ _ _, HB2.out⟩
    · have HE : Hid ((doS p inv x).2 = (ptsS p n inv).2) := Lib.hid (by rw [doS, hn, if_neg ho])
      rw [HE.out]
      have t0 : ((ptsS p n inv).2 != 0) = true := by simpa using ho
      clear hp hr hw hd ho hn hl
      go_enter Try.func87, Try.ntmps87
      go_wp2_with fail
      refine (r15_points p n inv _ HP.out HI.out).mono ?_
      rintro e w2 ⟨Y, cy, rfl, ho2, hb2⟩
      have HB2 := Lib.hid hb2
      clear ho2 hb2
      go_wp2
      go_ret2
      exact ⟨none, 0, rfl, Own.nil _ _ _ _, HB2.out⟩
  obtain ⟨ho, hin, e0⟩ := doS_len p inv x hd
  rw [hn] at ho e0
  obtain ⟨N, hN, h2, h5, hT, hU, hpts⟩ := ptsS_ok ho
  obtain rfl : n = N := by omega
  have HT := Lib.hid hT
  have HIN := Lib.hid hin
  have HPT := Lib.hid hpts
  have HLL : Hid (((List.range n).map (powS p (turnS p n inv))).length = n) := Lib.hid (by simp)
  have HDL : Hid ((doL p (turnS p n inv) x).length = n) := Lib.hid (by rw [doL_length]; exact hn)
  have HDA : Hid ((List.range n).map (doF p (turnS p n inv) x) = doL p (turnS p n inv) x) := Lib.hid (by rw [doL, hn])
  rw [e0, show ((doL p (turnS p n inv) x, (0 : Int)).1) = doL p (turnS p n inv) x from rfl, HDL.out]
  obtain ⟨xa, rfl⟩ := hr.some_of (by intro h0; have h1 := nums_length .u64 x; rw [h0, hn] at h1; simp at h1; omega)
  clear hp hr hw hd ho hin e0 hN hT hU hpts hn hl
  go_enter Try.func87, Try.ntmps87
  go_wp2_with fail
  refine (r15_points p n inv _ HP.out HI.out).mono ?_
  rw [HPT.out, show (((List.range n).map (powS p (turnS p n inv)), (0 : Int)).1.length) = n from HLL.out]
  rintro e w2 ⟨Y, cy, rfl, ho2, hb2⟩
  have HR2 := Lib.hid (HR.out.below hb2)
  have HB2 := Lib.hid hb2
  have HRY : Hid (Row w2 Y (nums .u64 ((List.range n).map (powS p (turnS p n inv))))) := Lib.hid ho2.row
  obtain ⟨ya, rfl⟩ := HRY.out.some_of (by intro h0; have h1 := nums_length .u64 ((List.range n).map (powS p (turnS p n inv))); rw [h0, HLL.out] at h1; simp at h1; omega)
  clear ho2 hb2
  go_wp2_with fail
  have hcall := r01_in p (some xa) c x w2 HR2.out (by rw [HN.out]; exact HL.out)
  rw [HIN.out, HN.out] at hcall
  refine hcall.mono ?_
  clear hcall
  rintro e w3 ⟨rfl, rfl⟩
  generalize haE : turnS p n inv = a at *
  have HAE := Lib.hid haE
  clear haE
  go_wp2
  go_loopw [10, 32] (fun o q wr => ∃ (u : Nat) (Z : Option Addr) (z : Nat), u ≤ n ∧ q = .int .i64 u ∧ o = .slice Z u z ∧ Hid (Own wr w3.heap.size 37 1 Z u z (nums .u64 ((List.range u).map (doF p a x)))) ∧ Hid (Below w3.heap.size w3 wr)) (fun _ q _ => n - (intOf q).toNat)
  case atStart => exact ⟨0, none, 0, Nat.zero_le _, rfl, rfl, Lib.hid (Own.nil _ _ _ _), Lib.hid (Below.refl _ _)⟩
  case round =>
    obtain ⟨u, Z, z, hu, rfl, rfl, HO, HBW⟩ := hrel
    by_cases hlt : u < n
    · have d0 : decide (u < n) = true := by simp; omega
      have d1 : decide ((u : Int) < (n : Int)) = true := by simp; omega
      go_wp2
      go_hide hQ
      go_loopw [12, 37] (fun s q wr => ∃ t : Nat, t ≤ n ∧ q = .int .i64 t ∧ s = .int .u64 (fiveF p a x u t) ∧ Hid (Own wr w3.heap.size 37 1 Z u z (nums .u64 ((List.range u).map (doF p a x)))) ∧ Hid (Below w3.heap.size w3 wr)) (fun _ q _ => n - (intOf q).toNat)
      case atStart => exact ⟨0, Nat.zero_le _, rfl, by rw [fiveF_zero], HO, HBW⟩
      case round =>
        obtain ⟨t, ht, rfl, rfl, HO2, HBW2⟩ := hrel
        by_cases hlt2 : t < n
        · have hltx : t < x.length := by have := HN.out; omega
          have hc1 := (HR2.out.below HBW2.out).num hltx
          have hm5 : t * u % n < n := Nat.mod_lt _ (by omega)
          have hym : wr.cell? (ya.add (t * u % n)) = some (.int .u64 (powS p a (t * u % n))) := by
            have h1 := (HRY.out.below HBW2.out).cell (i := t * u % n) (u := .int .u64 (powS p a (t * u % n))) (by
              rw [nums_get .u64 _ _ (by simpa using hm5)]
              simp)
            exact h1
          have HVP := Lib.hid (u64_powS p a (t * u % n))
          have HXU : Hid (U64 x[t]) := Lib.hid (HW.out _ (List.getElem_mem hltx))
          have HST := Lib.hid (fiveF_step HT.out x u t)
          rw [getD_of hltx] at HST
          have HSU := Lib.hid (u64_fiveF p a x u t)
          have hMb : (t : Int) * (u : Int) ≤ 25 := by
            have : (t : Int) * (u : Int) ≤ 5 * 5 := Int.mul_le_mul (by omega) (by omega) (by omega) (by omega)
            omega
          have hM0 : 0 ≤ (t : Int) * (u : Int) := Int.mul_nonneg (by omega) (by omega)
          have hMm : (t : Int) * (u : Int) % (n : Int) = ((t * u % n : Nat) : Int) := by rw [Int.natCast_emod, Int.natCast_mul]
          have hMt : ((t : Int) * (u : Int)).tmod (n : Int) = ((t * u % n : Nat) : Int) := by rw [Int.tmod_eq_emod_of_nonneg hM0]; exact hMm
          have hn0 : ¬ (n : Int) = 0 := by omega
          generalize hM : (t : Int) * (u : Int) = M at *
          generalize t * u % n = m at *
          generalize x[t] = d at *
          generalize powS p a m = v at *
          generalize fiveF p a x u t = s at *
          have hwM : IntKind.i64.wrap M = M := by rw [IntKind.wrap_i64]; omega
          have hwm : IntKind.i64.wrap (m : Int) = (m : Int) := by rw [IntKind.wrap_i64]; omega
          have hmm : decide (n ≤ m) = false := by simp; omega
          go_wp2_with (first
            | (go_at_call 57; refine (r01_mul p d v _ HP.out HXU.out HVP.out).mono ?_; rintro e w5 ⟨rfl, rfl⟩)
            | (go_at_call 55; refine (r01_add p s (mulS p d v) _ HP.out HSU.out (u64_mulS _ _ _)).mono ?_; rintro e w6 ⟨rfl, ⟨q, rfl⟩⟩))
          go_roundw
          case rel => exact ⟨t + 1, by omega, by go_num, by rw [← HST.out], Lib.hid (HO2.out.drewN q), Lib.hid (below_drewN HBW2.out q)⟩
          case measure => simp [intOf]; omega
        · have hte : t = n := by omega
          subst hte
          have HFA : Hid (fiveF p a x u t = doF p a x u) := Lib.hid (by rw [← HN.out]; exact fiveF_all p a x u)
          have HDS := Lib.hid (doP_succ p a x u)
          rw [HFA.out]
          have HSZ := Lib.hid HBW2.out.size
          generalize doF p a x u = s at *
          go_wp2
          subst hQ
          go_wp2_with (at_builtin; refine append_row _ Try.underlying47 info_u64 rfl _ _ rfl w3.heap.size u z 1 1 Z ⟨wr.heap.size, 0, none⟩ ((List.range u).map (doF p a x)) [s] rfl rfl (HO2.out.grown ((Below.refl _ _).alloc (Nat.le_refl _) _)) (row_new wr [.int .u64 s] 37) rfl (by decide) (Nat.le_trans HSZ.out (by simp)) (by omega) (by omega) ?_; intro g cap2 w6 hown hbel hgrow hlt5)
          have HO6 : Hid (Own w6 w3.heap.size 37 1 (some ⟨g, 0, none⟩) (u + 1) cap2 (nums .u64 ((List.range (u + 1)).map (doF p a x)))) := Lib.hid (by rw [HDS.out]; exact hown)
          have HB6 : Hid (Below w3.heap.size w3 w6) := Lib.hid ((HBW2.out.alloc HSZ.out _).trans (hbel.mono (Nat.le_refl _)))
          clear hown hbel hgrow hlt5
          go_roundw
          case rel => exact ⟨u + 1, some ⟨g, 0, none⟩, cap2, by omega, by go_num, rfl, HO6, HB6⟩
          case measure => simp [intOf]; omega
    · have hue : u = n := by omega
      subst hue
      have HOE : Hid (Own wr w.heap.size 37 1 Z u z (nums .u64 (doL p a x))) := Lib.hid (by rw [← HDA.out]; exact HO.out.mono HB2.out.size)
      have HBE : Hid (Below w.heap.size w wr) := Lib.hid (blC HB2.out HBW.out)
      go_wp2
      go_ret2
      exact ⟨Z, z, rfl, by rw [HAE.out]; exact HOE.out, HBE.out⟩
set_option maxRecDepth 100000 in
theorem r15_weigh (p : Int) (inv : Bool) (A B : Option Addr) (ca cb : Nat) (x v : List Int) (w : World) (hp : U64 p) (hr : Row w A (nums .u64 x)) (hl : x.length ≤ 9223372036854775807) (hw : ∀ d ∈ x, U64 d) (hrv : Row w B (nums .u64 v)) (hlv : v.length ≤ 9223372036854775807) (hwv : ∀ d ∈ v, U64 d) :
    Calls Try.prog 89 #[.int .u64 p, .bool inv, .slice A x.length ca, .slice B v.length cb] w fun e w' =>
      e = .returned (.tuple #[.int .u64 (weighS p inv x v).1, .int .i64 (weighS p inv x v).2]) ∧ Below w.heap.size w w' := by
  have HP := Lib.hid hp
  have HR := Lib.hid hr
  have HL := Lib.hid hl
  have HW := Lib.hid hw
  have HRV := Lib.hid hrv
  have HLV := Lib.hid hlv
  have HWV := Lib.hid hwv
  clear hp hr hl hw hrv hlv hwv
  by_cases hd : (doS p inv x).2 = 0
  case neg =>
    have HF : Hid (weighS p inv x v = (0, (doS p inv x).2)) := Lib.hid (by rw [weighS, if_neg hd])
    have t0 : ((doS p inv x).2 != 0) = true := by simpa using hd
    rw [HF.out]
    clear hd
    go_enter Try.func89, Try.ntmps89
    go_wp2_with fail
    refine (r15_do p inv _ _ _ x _ rfl HP.out HR.out HL.out HW.out).mono ?_
    rintro e w2 ⟨Y, cy, rfl, ho2, hb2⟩
    have HB2 := Lib.hid hb2
    clear ho2 hb2
    go_wp2
    go_ret2
    exact ⟨rfl, HB2.out⟩
  obtain ⟨ho, hin, e⟩ := doS_len p inv x hd
  obtain ⟨N, hN, h2, h5, hT, hU, _⟩ := ptsS_ok ho
  have HD : Hid (doS p inv x = (doL p (turnS p x.length inv) x, 0)) := Lib.hid e
  have HDL : Hid ((doL p (turnS p x.length inv) x).length = x.length) := Lib.hid (doL_length _ _ _)
  have HDU := Lib.hid (doL_u64 p (turnS p x.length inv) x)
  have HDW := Lib.hid (dotF_weigh p (turnS p x.length inv) x v)
  by_cases hlen : v.length = x.length
  case neg =>
    have HF : Hid (weighS p inv x v = (0, 6)) := Lib.hid (by rw [weighS, if_pos hd, if_neg hlen])
    have t0 : ((v.length : Int) != (x.length : Int)) = true := by simp; omega
    rw [HF.out]
    clear hd ho hin e hN hT hU hlen
    go_enter Try.func89, Try.ntmps89
    go_wp2_with fail
    refine (r15_do p inv _ _ _ x _ rfl HP.out HR.out HL.out HW.out).mono ?_
    rw [HD.out]
    rintro e w2 ⟨Y, cy, rfl, ho2, hb2⟩
    have HB2 := Lib.hid hb2
    clear ho2 hb2
    go_wp2
    go_ret2
    exact ⟨rfl, HB2.out⟩
  have t0 : ((v.length : Int) != (x.length : Int)) = false := by simp; omega
  by_cases hv : inS p v = true
  case neg =>
    have HF : Hid (weighS p inv x v = (0, 7)) := Lib.hid (by rw [weighS, if_pos hd, if_pos hlen, if_neg hv])
    have HV : Hid (inS p v = false) := Lib.hid (by simpa using hv)
    rw [HF.out]
    clear hd ho hin e hN hT hU hv
    go_enter Try.func89, Try.ntmps89
    go_wp2_with fail
    refine (r15_do p inv _ _ _ x _ rfl HP.out HR.out HL.out HW.out).mono ?_
    rw [HD.out]
    rintro e w2 ⟨Y, cy, rfl, ho2, hb2⟩
    have HB2 := Lib.hid hb2
    have HRV2 := Lib.hid (HRV.out.below hb2)
    clear ho2 hb2
    go_wp2_with fail
    have hcall := r01_in p B cb v _ HRV2.out HLV.out
    rw [HV.out, hlen] at hcall
    refine hcall.mono ?_
    clear hcall
    rintro e w3 ⟨rfl, rfl⟩
    go_wp2
    go_ret2
    exact ⟨rfl, HB2.out⟩
  have HF : Hid (weighS p inv x v = (weighF p (turnS p x.length inv) x v, 0)) := Lib.hid (by rw [weighS, if_pos hd, if_pos hlen, if_pos hv])
  have HV : Hid (inS p v = true) := Lib.hid hv
  have hx0 : 0 < x.length := by omega
  have hx5 : x.length ≤ 5 := by omega
  rw [HF.out]
  clear hd ho hin e hN hT hU hv
  go_enter Try.func89, Try.ntmps89
  go_wp2_with fail
  refine (r15_do p inv _ _ _ x _ rfl HP.out HR.out HL.out HW.out).mono ?_
  rw [HD.out]
  rintro e w2 ⟨Y, cy, rfl, ho2, hb2⟩
  have HB2 := Lib.hid hb2
  have HRV2 := Lib.hid (HRV.out.below hb2)
  have hRY : Row w2 Y (nums .u64 (doL p (turnS p x.length inv) x)) := ho2.row
  rw [show ((doL p (turnS p x.length inv) x, (0 : Int)).1.length) = x.length from HDL.out]
  generalize doL p (turnS p x.length inv) x = d at *
  obtain ⟨y, rfl⟩ := hRY.some_of (by intro h0; have h1 := nums_length .u64 d; rw [h0, HDL.out] at h1; simp at h1; omega)
  obtain ⟨z, rfl⟩ := HRV2.out.some_of (by intro h0; have h1 := nums_length .u64 v; rw [h0] at h1; simp at h1; omega)
  have HRY := Lib.hid hRY
  clear ho2 hb2 hRY
  go_wp2_with fail
  have hcall := r01_in p (some z) cb v _ HRV2.out HLV.out
  rw [HV.out, hlen] at hcall
  refine hcall.mono ?_
  clear hcall
  rintro e w3 ⟨rfl, rfl⟩
  go_wp2
  go_loopw [12, 36] (fun s i wr => ∃ k : Nat, k ≤ x.length ∧ i = .int .i64 k ∧ s = .int .u64 (dotF p d v k) ∧ Hid (Below w3.heap.size w3 wr)) (fun _ i _ => x.length - (intOf i).toNat)
  case atStart => exact ⟨0, Nat.zero_le _, rfl, by rw [dotF_zero], Lib.hid (Below.refl _ _)⟩
  case round =>
    obtain ⟨k, hk, rfl, rfl, HB3⟩ := hrel
    by_cases hlt : k < x.length
    · have hltd : k < d.length := by have := HDL.out; omega
      have hltv : k < v.length := by omega
      have hc1 := (HRY.out.below HB3.out).num hltd
      have hc2 := (HRV2.out.below HB3.out).num hltv
      have HS := Lib.hid (dotF_step p d v k)
      rw [getD_of hltd, getD_of hltv] at HS
      have HU1 : Hid (U64 d[k]) := Lib.hid (HDU.out _ (List.getElem_mem hltd))
      have HU2 : Hid (U64 v[k]) := Lib.hid (HWV.out _ (List.getElem_mem hltv))
      have HU3 := Lib.hid (u64_dotF p d v k)
      generalize d[k] = a at *
      generalize v[k] = b at *
      generalize dotF p d v k = s at *
      go_wp2_with (first
        | (go_at_call 57; refine (r01_mul _ _ _ _ HP.out HU1.out HU2.out).mono ?_; rintro e w4 ⟨rfl, rfl⟩)
        | (go_at_call 55; refine (r01_add _ _ _ _ HP.out HU3.out (u64_mulS _ _ _)).mono ?_; rintro e w5 ⟨rfl, ⟨q, rfl⟩⟩))
      go_roundw
      case rel => exact ⟨k + 1, by omega, by go_num, by rw [← HS.out], Lib.hid (below_drewN HB3.out q)⟩
      case measure => simp [intOf]; omega
    · have hke : k = x.length := by omega
      subst hke
      go_wp2
      go_ret2
      exact ⟨by rw [HDW.out]; rfl, blC HB2.out HB3.out⟩
end Go.Proofs.Ytkofhmiakfmcaaa.P
