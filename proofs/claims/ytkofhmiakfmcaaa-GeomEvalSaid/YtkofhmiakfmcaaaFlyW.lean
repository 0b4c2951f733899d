/- The contract of package fly's Weigh, and the example of chapter 15. Conditions: words of their kinds; the slices read as lists. -/
import Derived.Test.YtkofhmiakfmcaaaFlyDo
import Derived.Test.YtkofhmiakfmcaaaSameU
namespace Go.Proofs.Ytkofhmiakfmcaaa.P
open Go.RowKit
set_option linter.unusedVariables false
set_option linter.unusedSimpArgs false
def weighS (p : Int) (inv : Bool) (x v : List Int) : Int × Int :=
  if (doS p inv x).2 = 0 then (if v.length = x.length then (if inS p v = true then (weighF p (turnS p x.length inv) x v, 0) else (0, 7)) else (0, 6)) else (0, (doS p inv x).2)
/-- Weighed so far. -/
def dotF (p : Int) (x v : List Int) (k : Nat) : Int := redS p (S k (fun u => x.getD u 0 * v.getD u 0))
theorem dotF_zero (p : Int) (x v : List Int) : dotF p x v 0 = 0 := redS_zero p
theorem dotF_step (p : Int) (x v : List Int) (k : Nat) : addS p (dotF p x v k) (mulS p (x.getD k 0) (v.getD k 0)) = dotF p x v (k + 1) := by
  unfold dotF addS mulS
  rw [redS_add_left, redS_add_right]; rfl
theorem u64_dotF (p : Int) (x v : List Int) (k : Nat) : U64 (dotF p x v k) := u64_redS _ _
theorem dotF_weigh (p a : Int) (x v : List Int) : dotF p (doL p a x) v x.length = weighF p a x v := by
  unfold dotF weighF
  congr 1
  exact S_congr fun u hu => by rw [doL_at p a x hu]
theorem doL_u64 (p a : Int) (x : List Int) : ∀ d ∈ doL p a x, U64 d := by
  intro d hd
  simp only [doL, List.mem_map] at hd
  obtain ⟨u, _, rfl⟩ := hd
  exact u64_redS _ _
theorem doL_in {p : Int} (hk : knownS p = true) (a : Int) (x : List Int) : inS p (doL p a x) = true := by
  rw [inS_all, hk]
  intro j hj
  have h1 := List.getElem_mem hj
  simp only [doL, List.mem_map] at h1
  obtain ⟨u, _, h2⟩ := h1
  rw [show (doL p a x)[j] = doF p a x u from h2.symm]
  exact redS_hi _ hk
theorem live15_calls (w : World) : Calls Try.prog 83 #[] w fun e w' => e = .returned (.bool true) ∧ Below w.heap.size w w' := by
  have ho : (ptsS 998244353 2 false).2 = 0 := by
    have hr : (rootS 998244353 2).2 = 0 := by simp [rootS, readyS, knownS]
    unfold ptsS
    rw [if_pos (by decide), if_pos (by decide), if_pos hr]
  obtain ⟨N, hN, _, _, hT, hU, hpts⟩ := ptsS_ok ho
  obtain rfl : N = 2 := by omega
  have HF : Hid (doS 998244353 false [3, 5] = ([8, 998244351], 0)) := Lib.hid (by
    have e : doS 998244353 false [3, 5] = (doL 998244353 (turnS 998244353 2 false) [3, 5], 0) := by
      unfold doS
      rw [show ((([3, 5] : List Int).length : Nat) : Int) = 2 from rfl, if_pos ho, if_pos (by decide)]
    rw [e, ← two_is hT]
    decide)
  clear ho hN hT hU hpts
  go_enter Try.func83, Try.ntmps83
  go_wp2_with fail
  have hb0 : Below w.heap.size w (w.alloc (.cells #[.int .u64 3, .int .u64 5] 37)) := blA (Below.refl _ _) _
  have hr0 : Row (w.alloc (.cells #[.int .u64 3, .int .u64 5] 37)) (some ⟨w.heap.size, 0, none⟩) (nums .u64 [3, 5]) := row_new2 w 3 5 _
  generalize (w.alloc (.cells #[.int .u64 3, .int .u64 5] 37)) = W at *
  refine (do_calls 998244353 false _ _ [3, 5] _ (by decide) hr0 (by decide) (by decide)).mono ?_
  rw [HF.out]
  rintro e w1 ⟨B, b, rfl, ho, hb⟩
  have HB : Hid (Below w.heap.size w w1) := Lib.hid (blC hb0 hb)
  have HO := Lib.hid ho
  clear hb0 hr0 ho hb
  go_wp2_with fail
  have hb1 : Below w1.heap.size w1 (w1.alloc (.cells #[.int .u64 8, .int .u64 998244351] 37)) := blA (Below.refl _ _) _
  have hr1 : Row (w1.alloc (.cells #[.int .u64 8, .int .u64 998244351] 37)) (some ⟨w1.heap.size, 0, none⟩) (nums .u64 [8, 998244351]) := row_new2 w1 8 998244351 _
  generalize (w1.alloc (.cells #[.int .u64 8, .int .u64 998244351] 37)) = W1 at *
  refine (sameU_calls _ _ _ _ [8, 998244351] [8, 998244351] _ ((HO.out.grown hb1).row) (by decide) hr1).mono ?_
  rintro e w2 ⟨rfl, ⟨q, rfl⟩⟩
  have HB2 : Hid (Below w.heap.size w W1) := Lib.hid (blC HB.out hb1)
  clear hb1 hr1
  go_wp2
  go_ret
  exact ⟨by first | rfl | (simp; done), below_drewN HB2.out _⟩
set_option maxRecDepth 100000 in
theorem weigh_calls (p : Int) (inv : Bool) (A B : Option Addr) (ca cb : Nat) (x v : List Int) (w : World) (hp : U64 p) (hr : Row w A (nums .u64 x)) (hl : x.length ≤ 9223372036854775807) (hw : ∀ d ∈ x, U64 d) (hrv : Row w B (nums .u64 v)) (hlv : v.length ≤ 9223372036854775807) (hwv : ∀ d ∈ v, U64 d) :
    Calls Try.prog 88 #[.int .u64 p, .bool inv, .slice A x.length ca, .slice B v.length cb] w fun e w' =>
      e = .returned (.tuple #[.int .u64 (weighS p inv x v).1, .int .i64 (weighS p inv x v).2]) ∧ Below w.heap.size w w' := by
  have HP := Lib.hid hp
  have HR := Lib.hid hr
  have HL := Lib.hid hl
  have HW := Lib.hid hw
  have HRV := Lib.hid hrv
  have HLV := Lib.hid hlv
  have HWV := Lib.hid hwv
  clear hp hr hl hw hrv hlv hwv
  by_cases hd : (doS p inv x).2 = 0
  case neg =>
    have HF : Hid (weighS p inv x v = (0, (doS p inv x).2)) := Lib.hid (by rw [weighS, if_neg hd])
    have t0 : ((doS p inv x).2 != 0) = true := by simpa using hd
    rw [HF.out]
    clear hd
    go_enter Try.func88, Try.ntmps88
    go_wp2_with fail
    refine (do_calls p inv _ _ x _ HP.out HR.out HL.out HW.out).mono ?_
    rintro e w2 ⟨Y, cy, rfl, ho2, hb2⟩
    have HB2 := Lib.hid hb2
    clear ho2 hb2
    go_wp2
    go_ret2
    exact ⟨rfl, HB2.out⟩
  obtain ⟨ho, hin, e⟩ := doS_len p inv x hd
  obtain ⟨N, hN, h2, h5, hT, hU, _⟩ := ptsS_ok ho
  have HD : Hid (doS p inv x = (doL p (turnS p x.length inv) x, 0)) := Lib.hid e
  have HDL : Hid ((doL p (turnS p x.length inv) x).length = x.length) := Lib.hid (doL_length _ _ _)
  have HDU := Lib.hid (doL_u64 p (turnS p x.length inv) x)
  have HDW := Lib.hid (dotF_weigh p (turnS p x.length inv) x v)
  by_cases hlen : v.length = x.length
  case neg =>
    have HF : Hid (weighS p inv x v = (0, 6)) := Lib.hid (by rw [weighS, if_pos hd, if_neg hlen])
    have t0 : ((v.length : Int) != (x.length : Int)) = true := by simp; omega
    rw [HF.out]
    clear hd ho hin e hN hT hU hlen
    go_enter Try.func88, Try.ntmps88
    go_wp2_with fail
    refine (do_calls p inv _ _ x _ HP.out HR.out HL.out HW.out).mono ?_
    rw [HD.out]
    rintro e w2 ⟨Y, cy, rfl, ho2, hb2⟩
    have HB2 := Lib.hid hb2
    clear ho2 hb2
    go_wp2
    go_ret2
    exact ⟨rfl, HB2.out⟩
  have t0 : ((v.length : Int) != (x.length : Int)) = false := by simp; omega
  by_cases hv : inS p v = true
  case neg =>
    have HF : Hid (weighS p inv x v = (0, 7)) := Lib.hid (by rw [weighS, if_pos hd, if_pos hlen, if_neg hv])
    have HV : Hid (inS p v = false) := Lib.hid (by simpa using hv)
    rw [HF.out]
    clear hd ho hin e hN hT hU hv
    go_enter Try.func88, Try.ntmps88
    go_wp2_with fail
    refine (do_calls p inv _ _ x _ HP.out HR.out HL.out HW.out).mono ?_
    rw [HD.out]
    rintro e w2 ⟨Y, cy, rfl, ho2, hb2⟩
    have HB2 := Lib.hid hb2
    have HRV2 := Lib.hid (HRV.out.below hb2)
    clear ho2 hb2
    go_wp2_with fail
    have hcall := in_calls p B cb v _ HRV2.out HLV.out
    rw [HV.out, hlen] at hcall
    refine hcall.mono ?_
    clear hcall
    rintro e w3 ⟨rfl, rfl⟩
    go_wp2
    go_ret2
    exact ⟨rfl, HB2.out⟩
  have HF : Hid (weighS p inv x v = (weighF p (turnS p x.length inv) x v, 0)) := Lib.hid (by rw [weighS, if_pos hd, if_pos hlen, if_pos hv])
  have HV : Hid (inS p v = true) := Lib.hid hv
  have hx0 : 0 < x.length := by omega
  have hx5 : x.length ≤ 5 := by omega
  rw [HF.out]
  clear hd ho hin e hN hT hU hv
  go_enter Try.func88, Try.ntmps88
  go_wp2_with fail
  refine (do_calls p inv _ _ x _ HP.out HR.out HL.out HW.out).mono ?_
  rw [HD.out]
  rintro e w2 ⟨Y, cy, rfl, ho2, hb2⟩
  have HB2 := Lib.hid hb2
  have HRV2 := Lib.hid (HRV.out.below hb2)
  have hRY : Row w2 Y (nums .u64 (doL p (turnS p x.length inv) x)) := ho2.row
  rw [show ((doL p (turnS p x.length inv) x, (0 : Int)).1.length) = x.length from HDL.out]
  generalize doL p (turnS p x.length inv) x = d at *
  obtain ⟨y, rfl⟩ := hRY.some_of (by intro h0; have h1 := nums_length .u64 d; rw [h0, HDL.out] at h1; simp at h1; omega)
  obtain ⟨z, rfl⟩ := HRV2.out.some_of (by intro h0; have h1 := nums_length .u64 v; rw [h0] at h1; simp at h1; omega)
  have HRY := Lib.hid hRY
  clear ho2 hb2 hRY
  go_wp2_with fail
  have hcall := in_calls p (some z) cb v _ HRV2.out HLV.out
  rw [HV.out, hlen] at hcall
  refine hcall.mono ?_
  clear hcall
  rintro e w3 ⟨rfl, rfl⟩
  go_wp2
  go_loopw [12, 39] (fun s i wr => ∃ k : Nat, k ≤ x.length ∧ i = .int .i64 k ∧ s = .int .u64 (dotF p d v k) ∧ Hid (Below w3.heap.size w3 wr)) (fun _ i _ => x.length - (intOf i).toNat)
  case atStart => exact ⟨0, Nat.zero_le _, rfl, by rw [dotF_zero], Lib.hid (Below.refl _ _)⟩
  case round =>
    obtain ⟨k, hk, rfl, rfl, HB3⟩ := hrel
    by_cases hlt : k < x.length
    · have hltd : k < d.length := by have := HDL.out; omega
      have hltv : k < v.length := by omega
      have hc1 := (HRY.out.below HB3.out).num hltd
      have hc2 := (HRV2.out.below HB3.out).num hltv
      have HS := Lib.hid (dotF_step p d v k)
      rw [getD_of hltd, getD_of hltv] at HS
      have HU1 : Hid (U64 d[k]) := Lib.hid (HDU.out _ (List.getElem_mem hltd))
      have HU2 : Hid (U64 v[k]) := Lib.hid (HWV.out _ (List.getElem_mem hltv))
      have HU3 := Lib.hid (u64_dotF p d v k)
      generalize d[k] = a at *
      generalize v[k] = b at *
      generalize dotF p d v k = s at *
      go_wp2_with (first
        | (go_at_call 44; refine (mul_calls _ _ _ _ HP.out HU1.out HU2.out).mono ?_; rintro e w4 ⟨rfl, ⟨q, rfl⟩⟩)
        | (go_at_call 49; refine (add_calls _ _ _ _ HP.out HU3.out (u64_mulS _ _ _)).mono ?_; rintro e w5 ⟨rfl, rfl⟩))
      go_roundw
      case rel => exact ⟨k + 1, by omega, by go_num, by rw [← HS.out], Lib.hid (below_drewN HB3.out q)⟩
      case measure => simp [intOf]; omega
    · have hke : k = x.length := by omega
      subst hke
      go_wp2
      go_ret2
      exact ⟨by rw [HDW.out]; rfl, blC HB2.out HB3.out⟩
end Go.Proofs.Ytkofhmiakfmcaaa.P
