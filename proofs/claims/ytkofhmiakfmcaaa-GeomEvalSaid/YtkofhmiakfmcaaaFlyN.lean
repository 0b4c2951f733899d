/- The contracts of package fly once more, the lengths as numbers; sums, as rows. Conditions: words of their kinds; the slices read as lists. -/
import Derived.Test.YtkofhmiakfmcaaaFbW
import Derived.Test.YtkofhmiakfmcaaaApp2
namespace Go.Proofs.Ytkofhmiakfmcaaa.P
open Go.RowKit
set_option linter.unusedVariables false
set_option linter.unusedSimpArgs false
theorem do_n (p : Int) (inv : Bool) (A : Option Addr) (n c : Nat) (l : List Int) (w : World) (hn : l.length = n) (hp : U64 p) (hr : Row w A (nums .u64 l)) (hl : n ≤ 9223372036854775807) (hw : ∀ d ∈ l, U64 d) :
    Calls Try.prog 84 #[.int .u64 p, .bool inv, .slice A n c] w fun e w' => ∃ B b,
      e = .returned (.tuple #[.slice B (doS p inv l).1.length b, .int .i64 (doS p inv l).2]) ∧ Own w' w.heap.size 37 1 B (doS p inv l).1.length b (nums .u64 (doS p inv l).1) ∧ Below w.heap.size w w' := by
  subst hn; exact do_calls p inv A c l w hp hr hl hw
theorem weigh_n (p : Int) (inv : Bool) (A B : Option Addr) (n ca m cb : Nat) (x v : List Int) (w : World) (hn : x.length = n) (hm : v.length = m) (hp : U64 p) (hr : Row w A (nums .u64 x)) (hl : n ≤ 9223372036854775807) (hw : ∀ d ∈ x, U64 d) (hrv : Row w B (nums .u64 v)) (hlv : m ≤ 9223372036854775807) (hwv : ∀ d ∈ v, U64 d) :
    Calls Try.prog 88 #[.int .u64 p, .bool inv, .slice A n ca, .slice B m cb] w fun e w' =>
      e = .returned (.tuple #[.int .u64 (weighS p inv x v).1, .int .i64 (weighS p inv x v).2]) ∧ Below w.heap.size w w' := by
  subst hn; subst hm; exact weigh_calls p inv A B ca cb x v w hp hr hl hw hrv hlv hwv
/-- What weighing comes to, either way around. -/
theorem weigh_both {p : Int} {inv : Bool} {x v : List Int} (h : v.length = x.length) :
    (∃ e, e ≠ 0 ∧ weighS p inv x v = (0, e) ∧ weighS p inv v x = (0, e)) ∨
    (∃ d, (2 ≤ x.length ∧ x.length ≤ 5) ∧ doS p inv v = (d, 0) ∧ d.length = x.length ∧ (∀ a ∈ d, U64 a) ∧ weighS p inv x v = (dotF p d x x.length, 0) ∧ weighS p inv v x = (dotF p d x x.length, 0)) := by
  have sev : ∀ {x v : List Int}, (doS p inv x).2 ≠ 0 → weighS p inv x v = (0, (doS p inv x).2) := fun h => by rw [weighS, if_neg h]
  by_cases ho : (ptsS p x.length inv).2 = 0
  · have ho2 : (ptsS p v.length inv).2 = 0 := by rw [h]; exact ho
    have word : ∀ {x : List Int}, (ptsS p x.length inv).2 = 0 → ¬ inS p x = true → doS p inv x = ([], 7) := fun h1 h2 => by rw [doS, if_pos h1, if_neg h2]
    by_cases hx : inS p x = true
    · have e1 := doS_is ho hx
      by_cases hv : inS p v = true
      · right
        have e2 := doS_is ho2 hv
        obtain ⟨N, hN, h2, h5, hT, _, _⟩ := ptsS_ok ho
        have hsym := weigh_symm p (turnS p x.length inv) x v h
        have hd := dotF_weigh p (turnS p x.length inv) v x
        refine ⟨doL p (turnS p x.length inv) v, ⟨by omega, by omega⟩, by rw [e2, h], by rw [doL_length, h], doL_u64 _ _ _, ?_, ?_⟩
        · rw [weighS, e1, if_pos rfl, if_pos h, if_pos hv, hsym, ← hd, h]
        · rw [weighS, e2, if_pos rfl, if_pos h.symm, if_pos hx, h, ← hd, h]
      · left
        have e2 := word ho2 hv
        refine ⟨7, by decide, ?_, ?_⟩
        · rw [weighS, e1, if_pos rfl, if_pos h, if_neg hv]
        · rw [sev (by rw [e2]; decide), e2]
    · left
      have e1 := word ho hx
      refine ⟨7, by decide, by rw [sev (by rw [e1]; decide), e1], ?_⟩
      by_cases hv : inS p v = true
      · rw [weighS, doS_is ho2 hv, if_pos rfl, if_pos h.symm, if_neg hx]
      · have e2 := word ho2 hv
        rw [sev (by rw [e2]; decide), e2]
  · left
    have err : ∀ {x : List Int}, ¬ (ptsS p x.length inv).2 = 0 → doS p inv x = ([], (ptsS p x.length inv).2) := fun h1 => by rw [doS, if_neg h1]
    have e1 := err ho
    have e2 := err (x := v) (by rw [h]; exact ho)
    refine ⟨(ptsS p x.length inv).2, ho, by rw [sev (by rw [e1]; exact ho), e1], by rw [sev (by rw [e2, h]; exact ho), e2, h]⟩
/-- A sum of words, and words times a number. -/
def zF (p c : Int) (x y : List Int) (t : Nat) : Int := addS p (mulS p c (x.getD t 0)) (y.getD t 0)
def zL (p c : Int) (x y : List Int) (n : Nat) : List Int := (List.range n).map (zF p c x y)
theorem zL_length (p c : Int) (x y : List Int) (n : Nat) : (zL p c x y n).length = n := by simp [zL]
theorem zL_at (p c : Int) (x y : List Int) {n t : Nat} (h : t < n) : (zL p c x y n).getD t 0 = zF p c x y t := by
  rw [List.getD_eq_getElem?_getD]; simp [zL, h]
theorem zL_succ (p c : Int) (x y : List Int) (n : Nat) : zL p c x y (n + 1) = zL p c x y n ++ [zF p c x y n] := by
  unfold zL; rw [List.range_succ, List.map_append, List.map_singleton]
theorem zL_u64 (p c : Int) (x y : List Int) (n : Nat) : ∀ d ∈ zL p c x y n, U64 d := by
  intro d hd
  simp only [zL, List.mem_map] at hd
  obtain ⟨u, _, rfl⟩ := hd
  exact u64_addS _ _ _
theorem zL_in {p : Int} (hk : knownS p = true) (c : Int) (x y : List Int) (n : Nat) : inS p (zL p c x y n) = true := by
  rw [inS_all, hk]
  intro j hj
  have h1 := List.getElem_mem hj
  simp only [zL, List.mem_map] at h1
  obtain ⟨u, _, h2⟩ := h1
  rw [show (zL p c x y n)[j] = zF p c x y u from h2.symm]
  exact redS_hi _ hk
set_option maxRecDepth 100000 in
theorem flyWeighs_walk (p : Int) (inv : Bool) (A : Option Addr) (ca : Nat) (x : List Int) (B : Option Addr) (cb : Nat) (v : List Int) (w : World) (hp : U64 p)
    (hr : Row w A (nums .u64 x)) (hy : x.length * 8 ≤ 140737488351232) (hw : ∀ d ∈ x, (Lit.int .u64 d).wf = true) (hrv : Row w B (nums .u64 v)) (hyv : v.length * 8 ≤ 140737488351232) (hwv : ∀ d ∈ v, (Lit.int .u64 d).wf = true) :
    Calls Try.prog 29 #[.int .u64 p, .bool inv, .slice A x.length ca, .slice B v.length cb] w fun e w' => e = .returned (.bool true) ∧ Below w.heap.size w w' := by
  have HP := Lib.hid hp
  have HR := Lib.hid hr
  have HW : Hid (∀ d ∈ x, U64 d) := Lib.hid fun d hd => u64_wf (hw d hd)
  have HRV := Lib.hid hrv
  have HWV : Hid (∀ d ∈ v, U64 d) := Lib.hid fun d hd => u64_wf (hwv d hd)
  clear hp hr hw hrv hwv
  generalize hn : x.length = n at *
  generalize hm : v.length = m at *
  have HN := Lib.hid hn
  have HM := Lib.hid hm
  have HL : Hid (n ≤ 9223372036854775807) := Lib.hid (by omega)
  have HLM : Hid (m ≤ 9223372036854775807) := Lib.hid (by omega)
  clear hn hm
  go_enter Try.func29, Try.ntmps29
  go_wp2_with fail
  refine (live15_calls _).mono ?_
  rintro e w1 ⟨rfl, hb1⟩
  have HB1 := Lib.hid hb1
  have HR1 := Lib.hid (HR.out.below hb1)
  have HRV1 := Lib.hid (HRV.out.below hb1)
  clear hb1
  by_cases g0 : 12 < n
  · have f0 : decide (12 < (n : Int)) = true := by simp; omega
    clear g0
    go_wp2
    go_ret
    exact ⟨rfl, HB1.out⟩
  have f0 : decide (12 < (n : Int)) = false := by simp; omega
  by_cases g1 : n = m
  case neg =>
    have f1 : ((n : Int) != (m : Int)) = true := by simp; omega
    go_wp2
    go_ret
    exact ⟨rfl, HB1.out⟩
  subst g1
  have f1 : ((n : Int) != (n : Int)) = false := by simp
  have hvx : v.length = x.length := by rw [HN.out, HM.out]
  go_wp2_with fail
  refine (weigh_n p inv A B n ca n cb x v _ HN.out HM.out HP.out HR1.out HL.out HW.out HRV1.out HL.out HWV.out).mono ?_
  rcases weigh_both (p := p) (inv := inv) hvx with ⟨e0, he0, hE1, hE2⟩ | ⟨d, hx25, hd, hdl, hdu, hE1, hE2⟩
  · rw [hE1]
    have t0 : (e0 != 0) = true := by simpa using he0
    rintro e w2 ⟨rfl, hb2⟩
    have HB2 : Hid (Below w.heap.size w w2) := Lib.hid (blC HB1.out hb2)
    have HR2 := Lib.hid (HR1.out.below hb2)
    have HRV2 := Lib.hid (HRV1.out.below hb2)
    have HE2 := Lib.hid hE2
    clear hb2 hE1 hE2 he0 hvx
    go_wp2_with fail
    refine (weigh_n p inv B A n cb n ca v x _ HM.out HN.out HP.out HRV2.out HL.out HWV.out HR2.out HL.out HW.out).mono ?_
    rw [HE2.out]
    rintro e w3 ⟨rfl, hb3⟩
    have HB3 : Hid (Below w.heap.size w w3) := Lib.hid (blC HB2.out hb3)
    have HRV3 := Lib.hid (HRV2.out.below hb3)
    clear hb3
    go_wp2_with fail
    refine (do_n p inv B n cb v _ HM.out HP.out HRV3.out HL.out HWV.out).mono ?_
    rintro e w4 ⟨Y, cy, rfl, ho4, hb4⟩
    have HB4 : Hid (Below w.heap.size w w4) := Lib.hid (blC HB3.out hb4)
    clear ho4 hb4
    go_wp2
    go_ret
    exact ⟨by first | rfl | (simp; done), HB4.out⟩
  · rw [hE1]
    rw [HN.out] at hE2 hdl hx25 ⊢
    have HDL := Lib.hid hdl
    have HDU := Lib.hid hdu
    have HE2 := Lib.hid hE2
    have HD := Lib.hid hd
    obtain ⟨hn2, hn5⟩ := hx25
    generalize hG : dotF p d x n = G at *
    have HG := Lib.hid hG
    rintro e w2 ⟨rfl, hb2⟩
    have HB2 : Hid (Below w.heap.size w w2) := Lib.hid (blC HB1.out hb2)
    have HR2 := Lib.hid (HR1.out.below hb2)
    have HRV2 := Lib.hid (HRV1.out.below hb2)
    clear hb2 hE1 hE2 hdl hdu hd hG hvx
    go_wp2_with fail
    refine (weigh_n p inv B A n cb n ca v x _ HM.out HN.out HP.out HRV2.out HL.out HWV.out HR2.out HL.out HW.out).mono ?_
    rw [HE2.out]
    rintro e w3 ⟨rfl, hb3⟩
    have HB3 : Hid (Below w.heap.size w w3) := Lib.hid (blC HB2.out hb3)
    have HRV3 := Lib.hid (HRV2.out.below hb3)
    have HR3 := Lib.hid (HR2.out.below hb3)
    clear hb3
    go_wp2_with fail
    refine (do_n p inv B n cb v _ HM.out HP.out HRV3.out HL.out HWV.out).mono ?_
    rw [HD.out, show ((d, (0 : Int)).1.length) = n from HDL.out]
    rintro e w4 ⟨Y, cy, rfl, ho4, hb4⟩
    have HB4 : Hid (Below w.heap.size w w4) := Lib.hid (blC HB3.out hb4)
    have HR4 := Lib.hid (HR3.out.below hb4)
    have HRY : Hid (Row w4 Y (nums .u64 d)) := Lib.hid ho4.row
    clear ho4 hb4
    obtain ⟨y, rfl⟩ := HRY.out.some_of (by intro h0; have h1 := nums_length .u64 d; rw [h0, HDL.out] at h1; simp at h1; omega)
    obtain ⟨z, rfl⟩ := HR4.out.some_of (by intro h0; have h1 := nums_length .u64 x; rw [h0, HN.out] at h1; simp at h1; omega)
    go_wp2
    go_loopw [15, 81] (fun s i wr => ∃ k : Nat, k ≤ n ∧ i = .int .i64 k ∧ s = .int .u64 (dotF p d x k) ∧ Hid (Below w4.heap.size w4 wr)) (fun _ i _ => n - (intOf i).toNat)
    case atStart => exact ⟨0, Nat.zero_le _, rfl, by rw [dotF_zero], Lib.hid (Below.refl _ _)⟩
    case round =>
      obtain ⟨k, hk, rfl, rfl, HB5⟩ := hrel
      by_cases hlt : k < n
      · have hltd : k < d.length := by have := HDL.out; omega
        have hltx : k < x.length := by have := HN.out; omega
        have hc1 := (HRY.out.below HB5.out).num hltd
        have hc2 := (HR4.out.below HB5.out).num hltx
        have HS := Lib.hid (dotF_step p d x k)
        rw [getD_of hltd, getD_of hltx] at HS
        have HU1 : Hid (U64 d[k]) := Lib.hid (HDU.out _ (List.getElem_mem hltd))
        have HU2 : Hid (U64 x[k]) := Lib.hid (HW.out _ (List.getElem_mem hltx))
        have HU3 := Lib.hid (u64_dotF p d x k)
        generalize d[k] = a at *
        generalize x[k] = b at *
        generalize dotF p d x k = s at *
        go_wp2_with (first
          | (go_at_call 44; refine (mul_calls _ _ _ _ HP.out HU1.out HU2.out).mono ?_; rintro e w5 ⟨rfl, ⟨q, rfl⟩⟩)
          | (go_at_call 49; refine (add_calls _ _ _ _ HP.out HU3.out (u64_mulS _ _ _)).mono ?_; rintro e w6 ⟨rfl, rfl⟩))
        go_roundw
        case rel => exact ⟨k + 1, by omega, by go_num, by rw [← HS.out], Lib.hid (below_drewN HB5.out q)⟩
        case measure => simp [intOf]; omega
      · have hke : k = n := by omega
        subst hke
        rw [HG.out]
        go_wp2
        go_ret
        exact ⟨by first | rfl | (simp; done), blC HB4.out HB5.out⟩
end Go.Proofs.Ytkofhmiakfmcaaa.P
