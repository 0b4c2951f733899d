
/- The contract of seed.Check, and that chapter's example. Conditions: words of their kinds; slices read as lists; the library's table lies as it was laid. -/
import Derived.Test.YtnlmmgcjhedjkaaDoorSdE
import Derived.Test.YtnlmmgcjhedjkaaDoorGeomB
import Derived.Test.YtnlmmgcjhedjkaaDoorFlyB
import Derived.Test.YtnlmmgcjhedjkaaDoorDftL
namespace Go.Proofs.YtnlmmgcjhedjkaaDoor.P
open Go.RowKit
set_option linter.unusedVariables false
set_option linter.unusedSimpArgs false
theorem take_all2 {α : Type} {P : α → Prop} {l : List α} {k : Nat} (h : k < l.length) : (∀ a ∈ l.take (k + 1), P a) ↔ ((∀ a ∈ l.take k, P a) ∧ P l[k]) := take_all h
set_option maxRecDepth 100000 in
set_option maxHeartbeats 4000000 in
theorem chk9_calls (p : Int) (A : Option Addr) (c n : Nat) (ax : List (Int × Bool)) (inv : Bool) (X : Option Addr) (ca m : Nat) (x : List Int) (Y : Option Addr) (cy my : Nat) (y : List Int) (Sd : Option Addr) (cs s : Nat) (sd : List Int) (w : World)
    (hn : ax.length = n) (hm : x.length = m) (hmy : y.length = my) (hsd : sd.length = s) (hp : U64 p)
    (hr : Row w A (axR ax)) (hl : n ≤ 8796093022208) (hw : ∀ a ∈ ax, i64 a.1) (hrx : Row w X (nums .u64 x)) (hlm : m ≤ 9223372036854775807) (hwx : ∀ d ∈ x, U64 d)
    (hry : Row w Y (nums .u64 y)) (hly : my ≤ 9223372036854775807) (hwy : ∀ d ∈ y, U64 d) (hrs : Row w Sd (nums .u64 sd)) (hls : s ≤ 9223372036854775807) (hws : ∀ d ∈ sd, U64 d) (hT : Tab w) :
    Calls Tryd.prog 61 #[.int .u64 p, .slice A n c, .bool inv, .slice X m ca, .slice Y my cy, .slice Sd s cs] w fun e w' =>
      e = .returned (.tuple #[.bool (chk9 p ax inv x y sd).1, .int .i64 (chk9 p ax inv x y sd).2]) ∧ Below w.heap.size w w' := by
  have HP := Lib.hid hp
  have HR := Lib.hid hr
  have HRX := Lib.hid hrx
  have HRY := Lib.hid hry
  have HRS := Lib.hid hrs
  have HN := Lib.hid hn
  have HM := Lib.hid hm
  have HMY := Lib.hid hmy
  have HSD := Lib.hid hsd
  have HW := Lib.hid hw
  have HU := Lib.hid hwx
  have HUY := Lib.hid hwy
  have HUS := Lib.hid hws
  have HT := Lib.hid hT
  clear hp hr hn hw hT hrx hm hwx hry hrs hmy hsd hwy hws
  by_cases hc : wrd7 p ax x = 0
  case neg =>
    have HF : Hid (chk9 p ax inv x y sd = (false, wrd7 p ax x)) := Lib.hid (by rw [chk9, if_neg hc])
    have t0 : (wrd7 p ax x != 0) = true := by simpa using hc
    rw [HF.out]
    clear hc
    go_enter Tryd.func61, Tryd.ntmps61
    go_wp2_with fail
    refine (wrd9_calls _ _ _ _ _ _ _ _ _ _ HN.out HM.out HP.out HR.out hl HW.out HRX.out hlm HT.out).mono ?_
    rintro e w1 ⟨rfl, hb⟩
    have HB := Lib.hid hb
    clear hb
    go_wp2
    go_ret2
    exact ⟨rfl, HB.out⟩
  have HC := Lib.hid hc
  have hkn := (wrd7_ok hc).1.known
  have hm4 : m ≤ 4096 := by have h1 := (wrd7_ok hc).1.dims.all; have h2 := (wrd7_ok hc).2.1; have h3 := HM.out; omega
  by_cases he : my = m
  case neg =>
    have HF : Hid (chk9 p ax inv x y sd = (false, 6)) := Lib.hid (by rw [chk9, if_pos hc, HMY.out, HM.out, if_neg he])
    have t1 : ((my : Int) != (m : Int)) = true := by simp; omega
    rw [HF.out]
    clear hc he hkn
    go_enter Tryd.func61, Tryd.ntmps61
    go_wp2_with fail
    refine (wrd9_calls _ _ _ _ _ _ _ _ _ _ HN.out HM.out HP.out HR.out hl HW.out HRX.out hlm HT.out).mono ?_
    rw [HC.out]
    rintro e w1 ⟨rfl, hb⟩
    have HB := Lib.hid hb
    clear hb
    go_wp2
    go_ret2
    exact ⟨rfl, HB.out⟩
  subst he
  have t1 : ((my : Int) != (my : Int)) = false := by simp
  by_cases hs : 1 ≤ s ∧ s ≤ 4
  case neg =>
    have HF : Hid (chk9 p ax inv x y sd = (false, 8)) := Lib.hid (by rw [chk9, if_pos hc, HMY.out, HM.out, if_pos rfl, HSD.out, if_neg hs])
    rw [HF.out]
    by_cases h0 : s = 0
    case' pos =>
      have t2 : ((s : Int) == 0) = true := by simp [h0]
    case' neg =>
      have t2 : ((s : Int) == 0) = false := by simp [h0]
      have t3 : decide (4 < (s : Int)) = true := by simp; omega
    all_goals
      clear hc h0 hs hkn
      go_enter Tryd.func61, Tryd.ntmps61
      go_wp2_with fail
      refine (wrd9_calls _ _ _ _ _ _ _ _ _ _ HN.out HM.out HP.out HR.out hl HW.out HRX.out hlm HT.out).mono ?_
      rw [HC.out]
      rintro e w1 ⟨rfl, hb⟩
      have HB := Lib.hid hb
      clear hb
      go_wp2
      go_ret2
      exact ⟨rfl, HB.out⟩
  obtain ⟨hs1, hs4⟩ := hs
  have t2 : ((s : Int) == 0) = false := by simp; omega
  have t3 : decide (4 < (s : Int)) = false := by simp; omega
  have HF : Hid (chk9 p ax inv x y sd = (decide (∀ r ∈ sd, expF p ax inv x r = evalG p r y) && inS p y, 0)) := Lib.hid (by rw [chk9, if_pos hc, HMY.out, HM.out, if_pos rfl, HSD.out, if_pos ⟨hs1, hs4⟩])
  have HEX : Hid (∀ r, expS p ax inv x r = (expF p ax inv x r, 0)) := Lib.hid fun r => by rw [expS, if_pos hc]
  have HEV : Hid (∀ r, evalS p r y = (evalG p r y, 0)) := Lib.hid fun r => evalS_ok hkn (by rw [HMY.out]; omega)
  clear hc hkn
  go_enter Tryd.func61, Tryd.ntmps61
  go_wp2_with fail
  refine (wrd9_calls _ _ _ _ _ _ _ _ _ _ HN.out HM.out HP.out HR.out hl HW.out HRX.out hlm HT.out).mono ?_
  rw [HC.out]
  rintro e w1 ⟨rfl, hb⟩
  have HB1 := Lib.hid hb
  clear hb
  go_wp2
  go_loopw [45] (fun q wr => ∃ k : Nat, k ≤ s ∧ q = .int .i64 k ∧ Hid (∀ r ∈ sd.take k, expF p ax inv x r = evalG p r y) ∧ Hid (Below w.heap.size w wr)) (fun q _ => s - (intOf q).toNat)
  case atStart => exact ⟨0, Nat.zero_le _, rfl, Lib.hid (by simp), HB1⟩
  case round =>
    obtain ⟨k, hk, rfl, HAL, HB2⟩ := hrel
    by_cases hlt : k < s
    · have hks : k < sd.length := by have := HSD.out; omega
      obtain ⟨sa, rfl⟩ := HRS.out.some_of (by intro h0; have h1 := nums_length .u64 sd; rw [h0] at h1; simp at h1; omega)
      have hcx := (HRS.out.below HB2.out).num hks
      have HUK := Lib.hid (HUS.out _ (List.getElem_mem hks))
      have HNX : Hid (expF p ax inv x sd[k] = evalG p sd[k] y → ∀ r ∈ sd.take (k + 1), expF p ax inv x r = evalG p r y) := Lib.hid fun h => (take_all2 hks).2 ⟨HAL.out, h⟩
      have HNO : Hid (¬ expF p ax inv x sd[k] = evalG p sd[k] y → chk9 p ax inv x y sd = (false, 0)) := Lib.hid fun h => by
        rw [HF.out, decide_eq_false (fun h2 => h (h2 _ (List.getElem_mem hks)))]; rfl
      generalize sd[k] = r at *
      go_wp2_with fail
      refine (exp_calls p _ c n ax inv _ _ my x r _ HN.out HM.out HP.out (HR.out.below HB2.out) hl HW.out (HRX.out.below HB2.out) hlm HU.out HUK.out (HT.out.below HB2.out)).mono ?_
      rw [HEX.out]
      rintro e w3 ⟨rfl, hb⟩
      have HB3 := Lib.hid (blT HB2.out hb)
      clear hb hcx
      go_wp2_with fail
      refine (eval_n p r _ my _ y _ HMY.out HP.out HUK.out (HRY.out.below HB3.out) hlm HUY.out).mono ?_
      rw [HEV.out]
      rintro e w4 ⟨rfl, hb⟩
      have HB4 := Lib.hid (blT HB3.out hb)
      clear hb
      by_cases hee : expF p ax inv x r = evalG p r y
      · have HA2 := Lib.hid (HNX.out hee)
        have t5 : (evalG p r y != evalG p r y) = false := by simp
        rw [hee]
        clear hee HNX HNO
        generalize evalG p r y = ev at *
        go_wp2
        go_roundw
        case rel => exact ⟨k + 1, by omega, by go_num, HA2, HB4⟩
        case measure => simp [intOf]; omega
      · have HF2 := Lib.hid (HNO.out hee)
        have t5 : (expF p ax inv x r != evalG p r y) = true := by simpa using hee
        clear hee HNX HNO
        generalize evalG p r y = ev at *
        generalize expF p ax inv x r = ex at *
        go_wp2
        go_ret2
        exact ⟨by rw [HF2.out]; rfl, HB4.out⟩
    · have hke : k = s := by omega
      have HF2 : Hid (chk9 p ax inv x y sd = (inS p y, 0)) := Lib.hid (by
        have h1 := HAL.out
        rw [hke, List.take_of_length_le (by rw [HSD.out]; exact Nat.le_refl _)] at h1
        rw [HF.out, decide_eq_true h1, Bool.true_and])
      clear hke
      go_wp2_with fail
      refine (in_n p _ _ my y _ HMY.out (HRY.out.below HB2.out) hlm).mono ?_
      rintro e w5 ⟨rfl, rfl⟩
      go_wp2
      go_ret2
      exact ⟨by rw [HF2.out]; rfl, HB2.out⟩
theorem turn_two {p a b : Int} (hT : Turn p a b 2) : redS p a = subS p 0 1 := by
  have h1 := two_is (x0 := 0) (x1 := 1) hT
  have h3 := congrArg (fun l => l.getD 1 0) h1
  have e2 : (doL p a [0, 1]).getD 1 0 = redS p a := by
    rw [doL_at _ _ _ (by decide)]
    unfold doF
    congr 1
    simp [S, Int.pow_succ]
  exact e2.symm.trans h3.symm
theorem wgt_live : wgtS 998244353 (2, false) false 1 5 = (998244349, 0) := by
  have hk : knownS 998244353 = true := by decide
  have hr : (rootS 998244353 2).2 = 0 := by
    unfold rootS
    rw [if_pos (by decide), if_pos (by decide)]
  have hc : chk7 998244353 [(2, false)] = 0 := by
    refine Chk7.ok ⟨hk, by decide, ?_, ?_⟩
    · intro a ha; simp at ha; subst ha; exact (by decide +kernel : smoothS 2 = true)
    · intro a ha; simp at ha; subst ha; exact hr
  obtain ⟨N, hN, hT, _⟩ := turnS_turn false hr
  obtain rfl : N = 2 := by omega
  have h2 : redS 998244353 (turnS 998244353 2 false) = 998244352 := (turn_two hT).trans (by decide)
  have h4 : wghV 998244353 2 false false 1 5 = 998244349 := by
    rw [wghV_is]
    unfold wgD
    have e : S 2 (fun o => wgt (rootS 998244353 (ordS 2 false)).1 (backS 998244353 (ordS 2 false)).1 (invS 998244353 (2 : Nat)).1 false false 1 o * 5 ^ o) = 1 + turnS 998244353 2 false * 5 := by
      simp [S, wgt, stp, turnS, ordS, Int.pow_succ]
    rw [e, ← redS_add_right, ← redS_mul_left, h2]
    decide
  rw [wgtS, if_pos hc, if_pos (by decide)]
  exact congrArg (fun v => (v, (0 : Int))) h4
set_option maxRecDepth 100000 in
theorem live09_calls (w : World) (hT : Tab w) : Calls Tryd.prog 56 #[] w fun e w' => e = .returned (.bool true) ∧ Below w.heap.size w w' := by
  have HF := Lib.hid wgt_live
  have HT := Lib.hid hT
  clear hT
  go_enter Tryd.func56, Tryd.ntmps56
  go_wp2_with fail
  refine (wgt_calls 998244353 2 false false 1 5 _ (by decide) (by decide) (by decide) (by decide) HT.out).mono ?_
  rw [HF.out]
  rintro e w1 ⟨rfl, hb⟩
  have HB := Lib.hid hb
  clear hb
  go_wp2
  go_ret
  exact ⟨by first | rfl | (simp; done), HB.out⟩
end Go.Proofs.YtnlmmgcjhedjkaaDoor.P
