
/- The contracts of brackenref09's Expect and Check. Conditions: words of their kinds; slices read as lists. -/
import Derived.Test.YtnlmmgcjhedjkaaDoorR7d
import Derived.Test.YtnlmmgcjhedjkaaDoorSdC
namespace Go.Proofs.YtnlmmgcjhedjkaaDoor.P
open Go.RowKit
set_option linter.unusedVariables false
set_option linter.unusedSimpArgs false
theorem grS_bad {p : Int} {ax : List (Int × Bool)} {inv : Bool} {x : List Int} (h : ¬ wrd7 p ax x = 0) : grS p ax inv x = ([], wrd7 p ax x) := by rw [grS, if_neg h]
theorem expS_bad {p : Int} {ax : List (Int × Bool)} {inv : Bool} {x : List Int} {r : Int} (h : ¬ wrd7 p ax x = 0) : expS p ax inv x r = (0, wrd7 p ax x) := by rw [expS, if_neg h]
set_option maxRecDepth 100000 in
set_option maxHeartbeats 2000000 in
theorem rexp9_calls (p : Int) (A : Option Addr) (c n : Nat) (ax : List (Int × Bool)) (inv : Bool) (X : Option Addr) (ca m : Nat) (x : List Int) (r : Int) (w : World) (hn : ax.length = n) (hm : x.length = m) (hp : U64 p)
    (hr : Row w A (axR ax)) (hl : n ≤ 8796093022208) (hw : ∀ a ∈ ax, i64 a.1) (hrx : Row w X (nums .u64 x)) (hlm : m ≤ 9223372036854775807) (hwx : ∀ d ∈ x, U64 d) (hur : U64 r) :
    Calls Tryd.prog 60 #[.int .u64 p, .slice A n c, .bool inv, .slice X m ca, .int .u64 r] w fun e w' =>
      e = .returned (.tuple #[.int .u64 (expS p ax inv x r).1, .int .i64 (expS p ax inv x r).2]) ∧ Below w.heap.size w w' := by
  have HP := Lib.hid hp
  have HR := Lib.hid hr
  have HRX := Lib.hid hrx
  have HN := Lib.hid hn
  have HM := Lib.hid hm
  have HW := Lib.hid hw
  have HU := Lib.hid hwx
  have HUR := Lib.hid hur
  clear hp hr hn hw hrx hm hwx hur
  by_cases hc : wrd7 p ax x = 0
  case neg =>
    have HF := Lib.hid (expS_bad (inv := inv) (r := r) hc)
    have HG := Lib.hid (grS_bad (inv := inv) hc)
    have t0 : (wrd7 p ax x != 0) = true := by simpa using hc
    rw [HF.out]
    clear hc
    go_enter Tryd.func60, Tryd.ntmps60
    go_wp2_with fail
    refine (rdo7_calls p _ _ _ ax inv _ _ _ x _ HN.out HM.out HP.out HR.out hl HW.out HRX.out hlm HU.out).mono ?_
    rw [HG.out]
    rintro e w1 ⟨Z, z, rfl, ho, hb⟩
    have HB := Lib.hid hb
    clear hb ho
    go_wp2
    go_ret2
    exact ⟨rfl, HB.out⟩
  obtain ⟨hC, hP, hI⟩ := wrd7_ok hc
  have HF : Hid (expS p ax inv x r = (expF p ax inv x r, 0)) := Lib.hid (by rw [expS, if_pos hc])
  have HG : Hid (grS p ax inv x = (grN p ax inv x ax.length, 0)) := Lib.hid (by rw [grS, if_pos hc])
  have HGL : Hid ((grN p ax inv x ax.length).length = m) := Lib.hid (by rw [grN_length]; exact HM.out)
  have HGU := Lib.hid (grN_u64 p ax inv HU.out ax.length)
  have hm4 : m ≤ 4096 := by have h1 := hC.dims.all; have h3 := HM.out; omega
  have HEV : Hid (evalS p r (grN p ax inv x ax.length) = (expF p ax inv x r, 0)) := Lib.hid (by rw [expF_is hC inv hP r]; exact evalS_ok hC.known (by rw [HGL.out]; omega))
  rw [HF.out]
  clear hc hC hP hI
  generalize grN p ax inv x ax.length = y at *
  generalize expF p ax inv x r = ev at *
  have HYL : Hid (((y, (0 : Int)).1).length = m) := Lib.hid HGL.out
  go_enter Tryd.func60, Tryd.ntmps60
  go_wp2_with fail
  refine (rdo7_calls p _ _ _ ax inv _ _ _ x _ HN.out HM.out HP.out HR.out hl HW.out HRX.out hlm HU.out).mono ?_
  rw [HG.out, HYL.out]
  rintro e w1 ⟨Z, z, rfl, ho, hb⟩
  have HB := Lib.hid hb
  have HRY := Lib.hid ho.row
  clear hb ho
  go_wp2_with fail
  refine (r08_eval p r _ _ _ y _ HGL.out HP.out HUR.out HRY.out hlm HGU.out).mono ?_
  rw [HEV.out]
  rintro e w4 ⟨rfl, ⟨q4, rfl⟩⟩
  have HB4 := Lib.hid (below_drewN HB.out q4)
  go_wp2
  go_ret2
  exact ⟨rfl, HB4.out⟩
set_option maxRecDepth 100000 in
set_option maxHeartbeats 4000000 in
theorem rchk9_calls (p : Int) (A : Option Addr) (c n : Nat) (ax : List (Int × Bool)) (inv : Bool) (X : Option Addr) (ca m : Nat) (x : List Int) (Y : Option Addr) (cy my : Nat) (y : List Int) (Sd : Option Addr) (cs s : Nat) (sd : List Int) (w : World)
    (hn : ax.length = n) (hm : x.length = m) (hmy : y.length = my) (hsd : sd.length = s) (hp : U64 p)
    (hr : Row w A (axR ax)) (hl : n ≤ 8796093022208) (hw : ∀ a ∈ ax, i64 a.1) (hrx : Row w X (nums .u64 x)) (hlm : m ≤ 9223372036854775807) (hwx : ∀ d ∈ x, U64 d)
    (hry : Row w Y (nums .u64 y)) (hly : my ≤ 9223372036854775807) (hwy : ∀ d ∈ y, U64 d) (hrs : Row w Sd (nums .u64 sd)) (hls : s ≤ 9223372036854775807) (hws : ∀ d ∈ sd, U64 d) :
    Calls Tryd.prog 62 #[.int .u64 p, .slice A n c, .bool inv, .slice X m ca, .slice Y my cy, .slice Sd s cs] w fun e w' =>
      e = .returned (.tuple #[.bool (chk9 p ax inv x y sd).1, .int .i64 (chk9 p ax inv x y sd).2]) ∧ Below w.heap.size w w' := by
  have HP := Lib.hid hp
  have HR := Lib.hid hr
  have HRX := Lib.hid hrx
  have HRY := Lib.hid hry
  have HRS := Lib.hid hrs
  have HN := Lib.hid hn
  have HM := Lib.hid hm
  have HMY := Lib.hid hmy
  have HSD := Lib.hid hsd
  have HW := Lib.hid hw
  have HU := Lib.hid hwx
  have HUY := Lib.hid hwy
  have HUS := Lib.hid hws
  clear hp hr hn hw hrx hm hwx hry hrs hmy hsd hwy hws
  by_cases hc : wrd7 p ax x = 0
  case neg =>
    have HGB := Lib.hid (grS_bad (inv := inv) hc)
    have HF : Hid (chk9 p ax inv x y sd = (false, wrd7 p ax x)) := Lib.hid (by rw [chk9, if_neg hc])
    have t0 : (wrd7 p ax x != 0) = true := by simpa using hc
    rw [HF.out]
    clear hc
    go_enter Tryd.func62, Tryd.ntmps62
    go_wp2_with fail
    refine (rdo7_calls p _ _ _ ax inv _ _ _ x _ HN.out HM.out HP.out HR.out hl HW.out HRX.out hlm HU.out).mono ?_
    rw [HGB.out]
    rintro e w1 ⟨Z, z, rfl, ho, hb⟩
    have HB := Lib.hid hb
    clear hb ho
    go_wp2
    go_ret2
    exact ⟨rfl, HB.out⟩
  have HC := Lib.hid hc
  have HG : Hid (grS p ax inv x = (grN p ax inv x ax.length, 0)) := Lib.hid (by rw [grS, if_pos hc])
  have hkn := (wrd7_ok hc).1.known
  have hm4 : m ≤ 4096 := by have h1 := (wrd7_ok hc).1.dims.all; have h2 := (wrd7_ok hc).2.1; have h3 := HM.out; omega
  by_cases he : my = m
  case neg =>
    have HF : Hid (chk9 p ax inv x y sd = (false, 6)) := Lib.hid (by rw [chk9, if_pos hc, HMY.out, HM.out, if_neg he])
    have t1 : ((my : Int) != (m : Int)) = true := by simp; omega
    rw [HF.out]
    clear hc he hkn
    go_enter Tryd.func62, Tryd.ntmps62
    go_wp2_with fail
    refine (rdo7_calls p _ _ _ ax inv _ _ _ x _ HN.out HM.out HP.out HR.out hl HW.out HRX.out hlm HU.out).mono ?_
    rw [HG.out]
    rintro e w1 ⟨Z, z, rfl, ho, hb⟩
    have HB := Lib.hid hb
    clear hb ho
    go_wp2
    go_ret2
    exact ⟨rfl, HB.out⟩
  subst he
  have t1 : ((my : Int) != (my : Int)) = false := by simp
  by_cases hs : 1 ≤ s ∧ s ≤ 4
  case neg =>
    have HF : Hid (chk9 p ax inv x y sd = (false, 8)) := Lib.hid (by rw [chk9, if_pos hc, HMY.out, HM.out, if_pos rfl, HSD.out, if_neg hs])
    rw [HF.out]
    by_cases h0 : s = 0
    case' pos =>
      have t2 : decide ((s : Int) < 1) = true := by simp; omega
    case' neg =>
      have t2 : decide ((s : Int) < 1) = false := by simp; omega
      have t3 : decide (4 < (s : Int)) = true := by simp; omega
    all_goals
      clear hc h0 hs hkn
      go_enter Tryd.func62, Tryd.ntmps62
      go_wp2_with fail
      refine (rdo7_calls p _ _ _ ax inv _ _ _ x _ HN.out HM.out HP.out HR.out hl HW.out HRX.out hlm HU.out).mono ?_
      rw [HG.out]
      rintro e w1 ⟨Z, z, rfl, ho, hb⟩
      have HB := Lib.hid hb
      clear hb ho
      go_wp2
      go_ret2
      exact ⟨rfl, HB.out⟩
  obtain ⟨hs1, hs4⟩ := hs
  have t2 : decide ((s : Int) < 1) = false := by simp; omega
  have t3 : decide (4 < (s : Int)) = false := by simp; omega
  have HF : Hid (chk9 p ax inv x y sd = (decide (∀ r ∈ sd, expF p ax inv x r = evalG p r y) && inS p y, 0)) := Lib.hid (by rw [chk9, if_pos hc, HMY.out, HM.out, if_pos rfl, HSD.out, if_pos ⟨hs1, hs4⟩])
  obtain ⟨hC, hP, hI⟩ := wrd7_ok hc
  have HGL : Hid ((grN p ax inv x ax.length).length = my) := Lib.hid (by rw [grN_length]; exact HM.out)
  have HGU := Lib.hid (grN_u64 p ax inv HU.out ax.length)
  have HEX : Hid (∀ r, evalS p r (grN p ax inv x ax.length) = (expF p ax inv x r, 0)) := Lib.hid fun r => by rw [expF_is hC inv hP r]; exact evalS_ok hC.known (by rw [HGL.out]; omega)
  have HEV : Hid (∀ r, evalS p r y = (evalG p r y, 0)) := Lib.hid fun r => evalS_ok hkn (by rw [HMY.out]; omega)
  clear hc hkn hC hP hI
  generalize grN p ax inv x ax.length = v at *
  have HVL : Hid (((v, (0 : Int)).1).length = my) := Lib.hid HGL.out
  go_enter Tryd.func62, Tryd.ntmps62
  go_wp2_with fail
  refine (rdo7_calls p _ _ _ ax inv _ _ _ x _ HN.out HM.out HP.out HR.out hl HW.out HRX.out hlm HU.out).mono ?_
  rw [HG.out, HVL.out]
  rintro e w1 ⟨Z, z, rfl, ho, hb⟩
  have HB1 := Lib.hid hb
  have HRV := Lib.hid ho.row
  clear hb ho
  go_wp2
  go_loopw [48] (fun q wr => ∃ k : Nat, k ≤ s ∧ q = .int .i64 k ∧ Hid (∀ r ∈ sd.take k, expF p ax inv x r = evalG p r y) ∧ Hid (Below w1.heap.size w1 wr)) (fun q _ => s - (intOf q).toNat)
  case atStart => exact ⟨0, Nat.zero_le _, rfl, Lib.hid (by simp), Lib.hid (Below.refl _ _)⟩
  case round =>
    obtain ⟨k, hk, rfl, HAL, HB2⟩ := hrel
    by_cases hlt : k < s
    · have hks : k < sd.length := by have := HSD.out; omega
      obtain ⟨sa, rfl⟩ := HRS.out.some_of (by intro h0; have h1 := nums_length .u64 sd; rw [h0] at h1; simp at h1; omega)
      have hcx := (HRS.out.below (blT HB1.out HB2.out)).num hks
      have HUK := Lib.hid (HUS.out _ (List.getElem_mem hks))
      have HNX : Hid (expF p ax inv x sd[k] = evalG p sd[k] y → ∀ r ∈ sd.take (k + 1), expF p ax inv x r = evalG p r y) := Lib.hid fun h => (take_all2 hks).2 ⟨HAL.out, h⟩
      have HNO : Hid (¬ expF p ax inv x sd[k] = evalG p sd[k] y → chk9 p ax inv x y sd = (false, 0)) := Lib.hid fun h => by
        rw [HF.out, decide_eq_false (fun h2 => h (h2 _ (List.getElem_mem hks)))]; rfl
      generalize sd[k] = r at *
      go_wp2_with fail
      refine (r08_eval p r _ my _ v _ HGL.out HP.out HUK.out (HRV.out.below HB2.out) hlm HGU.out).mono ?_
      rw [HEX.out]
      rintro e w3 ⟨rfl, ⟨q3, rfl⟩⟩
      have HB3 := Lib.hid (below_drewN HB2.out q3)
      clear hcx
      generalize wr.drewN q3 = w3 at *
      go_wp2_with fail
      refine (r08_eval p r _ my _ y _ HMY.out HP.out HUK.out (HRY.out.below (blT HB1.out HB3.out)) hlm HUY.out).mono ?_
      rw [HEV.out]
      rintro e w4 ⟨rfl, ⟨q4, rfl⟩⟩
      have HB4 := Lib.hid (below_drewN HB3.out q4)
      generalize w3.drewN q4 = w4 at *
      by_cases hee : expF p ax inv x r = evalG p r y
      · have HA2 := Lib.hid (HNX.out hee)
        have t5 : (evalG p r y != evalG p r y) = false := by simp
        rw [hee]
        clear hee HNX HNO
        generalize evalG p r y = ev at *
        go_wp2
        go_roundw
        case rel => exact ⟨k + 1, by omega, by go_num, HA2, HB4⟩
        case measure => simp [intOf]; omega
      · have HFN := Lib.hid (HNO.out hee)
        have t5 : (expF p ax inv x r != evalG p r y) = true := by simpa using hee
        have HBE := Lib.hid (blT HB1.out HB4.out)
        clear hee HNX HNO
        generalize evalG p r y = ev at *
        generalize expF p ax inv x r = ev2 at *
        go_wp2
        go_ret2
        exact ⟨by rw [HFN.out]; rfl, HBE.out⟩
    · have hke : k = s := by omega
      have HFY : Hid (chk9 p ax inv x y sd = (inS p y, 0)) := Lib.hid (by
        have h1 := HAL.out
        rw [hke, List.take_of_length_le (by rw [HSD.out]; exact Nat.le_refl _)] at h1
        rw [HF.out, decide_eq_true h1]; rfl)
      have HBE := Lib.hid (blT HB1.out HB2.out)
      clear hke
      go_wp2_with fail
      refine (r01_in_n p _ _ _ y _ HMY.out (HRY.out.below HBE.out) hlm).mono ?_
      rintro e w5 ⟨rfl, rfl⟩
      go_wp2
      go_ret2
      exact ⟨by rw [HFY.out]; rfl, HBE.out⟩
end Go.Proofs.YtnlmmgcjhedjkaaDoor.P
