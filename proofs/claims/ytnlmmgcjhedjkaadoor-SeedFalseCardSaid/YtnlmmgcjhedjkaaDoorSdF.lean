
/- The law SeedFalse, walked. Conditions: words of their kinds; the slices read as lists; the library's table lies as it was laid. -/
import Derived.Test.YtnlmmgcjhedjkaaDoorSdC
import Derived.Test.YtnlmmgcjhedjkaaDoorGrF
namespace Go.Proofs.YtnlmmgcjhedjkaaDoor.P
open Go.RowKit
set_option linter.unusedVariables false
set_option linter.unusedSimpArgs false
def okF (p : Int) (ax : List (Int × Bool)) (inv : Bool) (x y : List Int) (r : Int) : Bool := decide (expF p ax inv x r = evalG p r y) && inS p y
def metF (p : Int) (sd : List Int) (i j : Nat) : Bool := (List.range j).any fun j => redS p (sd.getD j 0) == redS p (sd.getD i 0)
theorem metF_step (p : Int) (sd : List Int) (i j : Nat) : metF p sd i (j + 1) = (metF p sd i j || (redS p (sd.getD j 0) == redS p (sd.getD i 0))) := by
  unfold metF
  rw [List.range_succ, List.any_append]
  simp
theorem chk9_single {p : Int} {ax : List (Int × Bool)} {inv : Bool} {x y : List Int} (h : wrd7 p ax x = 0) (hl : y.length = x.length) (r : Int) : chk9 p ax inv x y [r] = (okF p ax inv x y r, 0) := by
  rw [chk9, if_pos h, if_pos hl, if_pos (by simp)]
  unfold okF
  simp
theorem fools_succ (p : Int) (ok : Int → Bool) (sd : List Int) (i : Nat) : (fools p ok sd (i + 1)).length = if ok (sd.getD i 0) && !(metF p sd i i) then (fools p ok sd i).length + 1 else (fools p ok sd i).length := by
  rw [fools]
  unfold metF
  split <;> simp
theorem fools_le (p : Int) (ok : Int → Bool) (sd : List Int) : ∀ i, (fools p ok sd i).length ≤ i
  | 0 => by simp [fools]
  | i + 1 => by
    rw [fools_succ]
    have := fools_le p ok sd i
    split <;> omega
theorem fools_none (p : Int) {ok : Int → Bool} (sd : List Int) (h : ∀ r, ok r = false) : ∀ i, fools p ok sd i = []
  | 0 => rfl
  | i + 1 => by rw [fools, h, Bool.false_and, if_neg (by decide), fools_none p sd h i]
theorem seed_false {p : Int} {ax : List (Int × Bool)} {inv : Bool} {x y : List Int} (h : wrd7 p ax x = 0) (hl : y.length = x.length) (hu : ∀ d ∈ x, U64 d) (hyu : ∀ d ∈ y, U64 d) (hne : grN p ax inv x ax.length ≠ y) (sd : List Int) (i : Nat) :
    (fools p (okF p ax inv x y) sd i).length < y.length := by
  obtain ⟨hC, hP, hI⟩ := wrd7_ok h
  by_cases hy : inS p y = true
  · refine fools_few hC.known (by rw [grN_length]; exact hl) (grN_in hC.known ax inv hI _) (grN_u64 p ax inv hu _) hy hyu hne (fun r hr => ?_) i
    unfold okF at hr
    rw [Bool.and_eq_true, decide_eq_true_eq] at hr
    rw [← expF_is hC inv hP r]
    exact hr.1
  · have hy2 : inS p y = false := by simpa using hy
    rw [fools_none p sd (fun r => by unfold okF; rw [hy2, Bool.and_false])]
    have h1 := hC.dims.pos.prod
    rw [hP] at h1
    simp
    omega
set_option maxRecDepth 100000 in
set_option maxHeartbeats 4000000 in
theorem seedFalse_walk (p : Int) (A : Option Addr) (ca : Nat) (ax : List (Int × Bool)) (inv : Bool) (B : Option Addr) (cb : Nat) (x : List Int) (Y : Option Addr) (cy : Nat) (y : List Int) (C : Option Addr) (cc : Nat) (sd : List Int) (w : World) (hp : U64 p)
    (hr : Row w A (axR ax)) (hla : ax.length * 16 ≤ 140737488351232) (hcap : ax.length ≤ ca) (hwa : ∀ a ∈ ax, (Lit.int .i64 a.1).wf = true)
    (hrx : Row w B (nums .u64 x)) (hlx : x.length * 8 ≤ 140737488351232) (hcx : x.length ≤ cb) (hwx : ∀ d ∈ x, (Lit.int .u64 d).wf = true)
    (hry : Row w Y (nums .u64 y)) (hly : y.length * 8 ≤ 140737488351232) (hcy : y.length ≤ cy) (hwy : ∀ d ∈ y, (Lit.int .u64 d).wf = true)
    (hrs : Row w C (nums .u64 sd)) (hls : sd.length * 8 ≤ 140737488351232) (hcs : sd.length ≤ cc) (hws : ∀ d ∈ sd, (Lit.int .u64 d).wf = true) (hT : Tab w) :
    Calls Tryd.prog 19 #[.int .u64 p, .slice A ax.length ca, .bool inv, .slice B x.length cb, .slice Y y.length cy, .slice C sd.length cc] w fun e w' => e = .returned (.bool true) ∧ Below w.heap.size w w' := by
  have HP := Lib.hid hp
  have HR := Lib.hid hr
  have HRX := Lib.hid hrx
  have HRY := Lib.hid hry
  have HRS := Lib.hid hrs
  have HT := Lib.hid hT
  have HW : Hid (∀ a ∈ ax, i64 a.1) := Lib.hid fun a ha => i64_wf (hwa a ha)
  have HU : Hid (∀ d ∈ x, U64 d) := Lib.hid fun d hd => u64_wf (hwx d hd)
  have HUY : Hid (∀ d ∈ y, U64 d) := Lib.hid fun d hd => u64_wf (hwy d hd)
  have HUS : Hid (∀ d ∈ sd, U64 d) := Lib.hid fun d hd => u64_wf (hws d hd)
  clear hp hr hrx hry hrs hT hwa hwx hwy hws hcx hcy
  generalize hn : ax.length = n at *
  generalize hm : x.length = m at *
  generalize hmy : y.length = my at *
  generalize hs : sd.length = s at *
  have HN := Lib.hid hn
  have HM := Lib.hid hm
  have HMY := Lib.hid hmy
  have HS := Lib.hid hs
  have HL : Hid (n ≤ 8796093022208) := Lib.hid (by omega)
  have HLM : Hid (m ≤ 9223372036854775807) := Lib.hid (by omega)
  have HLY : Hid (my ≤ 9223372036854775807) := Lib.hid (by omega)
  clear hn hm hmy hs hla hcap
  go_enter Tryd.func19, Tryd.ntmps19
  go_wp2_with fail
  refine (live09_calls _ HT.out).mono ?_
  rintro e w1 ⟨rfl, hb1⟩
  have HB1 := Lib.hid hb1
  clear hb1
  go_wp2_with fail
  refine (few7_calls _ _ _ ax _ _ HN.out (HR.out.below HB1.out) HL.out HW.out).mono ?_
  rintro e w2 ⟨r, rfl, hb⟩
  have HB2 := Lib.hid (blT HB1.out hb)
  clear hb
  by_cases gg : r = true ∧ ¬ 16 < m ∧ my = m ∧ ¬ 24 < s
  case neg =>
    cases r
    case' true =>
      by_cases g0 : 16 < m
      case' pos => have f0 : decide (16 < (m : Int)) = true := by simp; omega
      case' neg =>
        have f0 : decide (16 < (m : Int)) = false := by simp; omega
        by_cases g1 : my = m
        case' neg => have f1 : ((my : Int) != (m : Int)) = true := by simp; omega
        case' pos =>
          have f1 : ((my : Int) != (m : Int)) = false := by simp; omega
          by_cases g2 : 24 < s
          case neg => exact absurd ⟨rfl, g0, g1, g2⟩ gg
          have f2 : decide (24 < (s : Int)) = true := by simp; omega
    all_goals
      clear gg
      go_wp2
      go_ret
      exact ⟨rfl, HB2.out⟩
  obtain ⟨rfl, g0, g1, g2⟩ := gg
  subst g1
  have f0 : decide (16 < (my : Int)) = false := by simp; omega
  have f1 : ((my : Int) != (my : Int)) = false := by simp
  have f2 : decide (24 < (s : Int)) = false := by simp; omega
  by_cases hc : wrd7 p ax x = 0
  case neg =>
    have HE : Hid (grS p ax inv x = ([], wrd7 p ax x)) := Lib.hid (by rw [grS, if_neg hc])
    have t0 : (wrd7 p ax x != 0) = true := by simpa using hc
    clear hc
    generalize wrd7 p ax x = ww at *
    go_wp2_with fail
    refine (do7_calls p _ _ _ ax inv _ _ _ x _ HN.out HM.out HP.out (HR.out.below HB2.out) HL.out HW.out (HRX.out.below HB2.out) HLM.out HU.out (HT.out.below HB2.out)).mono ?_
    rw [HE.out]
    rintro e w3 ⟨Z3, z3, rfl, ho, hb⟩
    have HB3 := Lib.hid (blT HB2.out hb)
    have HRV3 : Hid (Row w3 Z3 (nums .u64 [])) := Lib.hid ho.row
    clear ho hb
    go_wp2
    go_ret
    exact ⟨by first | rfl | (simp; done), HB3.out⟩
  have HE : Hid (grS p ax inv x = (grN p ax inv x ax.length, 0)) := Lib.hid (by rw [grS, if_pos hc])
  have HVL : Hid ((grN p ax inv x ax.length).length = my) := Lib.hid (by rw [grN_length]; exact HM.out)
  have HLL : Hid (y.length = x.length) := Lib.hid (by rw [HMY.out, HM.out])
  have HSG : Hid (∀ r, chk9 p ax inv x y [r] = (okF p ax inv x y r, 0)) := Lib.hid fun r => chk9_single hc HLL.out r
  have HNE : Hid (grN p ax inv x ax.length ≠ y → ∀ i, (fools p (okF p ax inv x y) sd i).length < my) := Lib.hid fun h i => by
    have h1 := seed_false hc HLL.out HU.out HUY.out h sd i
    rw [HMY.out] at h1
    exact h1
  have HOK : Hid (∀ r, okF p ax inv x y r = true → inS p y = true) := Lib.hid fun r h => by
    unfold okF at h
    rw [Bool.and_eq_true] at h
    exact h.2
  have HFS : Hid (∀ i, (fools p (okF p ax inv x y) sd (i + 1)).length = if okF p ax inv x y (sd.getD i 0) && !(metF p sd i i) then (fools p (okF p ax inv x y) sd i).length + 1 else (fools p (okF p ax inv x y) sd i).length) := Lib.hid fun i => fools_succ p _ sd i
  have HFL : Hid (∀ i, (fools p (okF p ax inv x y) sd i).length ≤ i) := Lib.hid fun i => fools_le p _ sd i
  clear hc
  generalize grN p ax inv x ax.length = v at *
  generalize hok : okF p ax inv x y = ok at *
  clear hok
  go_wp2_with fail
  refine (do7_calls p _ _ _ ax inv _ _ _ x _ HN.out HM.out HP.out (HR.out.below HB2.out) HL.out HW.out (HRX.out.below HB2.out) HLM.out HU.out (HT.out.below HB2.out)).mono ?_
  rw [HE.out, show ((v, (0 : Int)).1).length = my from HVL.out]
  rintro e w3 ⟨Z3, z3, rfl, ho, hb⟩
  have HB3 := Lib.hid (blT HB2.out hb)
  have HRV3 : Hid (Row w3 Z3 (nums .u64 v)) := Lib.hid ho.row
  clear ho hb
  go_wp2
  go_loopw [15, 57] (fun f q ws => ∃ i : Nat, i ≤ s ∧ q = .int .i64 i ∧ f = .int .i64 ((fools p ok sd i).length : Int) ∧ Hid (Below w3.heap.size w3 ws)) (fun _ q _ => s - (intOf q).toNat)
  case atStart => exact ⟨0, Nat.zero_le _, rfl, rfl, Lib.hid (Below.refl _ _)⟩
  case round =>
    obtain ⟨i, his, rfl, rfl, HBQ⟩ := hrel
    have HBW := Lib.hid (blT HB3.out HBQ.out)
    have hfi := HFL.out i
    by_cases hit : i < s
    · have hix : i < sd.length := by have := HS.out; omega
      obtain ⟨sa, rfl⟩ := HRS.out.some_of (by intro h0; have h1 := nums_length .u64 sd; rw [h0] at h1; simp at h1; omega)
      have hcx := (HRS.out.below HBW.out).num hix
      have HUI := Lib.hid (HUS.out _ (List.getElem_mem hix))
      have HGI : Hid (sd.getD i 0 = sd[i]) := Lib.hid (getD_at hix 0)
      have HFI := Lib.hid (HFS.out i)
      have HMS : Hid (∀ j, (hj : j < sd.length) → metF p sd i (j + 1) = (metF p sd i j || (redS p sd[j] == redS p sd[i]))) := Lib.hid fun j hj => by
        have h1 := metF_step p sd i j
        rw [getD_at hj 0, getD_at hix 0] at h1
        exact h1
      have HM0 : Hid (metF p sd i 0 = false) := Lib.hid rfl
      rw [HGI.out] at HFI
      generalize sd[i] = r at *
      generalize (fools p ok sd i).length = fl at *
      have his2 : i ≤ cc := by omega
      go_wp2
      go_hide hQ
      go_loopw [18, 66] (fun b q ws => ∃ j : Nat, j ≤ i ∧ q = .int .i64 j ∧ b = .bool (metF p sd i j) ∧ Hid (Below w3.heap.size w3 ws)) (fun _ q _ => i - (intOf q).toNat)
      case atStart => exact ⟨0, Nat.zero_le _, rfl, by rw [HM0.out], HBQ⟩
      case round =>
        obtain ⟨j, hji, rfl, rfl, HBJ⟩ := hrel
        by_cases hjt : j < i
        · have hjx : j < sd.length := by have := HS.out; omega
          have hcj := (HRS.out.below (blT HB3.out HBJ.out)).num hjx
          have HUJ := Lib.hid (HUS.out _ (List.getElem_mem hjx))
          have HMJ := Lib.hid (HMS.out j hjx)
          generalize sd[j] = sj at *
          generalize metF p sd i j = mj at *
          cases mj
          case true =>
            have HM1 : Hid (metF p sd i (j + 1) = true) := Lib.hid (by rw [HMJ.out, Bool.true_or])
            go_wp2
            go_roundw
            case rel => exact ⟨j + 1, by omega, by go_num, by rw [HM1.out], HBJ⟩
            case measure => simp [intOf]; omega
          case false =>
            have HM1 : Hid (metF p sd i (j + 1) = (redS p sj == redS p r)) := Lib.hid (by rw [HMJ.out, Bool.false_or])
            go_wp2_with fail
            refine (reduce_calls p sj _ HP.out HUJ.out).mono ?_
            rintro e w5 ⟨rfl, rfl⟩
            go_wp2_with fail
            refine (reduce_calls p r _ HP.out HUI.out).mono ?_
            rintro e w6 ⟨rfl, rfl⟩
            generalize redS p sj = rj at *
            generalize redS p r = rr at *
            generalize hbb : (rj == rr) = bb at *
            go_wp2
            go_roundw
            case rel => exact ⟨j + 1, by omega, by go_num, by rw [HM1.out], HBJ⟩
            case measure => simp [intOf]; omega
        · have hje : j = i := by omega
          have HMI : Hid (metF p sd i i = metF p sd i j) := Lib.hid (by rw [hje])
          rw [HMI.out] at HFI
          have HSR := Lib.hid (HSG.out r)
          have HOR := Lib.hid (HOK.out r)
          have HBJW := Lib.hid (blT HB3.out HBJ.out)
          clear hje
          generalize metF p sd i j = mt at *
          go_wp2
          subst hQ
          go_wp2_with fail
          have hb0 : Below wr.heap.size wr (wr.alloc (.cells #[.int .u64 r] 40)) := (Below.refl _ _).alloc (Nat.le_refl _) _
          have hr0 : Row (wr.alloc (.cells #[.int .u64 r] 40)) (some ⟨wr.heap.size, 0, none⟩) (nums .u64 [r]) := row_new wr [.int .u64 r] 40
          have HB5 := Lib.hid (blT HBJW.out hb0)
          have HB5' := Lib.hid (blT HBJ.out hb0)
          have HU1 : Hid (∀ d ∈ ([r] : List Int), U64 d) := Lib.hid (by intro d hd; rw [List.mem_singleton] at hd; subst hd; exact HUI.out)
          generalize (wr.alloc (.cells #[.int .u64 r] 40)) = w5 at *
          refine (chk9_calls p _ _ _ ax inv _ _ _ x _ _ my y _ _ 1 [r] _ HN.out HM.out HMY.out rfl HP.out (HR.out.below HB5.out) HL.out HW.out (HRX.out.below HB5.out) HLM.out HU.out (HRY.out.below HB5.out) HLM.out HUY.out hr0 (by decide) HU1.out (HT.out.below HB5.out)).mono ?_
          rw [HSR.out]
          rintro e w6 ⟨rfl, hb⟩
          have HB6 := Lib.hid (blT HB5'.out hb)
          have HB6W := Lib.hid (blT HB3.out HB6.out)
          clear hb hb0 hr0
          generalize ok r = okr at *
          cases okr
          case false =>
            have HF2 : Hid ((fools p ok sd (i + 1)).length = fl) := Lib.hid (by rw [HFI.out]; simp)
            go_wp2
            go_roundw
            case rel => exact ⟨i + 1, by omega, by go_num, by rw [HF2.out], HB6⟩
            case measure => simp [intOf]; omega
          case true =>
            have HIY := Lib.hid (HOR.out rfl)
            cases mt
            case' false => have HF2 : Hid ((fools p ok sd (i + 1)).length = fl + 1) := Lib.hid (by rw [HFI.out]; simp)
            case' true => have HF2 : Hid ((fools p ok sd (i + 1)).length = fl) := Lib.hid (by rw [HFI.out]; simp)
            all_goals
              go_wp2_with fail
              refine (in_n p _ _ my y _ HMY.out (HRY.out.below HB6W.out) HLM.out).mono ?_
              rw [HIY.out]
              rintro e w7 ⟨rfl, rfl⟩
              go_wp2
              go_roundw
              case rel => exact ⟨i + 1, by omega, by go_num, by rw [HF2.out]; first | done | (push_cast; rfl) | go_num, HB6⟩
              case measure => simp [intOf]; omega
    · have HV := Lib.hid (HRV3.out.below HBQ.out)
      have HNI : Hid (v ≠ y → (fools p ok sd i).length < my) := Lib.hid fun h => HNE.out h i
      go_wp2_with fail
      refine (same_n _ _ _ _ my my v y _ HVL.out HMY.out HV.out HLM.out (HRY.out.below HBW.out)).mono ?_
      rintro e w5 ⟨rfl, ⟨q5, rfl⟩⟩
      by_cases hvy : v = y
      · rw [decide_eq_true hvy]
        go_wp2
        go_ret
        exact ⟨by first | rfl | (simp; done), below_drewN HBW.out _⟩
      · rw [decide_eq_false hvy]
        have h1 := HNI.out hvy
        have f5 : decide (((fools p ok sd i).length : Int) < (my : Int)) = true := by simp; omega
        generalize (fools p ok sd i).length = fl at *
        go_wp2
        go_ret
        exact ⟨by first | rfl | (simp; done), below_drewN HBW.out _⟩
end Go.Proofs.YtnlmmgcjhedjkaaDoor.P
