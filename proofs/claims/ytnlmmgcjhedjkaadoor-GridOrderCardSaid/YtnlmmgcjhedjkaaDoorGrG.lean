
/- The law GridBack, GridOrder, walked. Conditions: words of their kinds; the slices read as lists; the library's table lies as it was laid. -/
import Derived.Test.YtnlmmgcjhedjkaaDoorGrF
namespace Go.Proofs.YtnlmmgcjhedjkaaDoor.P
open Go.RowKit
set_option linter.unusedVariables false
set_option linter.unusedSimpArgs false
theorem grS_err {p : Int} {ax : List (Int × Bool)} {inv : Bool} {x : List Int} (h : wrd7 p ax x ≠ 0) : grS p ax inv x = ([], wrd7 p ax x) := by rw [grS, if_neg h]
set_option maxRecDepth 100000 in
set_option maxHeartbeats 4000000 in
theorem gridBack_walk (p : Int) (A : Option Addr) (ca : Nat) (ax : List (Int × Bool)) (inv : Bool) (B : Option Addr) (cb : Nat) (x : List Int) (w : World) (hp : U64 p)
    (hr : Row w A (axR ax)) (hla : ax.length * 16 ≤ 140737488351232) (hcap : ax.length ≤ ca) (hwa : ∀ a ∈ ax, (Lit.int .i64 a.1).wf = true) (hrx : Row w B (nums .u64 x)) (hlx : x.length * 8 ≤ 140737488351232) (hwx : ∀ d ∈ x, (Lit.int .u64 d).wf = true) (hT : Tab w) :
    Calls Tryd.prog 13 #[.int .u64 p, .slice A ax.length ca, .bool inv, .slice B x.length cb] w fun e w' => e = .returned (.bool true) ∧ Below w.heap.size w w' := by
  have HP := Lib.hid hp
  have HR := Lib.hid hr
  have HRX := Lib.hid hrx
  have HT := Lib.hid hT
  have HW : Hid (∀ a ∈ ax, i64 a.1) := Lib.hid fun a ha => i64_wf (hwa a ha)
  have HU : Hid (∀ d ∈ x, U64 d) := Lib.hid fun d hd => u64_wf (hwx d hd)
  clear hp hr hrx hT hwa hwx
  generalize hn : ax.length = n at *
  generalize hm : x.length = m at *
  have HN := Lib.hid hn
  have HM := Lib.hid hm
  have HL : Hid (n ≤ 8796093022208) := Lib.hid (by omega)
  have HLM : Hid (m ≤ 9223372036854775807) := Lib.hid (by omega)
  clear hn hm hla hcap
  go_enter Tryd.func13, Tryd.ntmps13
  go_wp2_with fail
  refine (live07_calls _ HT.out).mono ?_
  rintro e w1 ⟨rfl, hb1⟩
  have HB1 := Lib.hid hb1
  clear hb1
  go_wp2_with fail
  refine (few7_calls _ _ _ ax _ _ HN.out (HR.out.below HB1.out) HL.out HW.out).mono ?_
  rintro e w2 ⟨r, rfl, hb⟩
  have HB2 := Lib.hid (blT HB1.out hb)
  clear hb
  cases r
  case false =>
    go_wp2
    go_ret
    exact ⟨rfl, HB2.out⟩
  by_cases g0 : 70 < m
  · have f0 : decide (70 < (m : Int)) = true := by simp; omega
    clear g0
    go_wp2
    go_ret
    exact ⟨rfl, HB2.out⟩
  have f0 : decide (70 < (m : Int)) = false := by simp; omega
  by_cases hc : wrd7 p ax x = 0
  case neg =>
    have HE : Hid (grS p ax inv x = ([], wrd7 p ax x)) := Lib.hid (grS_err hc)
    have t0 : (wrd7 p ax x != 0) = true := by simpa using hc
    clear hc g0
    go_wp2_with fail
    refine (do7_calls p _ _ _ ax inv _ _ _ x _ HN.out HM.out HP.out (HR.out.below HB2.out) HL.out HW.out (HRX.out.below HB2.out) HLM.out HU.out (HT.out.below HB2.out)).mono ?_
    rw [HE.out]
    rintro e w3 ⟨Z3, z3, rfl, ho, hb⟩
    have HB3 := Lib.hid (blT HB2.out hb)
    clear ho hb
    go_wp2
    go_ret
    exact ⟨by first | rfl | (simp; done), HB3.out⟩
  obtain ⟨hC, hP, hI⟩ := wrd7_ok hc
  have HE : Hid (grS p ax inv x = (grN p ax inv x ax.length, 0)) := Lib.hid (by rw [grS, if_pos hc])
  have HK : Hid (grS p ax (!inv) (grN p ax inv x ax.length) = (x, 0)) := Lib.hid (grS_back hc HU.out inv)
  have HYL : Hid ((grN p ax inv x ax.length).length = m) := Lib.hid (by rw [grN_length]; exact HM.out)
  have HYU := Lib.hid (grN_u64 p ax inv HU.out ax.length)
  have HYI : Hid (inS p (grN p ax inv x ax.length) = true) := Lib.hid (grN_in hC.known ax inv hI _)
  have HXL : Hid (((x, (0 : Int)).1).length = m) := Lib.hid HM.out
  clear hc hC hP hI
  generalize grN p ax inv x ax.length = y at *
  go_wp2_with fail
  refine (do7_calls p _ _ _ ax inv _ _ _ x _ HN.out HM.out HP.out (HR.out.below HB2.out) HL.out HW.out (HRX.out.below HB2.out) HLM.out HU.out (HT.out.below HB2.out)).mono ?_
  rw [HE.out, show ((y, (0 : Int)).1).length = m from HYL.out]
  rintro e w3 ⟨Z3, z3, rfl, ho, hb⟩
  have HB3 := Lib.hid (blT HB2.out hb)
  have HRY3 : Hid (Row w3 Z3 (nums .u64 y)) := Lib.hid ho.row
  clear ho hb
  go_wp2_with fail
  refine (do7_calls p _ _ _ ax (!inv) _ _ _ y _ HN.out HYL.out HP.out (HR.out.below HB3.out) HL.out HW.out HRY3.out HLM.out HYU.out (HT.out.below HB3.out)).mono ?_
  rw [HK.out, HXL.out]
  rintro e w4 ⟨Z4, z4, rfl, ho, hb⟩
  have HB4 := Lib.hid (blT HB3.out hb)
  have HRY4 := Lib.hid (HRY3.out.below hb)
  have HRZ4 : Hid (Row w4 Z4 (nums .u64 x)) := Lib.hid ho.row
  clear ho hb HRY3
  go_wp2_with fail
  refine (same_n _ _ _ _ m m x x _ HM.out HM.out HRZ4.out HLM.out (HRX.out.below HB4.out)).mono ?_
  rw [show decide (x = x) = true from decide_eq_true rfl]
  rintro e w5 ⟨rfl, ⟨q5, rfl⟩⟩
  have HB5 := Lib.hid (below_drewN HB4.out q5)
  have HRY5 := Lib.hid (HRY4.out.drewN q5)
  have HRZ5 := Lib.hid (HRZ4.out.drewN q5)
  clear HRY4 HRZ4
  generalize w4.drewN q5 = w5 at *
  go_wp2_with fail
  refine (in_n p _ _ m y _ HYL.out HRY5.out HLM.out).mono ?_
  rw [HYI.out]
  rintro e w9 ⟨rfl, rfl⟩
  go_wp2
  go_ret
  exact ⟨by first | rfl | (simp; done), HB5.out⟩
theorem axS_err {p : Int} {ax : List (Int × Bool)} {a : Int} {inv : Bool} {x : List Int} (h : (axS p ax a inv x).2 ≠ 0) : axS p ax a inv x = ([], (axS p ax a inv x).2) := by
  unfold axS at h ⊢
  split
  · rename_i h1
    rw [if_pos h1] at h
    split
    · rename_i h2; rw [if_pos h2] at h; exact absurd rfl h
    · rfl
  · rfl
theorem axS_ok {p : Int} {ax : List (Int × Bool)} {a : Int} {inv : Bool} {x : List Int} (h : (axS p ax a inv x).2 = 0) : wrd7 p ax x = 0 ∧ 0 ≤ a ∧ a < ax.length ∧ axS p ax a inv x = (axL p (dimsA ax) a.toNat (ax.getD a.toNat (1, false)).2 inv x, 0) := by
  unfold axS at h ⊢
  split
  · rename_i h1
    rw [if_pos h1] at h
    split
    · rename_i h2; exact ⟨h1, h2.1, h2.2, rfl⟩
    · rename_i h2; rw [if_neg h2] at h; exact absurd h (by decide)
  · rename_i h1; rw [if_neg h1] at h; exact absurd h h1
/-- Two axes, one behind the other, in either order. -/
theorem axS_both {p : Int} {ax : List (Int × Bool)} {a b : Int} {inv : Bool} {x : List Int} (ha : (axS p ax a inv x).2 = 0) (hb : (axS p ax b inv x).2 = 0) (hne : a ≠ b) :
    ∃ z, axS p ax b inv (axS p ax a inv x).1 = (z, 0) ∧ axS p ax a inv (axS p ax b inv x).1 = (z, 0) ∧ z.length = x.length := by
  obtain ⟨h1, h2, h3, h4⟩ := axS_ok ha
  obtain ⟨_, k2, k3, k4⟩ := axS_ok hb
  obtain ⟨hC, hP, hI⟩ := wrd7_ok h1
  obtain ⟨a, rfl⟩ := Int.eq_ofNat_of_zero_le h2
  obtain ⟨b, rfl⟩ := Int.eq_ofNat_of_zero_le k2
  rw [Int.toNat_natCast] at h4 k4
  have g1 := hC.at (k := a) (by omega)
  have g2 := hC.at (k := b) (by omega)
  have e := AxAt.comm g2.1 g1.1 (by omega) p (ax.getD b (1, false)).2 (ax.getD a (1, false)).2 inv inv hP
  rw [h4, k4]
  dsimp only
  refine ⟨axL p (dimsA ax) b (ax.getD b (1, false)).2 inv (axL p (dimsA ax) a (ax.getD a (1, false)).2 inv x), ?_, ?_, by rw [axL_length, axL_length]⟩
  · rw [axS, if_pos (hC.words (by rw [axL_length]; exact hP) (axL_in hC.known _ _ _ _ _)), if_pos ⟨k2, k3⟩, Int.toNat_natCast]
  · rw [axS, if_pos (hC.words (by rw [axL_length]; exact hP) (axL_in hC.known _ _ _ _ _)), if_pos ⟨h2, h3⟩, Int.toNat_natCast, e]
theorem axS_len {p : Int} {ax : List (Int × Bool)} {a : Int} {inv : Bool} {x : List Int} (h : (axS p ax a inv x).2 = 0) : (axS p ax a inv x).1.length = x.length := by
  obtain ⟨_, _, _, h4⟩ := axS_ok h
  rw [h4]; dsimp only; rw [axL_length]
theorem axS_u64 (p : Int) (ax : List (Int × Bool)) (a : Int) (inv : Bool) (x : List Int) : ∀ d ∈ (axS p ax a inv x).1, U64 d := by
  unfold axS
  split
  · split
    · exact axL_u64 _ _ _ _ _ _
    · intro d hd; simp at hd
  · intro d hd; simp at hd
set_option maxRecDepth 100000 in
set_option maxHeartbeats 4000000 in
theorem gridOrder_walk (p : Int) (A : Option Addr) (ca : Nat) (ax : List (Int × Bool)) (j k : Int) (inv : Bool) (B : Option Addr) (cb : Nat) (x : List Int) (w : World) (hp : U64 p)
    (hr : Row w A (axR ax)) (hla : ax.length * 16 ≤ 140737488351232) (hcap : ax.length ≤ ca) (hwa : ∀ a ∈ ax, (Lit.int .i64 a.1).wf = true) (hj : i64 j) (hk : i64 k) (hrx : Row w B (nums .u64 x)) (hlx : x.length * 8 ≤ 140737488351232) (hwx : ∀ d ∈ x, (Lit.int .u64 d).wf = true) (hT : Tab w) :
    Calls Tryd.prog 14 #[.int .u64 p, .slice A ax.length ca, .int .i64 j, .int .i64 k, .bool inv, .slice B x.length cb] w fun e w' => e = .returned (.bool true) ∧ Below w.heap.size w w' := by
  have HP := Lib.hid hp
  have HR := Lib.hid hr
  have HRX := Lib.hid hrx
  have HT := Lib.hid hT
  have HW : Hid (∀ a ∈ ax, i64 a.1) := Lib.hid fun a ha => i64_wf (hwa a ha)
  have HU : Hid (∀ d ∈ x, U64 d) := Lib.hid fun d hd => u64_wf (hwx d hd)
  clear hp hr hrx hT hwa hwx
  generalize hn : ax.length = n at *
  generalize hm : x.length = m at *
  have HN := Lib.hid hn
  have HM := Lib.hid hm
  have HL : Hid (n ≤ 8796093022208) := Lib.hid (by omega)
  have HLM : Hid (m ≤ 9223372036854775807) := Lib.hid (by omega)
  clear hn hm hla hcap
  go_enter Tryd.func14, Tryd.ntmps14
  go_wp2_with fail
  refine (live07_calls _ HT.out).mono ?_
  rintro e w1 ⟨rfl, hb1⟩
  have HB1 := Lib.hid hb1
  clear hb1
  go_wp2_with fail
  refine (few7_calls _ _ _ ax _ _ HN.out (HR.out.below HB1.out) HL.out HW.out).mono ?_
  rintro e w2 ⟨r, rfl, hb⟩
  have HB2 := Lib.hid (blT HB1.out hb)
  clear hb
  cases r
  case false =>
    go_wp2
    go_ret
    exact ⟨rfl, HB2.out⟩
  by_cases g0 : 60 < m
  · have f0 : decide (60 < (m : Int)) = true := by simp; omega
    clear g0
    go_wp2
    go_ret
    exact ⟨rfl, HB2.out⟩
  have f0 : decide (60 < (m : Int)) = false := by simp; omega
  by_cases g1 : j = k
  · have f1 : decide (j = k) = true := by simpa using g1
    have f2 : (j == k) = true := by simpa using g1
    subst g1
    clear g0
    go_wp2
    go_ret
    exact ⟨rfl, HB2.out⟩
  have f1 : decide (j = k) = false := by simpa using g1
  have f2 : (j == k) = false := by simpa using g1
  have HL1 : Hid ((axS p ax j inv x).2 = 0 → (axS p ax j inv x).1.length = m) := Lib.hid fun h => by rw [axS_len h]; exact HM.out
  have HL2 : Hid ((axS p ax k inv x).2 = 0 → (axS p ax k inv x).1.length = m) := Lib.hid fun h => by rw [axS_len h]; exact HM.out
  have HU1 := Lib.hid (axS_u64 p ax j inv x)
  have HU2 := Lib.hid (axS_u64 p ax k inv x)
  have HBO : Hid ((axS p ax j inv x).2 = 0 → (axS p ax k inv x).2 = 0 → ∃ z, axS p ax k inv (axS p ax j inv x).1 = (z, 0) ∧ axS p ax j inv (axS p ax k inv x).1 = (z, 0) ∧ z.length = m) := Lib.hid fun h1 h2 => by
    obtain ⟨z, e1, e2, e3⟩ := axS_both h1 h2 g1
    exact ⟨z, e1, e2, e3.trans HM.out⟩
  obtain ⟨y1, e1, hy1⟩ : ∃ y e, axS p ax j inv x = (y, e) := ⟨_, _, rfl⟩
  obtain ⟨y2, e2, hy2⟩ : ∃ y e, axS p ax k inv x = (y, e) := ⟨_, _, rfl⟩
  rw [hy1, hy2] at HBO
  rw [hy1] at HL1 HU1
  rw [hy2] at HL2 HU2
  have HY1 := Lib.hid hy1
  have HY2 := Lib.hid hy2
  clear hy1 hy2 g1
  by_cases hee : e1 = 0 ∧ e2 = 0
  case neg =>
    by_cases h1 : e1 = 0
    case' pos =>
      have t1 : (e1 != 0) = false := by simpa using h1
      have t2 : (e2 != 0) = true := by
        have : ¬ e2 = 0 := fun h => hee ⟨h1, h⟩
        simpa using this
    case' neg =>
      have t1 : (e1 != 0) = true := by simpa using h1
    all_goals
      clear hee h1 g0
      go_wp2_with fail
      refine (axis7_calls p _ _ _ ax j inv _ _ _ x _ HN.out HM.out HP.out (HR.out.below HB2.out) HL.out HW.out (HRX.out.below HB2.out) HLM.out HU.out (HT.out.below HB2.out)).mono ?_
      rw [HY1.out]
      rintro e w3 ⟨Z3, z3, rfl, ho, hb⟩
      have HB3 := Lib.hid (blT HB2.out hb)
      clear ho hb
      go_wp2_with fail
      refine (axis7_calls p _ _ _ ax k inv _ _ _ x _ HN.out HM.out HP.out (HR.out.below HB3.out) HL.out HW.out (HRX.out.below HB3.out) HLM.out HU.out (HT.out.below HB3.out)).mono ?_
      rw [HY2.out]
      rintro e w4 ⟨Z4, z4, rfl, ho, hb⟩
      have HB4 := Lib.hid (blT HB3.out hb)
      clear ho hb
      go_wp2
      go_ret
      exact ⟨by first | rfl | (simp; done), HB4.out⟩
  obtain ⟨rfl, rfl⟩ := hee
  obtain ⟨z, hz1, hz2, hz3⟩ := HBO.out rfl rfl
  have HZ1 : Hid (axS p ax k inv y1 = (z, 0)) := Lib.hid hz1
  have HZ2 : Hid (axS p ax j inv y2 = (z, 0)) := Lib.hid hz2
  have HZL : Hid (z.length = m) := Lib.hid hz3
  have HLA : Hid (y1.length = m) := Lib.hid (HL1.out rfl)
  have HLB : Hid (y2.length = m) := Lib.hid (HL2.out rfl)
  have HUA : Hid (∀ d ∈ y1, U64 d) := Lib.hid HU1.out
  have HUB : Hid (∀ d ∈ y2, U64 d) := Lib.hid HU2.out
  clear hz1 hz2 hz3 HBO HL1 HL2 HU1 HU2 g0
  go_wp2_with fail
  refine (axis7_calls p _ _ _ ax j inv _ _ _ x _ HN.out HM.out HP.out (HR.out.below HB2.out) HL.out HW.out (HRX.out.below HB2.out) HLM.out HU.out (HT.out.below HB2.out)).mono ?_
  rw [HY1.out, show ((y1, (0 : Int)).1).length = m from HLA.out]
  rintro e w3 ⟨Z3, z3, rfl, ho, hb⟩
  have HB3 := Lib.hid (blT HB2.out hb)
  have HRA3 : Hid (Row w3 Z3 (nums .u64 y1)) := Lib.hid ho.row
  clear ho hb
  go_wp2_with fail
  refine (axis7_calls p _ _ _ ax k inv _ _ _ x _ HN.out HM.out HP.out (HR.out.below HB3.out) HL.out HW.out (HRX.out.below HB3.out) HLM.out HU.out (HT.out.below HB3.out)).mono ?_
  rw [HY2.out, show ((y2, (0 : Int)).1).length = m from HLB.out]
  rintro e w4 ⟨Z4, z4, rfl, ho, hb⟩
  have HB4 := Lib.hid (blT HB3.out hb)
  have HRA4 := Lib.hid (HRA3.out.below hb)
  have HRB4 : Hid (Row w4 Z4 (nums .u64 y2)) := Lib.hid ho.row
  clear ho hb HRA3
  go_wp2_with fail
  refine (axis7_calls p _ _ _ ax k inv _ _ _ y1 _ HN.out HLA.out HP.out (HR.out.below HB4.out) HL.out HW.out HRA4.out HLM.out HUA.out (HT.out.below HB4.out)).mono ?_
  rw [HZ1.out, show ((z, (0 : Int)).1).length = m from HZL.out]
  rintro e w5 ⟨Z5, z5, rfl, ho, hb⟩
  have HB5 := Lib.hid (blT HB4.out hb)
  have HRA5 := Lib.hid (HRA4.out.below hb)
  have HRB5 := Lib.hid (HRB4.out.below hb)
  have HRC5 : Hid (Row w5 Z5 (nums .u64 z)) := Lib.hid ho.row
  clear ho hb HRA4 HRB4
  go_wp2_with fail
  refine (axis7_calls p _ _ _ ax j inv _ _ _ y2 _ HN.out HLB.out HP.out (HR.out.below HB5.out) HL.out HW.out HRB5.out HLM.out HUB.out (HT.out.below HB5.out)).mono ?_
  rw [HZ2.out, show ((z, (0 : Int)).1).length = m from HZL.out]
  rintro e w6 ⟨Z6, z6, rfl, ho, hb⟩
  have HB6 := Lib.hid (blT HB5.out hb)
  have HRA6 := Lib.hid (HRA5.out.below hb)
  have HRB6 := Lib.hid (HRB5.out.below hb)
  have HRC6 := Lib.hid (HRC5.out.below hb)
  have HRD6 : Hid (Row w6 Z6 (nums .u64 z)) := Lib.hid ho.row
  clear ho hb HRA5 HRB5 HRC5
  go_wp2_with fail
  refine (same_n _ _ _ _ m m z z _ HZL.out HZL.out HRC6.out HLM.out HRD6.out).mono ?_
  rw [show decide (z = z) = true from decide_eq_true rfl]
  rintro e w7 ⟨rfl, ⟨q7, rfl⟩⟩
  have HB7 := Lib.hid (below_drewN HB6.out q7)
  have HRA7 := Lib.hid (HRA6.out.drewN q7)
  have HRB7 := Lib.hid (HRB6.out.drewN q7)
  have HRC7 := Lib.hid (HRC6.out.drewN q7)
  have HRD7 := Lib.hid (HRD6.out.drewN q7)
  clear HRA6 HRB6 HRC6 HRD6
  generalize w6.drewN q7 = w7 at *
  go_wp2
  go_ret
  exact ⟨by first | rfl | (simp; done), HB7.out⟩
end Go.Proofs.YtnlmmgcjhedjkaaDoor.P
