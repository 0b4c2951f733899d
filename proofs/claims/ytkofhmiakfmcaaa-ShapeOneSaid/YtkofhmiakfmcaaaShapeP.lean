/- Places and coordinates, plainly; the law ShapeBack, walked. Conditions: words of their kinds; slices read as lists. -/
import Derived.Test.YtkofhmiakfmcaaaSame
namespace Go.Proofs.Ytkofhmiakfmcaaa.P
open Go.RowKit
set_option linter.unusedVariables false
set_option linter.unusedSimpArgs false
theorem coordL_length (l : List Int) (i : Int) : (coordL l i).length = l.length := by simp [coordL]
theorem coordL_at (l : List Int) (i : Int) {k : Nat} (h : k < l.length) : (coordL l i).getD k 0 = coordF l i k := by
  rw [List.getD_eq_getElem?_getD]; simp [coordL, h]
theorem coordL_fits {l : List Int} (hp : Pos l) {i : Int} (h0 : 0 ≤ i) : Fits l (coordL l i) := by
  refine ⟨coordL_length l i, fun k hk => ?_⟩
  rw [coordL_at l i hk, coordF_at l i k hk, getD_at hk]
  have := hp.at hk
  exact ⟨Int.emod_nonneg _ (by omega), Int.emod_lt_of_pos _ (by omega)⟩
theorem hor_coord {l : List Int} (hp : Pos l) {i : Int} (h0 : 0 ≤ i) (h1 : i < prodL l) : ∀ k, k ≤ l.length → hor l (coordL l i) k = i / prodL (l.drop k)
  | 0, _ => by rw [hor, List.drop_zero, Int.ediv_eq_zero_of_lt h0 h1]
  | k + 1, hk => by
    have hk' : k < l.length := by omega
    rw [hor, hor_coord hp h0 h1 k (by omega), coordL_at l i hk', getD_at hk', coordF_at l i k hk', ← coord_next l i k hk' hp]
    exact Int.ediv_mul_add_emod _ _
theorem flat_coord {l : List Int} (hd : Dims l) {i : Int} (h0 : 0 ≤ i) (h1 : i < prodL l) : flatS l (coordL l i) = (i, 0) := by
  rw [flatS, if_pos hd, if_pos (coordL_fits hd.pos h0), hor_coord hd.pos h0 h1 _ (Nat.le_refl _), List.drop_length]
  simp [prodL]
theorem hor_div {l c : List Int} (hp : Pos l) (hf : Fits l c) : ∀ j k, k + j = l.length → hor l c l.length / prodL (l.drop k) = hor l c k
  | 0, k, h => by
    have : k = l.length := by omega
    subst this
    rw [List.drop_length]; simp [prodL]
  | j + 1, k, h => by
    have hk : k < l.length := by omega
    rw [← coord_next l _ k hk hp, hor_div hp hf j (k + 1) (by omega), hor, getD_at hk]
    have h2 := hf.2 k hk
    rw [getD_at hk] at h2
    have := hp.at hk
    rw [Int.add_comm, Int.add_mul_ediv_right _ _ (by omega), Int.ediv_eq_zero_of_lt h2.1 h2.2, Int.zero_add]
theorem coord_flat {l c : List Int} (hp : Pos l) (hf : Fits l c) : coordL l (hor l c l.length) = c := by
  apply List.ext_getElem
  · rw [coordL_length, hf.1]
  · intro k h1 h2
    have hk : k < l.length := by rw [coordL_length] at h1; exact h1
    have e : (coordL l (hor l c l.length))[k] = coordF l (hor l c l.length) k := by simp [coordL]
    rw [e, coordF_at l _ k hk, hor_div hp hf (l.length - (k + 1)) (k + 1) (by omega), hor, getD_at hk, getD_at h2]
    have h3 := hf.2 k hk
    rw [getD_at hk, getD_at h2] at h3
    rw [Int.add_comm, Int.add_mul_emod_self_right]
    exact Int.emod_eq_of_lt h3.1 h3.2
theorem i64_all {l : List Int} (h : ∀ x ∈ l, (Lit.int .i64 x).wf = true) : ∀ d ∈ l, i64 d := fun d hd => i64_wf (h d hd)
theorem u64_all {l : List Int} (h : ∀ x ∈ l, (Lit.int .u64 x).wf = true) : ∀ d ∈ l, U64 d := fun d hd => u64_wf (h d hd)
theorem coordL_i64 {l : List Int} (hd : Dims l) {i : Int} (h0 : 0 ≤ i) : ∀ d ∈ coordL l i, i64 d := by
  intro d hm
  obtain ⟨k, hk, rfl⟩ := List.getElem_of_mem hm
  have hk2 : k < l.length := by rw [coordL_length] at hk; exact hk
  have e : (coordL l i)[k] = coordF l i k := by simp [coordL]
  rw [e, coordF_at l i k hk2]
  have h1 := hd.pos.at hk2
  have h2 := hd.pos.at_le hk2
  have h3 := hd.all
  have h4 := Int.emod_nonneg (i / prodL (l.drop (k + 1))) (b := l[k]) (by omega)
  have h5 := Int.emod_lt_of_pos (i / prodL (l.drop (k + 1))) (b := l[k]) (by omega)
  exact ⟨by omega, by omega⟩
theorem coordS_ok {l : List Int} {i : Int} (h : (coordS l i).2 = 0) : Dims l ∧ 0 ≤ i ∧ i < prodL l ∧ coordS l i = (coordL l i, 0) := by
  unfold coordS at h ⊢
  by_cases hd : Dims l
  · rw [if_pos hd] at h ⊢
    by_cases hi : 0 ≤ i ∧ i < prodL l
    · rw [if_pos hi]; exact ⟨hd, hi.1, hi.2, rfl⟩
    · rw [if_neg hi] at h; exact absurd h (by decide)
  · rw [if_neg hd] at h; exact absurd h (by decide)
theorem flatS_ok {l c : List Int} (h : (flatS l c).2 = 0) : Dims l ∧ Fits l c ∧ flatS l c = (hor l c l.length, 0) := by
  unfold flatS at h ⊢
  by_cases hd : Dims l
  · rw [if_pos hd] at h ⊢
    by_cases hi : Fits l c
    · rw [if_pos hi]; exact ⟨hd, hi, rfl⟩
    · rw [if_neg hi] at h; exact absurd h (by decide)
  · rw [if_neg hd] at h; exact absurd h (by decide)
theorem flatS_no {l c : List Int} (h : (flatS l c).2 ≠ 0) : (flatS l c).1 = 0 := by
  unfold flatS at h ⊢
  by_cases hd : Dims l
  · rw [if_pos hd] at h ⊢
    by_cases hi : Fits l c
    · rw [if_pos hi] at h; exact absurd rfl h
    · rw [if_neg hi]
  · rw [if_neg hd]
theorem flatS_i64 (l c : List Int) : i64 (flatS l c).1 := by
  by_cases h : (flatS l c).2 = 0
  · obtain ⟨hd, hf, e⟩ := flatS_ok h
    rw [e]
    have h1 := hor_bound hd.pos l.length (Nat.le_refl _) hf.2
    rw [List.take_length] at h1
    have := hd.all
    exact ⟨by show _ ≤ hor l c l.length; omega, by show hor l c l.length < _; omega⟩
  · rw [flatS_no h]; decide
theorem shapeBack_walk (A : Option Addr) (ca : Nat) (l : List Int) (B : Option Addr) (cb : Nat) (m : List Int) (i : Int) (w : World)
    (hr : Row w A (nums .i64 l)) (hy : l.length * 8 ≤ 140737488351232) (hw : ∀ x ∈ l, (Lit.int .i64 x).wf = true) (hrm : Row w B (nums .i64 m)) (hym : m.length * 8 ≤ 140737488351232) (hwm : ∀ x ∈ m, (Lit.int .i64 x).wf = true) (hi : i64 i) :
    Calls Try.prog 6 #[.slice A l.length ca, .slice B m.length cb, .int .i64 i] w fun e w' => e = .returned (.bool true) ∧ Below w.heap.size w w' := by
  have HR := Lib.hid hr
  have HW := Lib.hid (i64_all hw)
  have HRM := Lib.hid hrm
  have HWM := Lib.hid (i64_all hwm)
  have HI := Lib.hid hi
  have HL : Hid (l.length ≤ 9223372036854775807) := Lib.hid (by omega)
  have HLM : Hid (m.length ≤ 9223372036854775807) := Lib.hid (by omega)
  clear hr hw hrm hwm hi
  go_enter Try.func6, Try.ntmps6
  go_wp2_with fail
  refine (live05_calls _).mono ?_
  rintro e w1 ⟨rfl, hb1⟩
  have HB1 := Lib.hid hb1
  have HR1 := Lib.hid (HR.out.below hb1)
  have HRM1 := Lib.hid (HRM.out.below hb1)
  clear hb1 HR HRM
  by_cases g0 : 10 < l.length ∨ 10 < m.length
  · by_cases g1 : 10 < l.length
    · have f0 : decide (10 < (l.length : Int)) = true := by simp; omega
      clear g0 g1
      go_wp2
      go_ret
      exact ⟨rfl, HB1.out⟩
    · have f0 : decide (10 < (l.length : Int)) = false := by simp; omega
      have f1 : decide (10 < (m.length : Int)) = true := by simp; omega
      clear g0 g1
      go_wp2
      go_ret
      exact ⟨rfl, HB1.out⟩
  · have f0 : decide (10 < (l.length : Int)) = false := by simp; omega
    have f1 : decide (10 < (m.length : Int)) = false := by simp; omega
    clear g0
    go_wp2_with fail
    refine (coord_calls _ _ _ _ _ HR1.out HL.out HW.out HI.out).mono ?_
    rintro e w2 ⟨C, cc, rfl, ho, hb2⟩
    have HB2 : Hid (Below w.heap.size w w2) := Lib.hid (HB1.out.trans (hb2.mono HB1.out.size))
    have HR2 := Lib.hid (HR1.out.below hb2)
    have HRM2 := Lib.hid (HRM1.out.below hb2)
    have HO := Lib.hid ho
    clear hb2 ho HB1 HR1 HRM1
    by_cases hc : (coordS l i).2 = 0
    case' pos =>
      obtain ⟨hd, h0, h1, e⟩ := coordS_ok hc
      have HFC := Lib.hid (flat_coord hd h0 h1)
      have HCW := Lib.hid (coordL_i64 hd h0)
      have HCL : Hid ((coordL l i).length ≤ 9223372036854775807) := Lib.hid (by rw [coordL_length]; omega)
      rw [e] at HO ⊢
      clear hd h0 h1 e hc
      go_wp2_with fail
      refine (flat_calls _ _ _ _ l (coordL l i) w2 HR2.out HL.out HW.out HO.out.row HCL.out HCW.out).mono ?_
      rw [HFC.out]
      rintro e w3 ⟨rfl, rfl⟩
      clear HFC HCW HCL HO
      go_wp2_with fail
    case' neg =>
      have f2 : ((coordS l i).2 == 0) = false := by simpa using hc
      clear hc HO
      go_wp2_with fail
      clear f2
    all_goals
      refine (flat_calls _ _ _ _ l m _ HR2.out HL.out HW.out HRM2.out HLM.out HWM.out).mono ?_
      by_cases hz : (flatS l m).2 = 0
      · obtain ⟨hd, hf, e⟩ := flatS_ok hz
        have hb := hor_bound hd.pos l.length (Nat.le_refl _) hf.2
        rw [List.take_length] at hb
        have hall := hd.all
        have HJ : Hid (i64 (hor l m l.length)) := Lib.hid ⟨by omega, by omega⟩
        have HCS : Hid (coordS l (hor l m l.length) = (m, 0)) := Lib.hid (by rw [coordS, if_pos hd, if_pos hb, coord_flat hd.pos hf])
        have HAS := Lib.hid (allS_yes hd)
        rw [e]
        rintro e w3 ⟨rfl, rfl⟩
        generalize hor l m l.length = j at *
        have hj0 := hb.1
        have hj1 := hb.2
        clear hd hf e hz hb
        go_wp2_with fail
        refine (coord_calls _ _ _ _ _ HR2.out HL.out HW.out HJ.out).mono ?_
        rw [HCS.out]
        rintro e w4 ⟨D, cd, rfl, ho, hb4⟩
        have HB4 : Hid (Below w.heap.size w w4) := Lib.hid (HB2.out.trans (hb4.mono HB2.out.size))
        have HR4 := Lib.hid (HR2.out.below hb4)
        have HRM4 := Lib.hid (HRM2.out.below hb4)
        have HO4 := Lib.hid ho
        clear hb4 ho HB2 HR2 HRM2
        go_wp2_with fail
        refine (all_calls _ _ _ _ HR4.out HL.out HW.out).mono ?_
        rw [HAS.out]
        rintro e w5 ⟨rfl, rfl⟩
        go_wp2_with fail
        refine (sameInts_calls _ _ _ _ m m _ HO4.out.row HLM.out HRM4.out).mono ?_
        rintro e w6 ⟨rfl, ⟨q, rfl⟩⟩
        have fm : decide (m = m) = true := by simp
        rw [fm]
        go_wp2
        go_ret
        exact ⟨by first | rfl | (simp; done), below_drewN HB4.out _⟩
      · have HN : Hid ((flatS l m).1 = 0) := Lib.hid (flatS_no hz)
        have f3 : ((flatS l m).2 != 0) = true := by simpa using hz
        rw [HN.out]
        clear hz
        rintro e w3 ⟨rfl, rfl⟩
        go_wp2
        go_ret
        exact ⟨by first | rfl | (simp; done), HB2.out⟩
end Go.Proofs.Ytkofhmiakfmcaaa.P
