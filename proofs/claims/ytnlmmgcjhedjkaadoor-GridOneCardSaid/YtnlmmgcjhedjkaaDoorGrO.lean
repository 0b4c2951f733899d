
/- The law GridOne, walked. Conditions: words of their kinds; the slices read as lists; the library's table lies as it was laid. -/
import Derived.Test.YtnlmmgcjhedjkaaDoorGrP
namespace Go.Proofs.YtnlmmgcjhedjkaaDoor.P
open Go.RowKit
set_option linter.unusedVariables false
set_option linter.unusedSimpArgs false
theorem trS_len (p : Int) (neg inv : Bool) (x : List Int) : (trS p neg inv x).1.length ≤ x.length := by
  unfold trS
  split
  · dsimp only; rw [trL_length]; exact Nat.le_refl _
  · simp
theorem grid_one {p : Int} {neg other inv : Bool} {x : List Int} {n : Nat} (hn : x.length = n) (hu : ∀ d ∈ x, U64 d) (h : n ≤ 24) : ∃ Y e Z f, grS p [((n : Int), neg)] inv x = (Y, e) ∧ grS p [(1, other), ((n : Int), neg), (1, false)] inv x = (Y, e) ∧ trS p neg inv x = (Z, f) ∧
    Y.length ≤ n ∧ Z.length ≤ n ∧ (n = 0 → (f != 0) = true ∧ ((e == 3) = true ∨ ((e == 3) = false ∧ (e == 2) = true))) ∧ (n ≠ 0 → Z = Y ∧ f = e) := by
  subst hn
  by_cases h0 : x.length = 0
  · have hx : x = [] := List.length_eq_zero_iff.1 h0
    subst hx
    obtain ⟨e, f, h1, h2, h3, h4, h5⟩ := one_none p neg other inv
    exact ⟨[], e, [], f, h1, h2, h3, Nat.le_refl _, Nat.le_refl _, fun _ => ⟨h4, h5⟩, fun h => absurd rfl h⟩
  · have hl := trS_len p neg inv x
    exact ⟨(trS p neg inv x).1, (trS p neg inv x).2, (trS p neg inv x).1, (trS p neg inv x).2, one_short (by omega) h, one_long hu (by omega) h, rfl, hl, hl, fun h => absurd h h0, fun _ => ⟨rfl, rfl⟩⟩
set_option maxRecDepth 100000 in
set_option maxHeartbeats 4000000 in
theorem gridOne_walk (p : Int) (neg other inv : Bool) (B : Option Addr) (cb : Nat) (x : List Int) (w : World) (hp : U64 p)
    (hrx : Row w B (nums .u64 x)) (hlx : x.length * 8 ≤ 140737488351232) (hwx : ∀ d ∈ x, (Lit.int .u64 d).wf = true) (hT : Tab w) :
    Calls Tryd.prog 15 #[.int .u64 p, .bool neg, .bool other, .bool inv, .slice B x.length cb] w fun e w' => e = .returned (.bool true) ∧ Below w.heap.size w w' := by
  have HP := Lib.hid hp
  have HRX := Lib.hid hrx
  have HT := Lib.hid hT
  have hu : ∀ d ∈ x, U64 d := fun d hd => u64_wf (hwx d hd)
  have HU := Lib.hid hu
  clear hp hrx hT hwx
  generalize hm : x.length = m at *
  have HM := Lib.hid hm
  have HLM : Hid (m ≤ 9223372036854775807) := Lib.hid (by omega)
  by_cases g0 : 24 < m
  · have f0 : decide (24 < (m : Int)) = true := by simp; omega
    clear g0 hm hlx
    go_enter Tryd.func15, Tryd.ntmps15
    go_wp2_with fail
    refine (live07_calls _ HT.out).mono ?_
    rintro e w1 ⟨rfl, hb1⟩
    have HB1 := Lib.hid hb1
    clear hb1
    go_wp2
    go_ret
    exact ⟨rfl, HB1.out⟩
  have f0 : decide (24 < (m : Int)) = false := by simp; omega
  obtain ⟨Y, e, Z, f, hA, hB, hC, hy, hz, h0, h1⟩ := grid_one (p := p) (neg := neg) (other := other) (inv := inv) hm hu (by omega)
  obtain ⟨k, hk⟩ : ∃ k, Y.length = k := ⟨_, rfl⟩
  obtain ⟨j, hj⟩ : ∃ j, Z.length = j := ⟨_, rfl⟩
  have HA := Lib.hid hA
  have HB := Lib.hid hB
  have HC := Lib.hid hC
  have H0 := Lib.hid h0
  have H1 := Lib.hid h1
  have HK : Hid (((Y, e).1 : List Int).length = k) := Lib.hid hk
  have HJ : Hid (((Z, f).1 : List Int).length = j) := Lib.hid hj
  have HKL : Hid (k ≤ 9223372036854775807) := Lib.hid (by omega)
  have HI1 : Hid (∀ a ∈ ([((m : Int), neg)] : List (Int × Bool)), i64 a.1) := Lib.hid (by
    intro a ha
    simp only [List.mem_singleton] at ha
    subst ha
    exact ⟨by dsimp only; omega, by dsimp only; omega⟩)
  have HI3 : Hid (∀ a ∈ ([(1, other), ((m : Int), neg), (1, false)] : List (Int × Bool)), i64 a.1) := Lib.hid (by
    intro a ha
    simp only [List.mem_cons, List.not_mem_nil, or_false] at ha
    rcases ha with rfl | rfl | rfl
    · exact (by decide : i64 1)
    · exact ⟨by dsimp only; omega, by dsimp only; omega⟩
    · exact (by decide : i64 1))
  clear hA hB hC hy hz h0 h1 hk hj hu hm hlx
  cases inv
  case' false =>
    have HFW : Hid (∀ w1, Row w1 B (nums .u64 x) → Tab w1 → Calls Tryd.prog 33 #[.int .u64 p, .slice B m cb, .bool neg] w1 fun e w' => ∃ B b,
        e = .returned (.tuple #[.slice B j b, .int .i64 f]) ∧ Own w' w1.heap.size 40 1 B j b (nums .u64 Z) ∧ Below w1.heap.size w1 w') := Lib.hid fun w1 hr1 hT1 => by
      have h := fwd6_calls p B cb m x neg w1 HM.out HP.out hr1 HLM.out HU.out hT1
      rw [HC.out, HJ.out] at h
      exact h
  case' true =>
    have HFW : Hid (∀ w1, Row w1 B (nums .u64 x) → Tab w1 → Calls Tryd.prog 36 #[.int .u64 p, .slice B m cb, .bool neg] w1 fun e w' => ∃ B b,
        e = .returned (.tuple #[.slice B j b, .int .i64 f]) ∧ Own w' w1.heap.size 40 1 B j b (nums .u64 Z) ∧ Below w1.heap.size w1 w') := Lib.hid fun w1 hr1 hT1 => by
      have h := inv6_calls p B cb m x neg w1 HM.out HP.out hr1 HLM.out HU.out hT1
      rw [HC.out, HJ.out] at h
      exact h
  rotate_left
  all_goals
    go_enter Tryd.func15, Tryd.ntmps15
    go_wp2_with fail
    refine (live07_calls _ HT.out).mono ?_
    rintro e w1 ⟨rfl, hb1⟩
    have HB1 := Lib.hid hb1
    clear hb1
    go_wp2_with fail
    have hb0 : Below w1.heap.size w1 (w1.alloc (.cells #[.int .i64 (m : Int), .bool neg] 64)) := (Below.refl _ _).alloc (Nat.le_refl _) _
    have hr0 : Row (w1.alloc (.cells #[.int .i64 (m : Int), .bool neg] 64)) (some ⟨w1.heap.size, 0, none⟩) (axR [((m : Int), neg)]) := row_new w1 [.int .i64 (m : Int), .bool neg] 64
    have HB2 := Lib.hid (blT HB1.out hb0)
    generalize (w1.alloc (.cells #[.int .i64 (m : Int), .bool neg] 64)) = w2 at *
    refine (do7_calls p _ _ 1 [((m : Int), neg)] _ _ _ _ x _ rfl HM.out HP.out hr0 (by decide) HI1.out (HRX.out.below HB2.out) HLM.out HU.out (HT.out.below HB2.out)).mono ?_
    rw [HA.out, HK.out]
    rintro e w3 ⟨Z3, z3, rfl, ho, hb⟩
    have HB3 := Lib.hid (blT HB2.out hb)
    have HRY3 : Hid (Row w3 Z3 (nums .u64 Y)) := Lib.hid ho.row
    clear ho hb hb0 hr0
  · skip
    go_wp2_with fail
    refine (HFW.out _ (HRX.out.below HB3.out) (HT.out.below HB3.out)).mono ?_
    rintro e w4 ⟨Z4, z4, rfl, ho, hb⟩
    have HB4 := Lib.hid (blT HB3.out hb)
    have HRY4 := Lib.hid (HRY3.out.below hb)
    have HRZ4 : Hid (Row w4 Z4 (nums .u64 Z)) := Lib.hid ho.row
    clear ho hb HRY3
    go_wp2_with fail
    have hb0 : Below w4.heap.size w4 (w4.alloc (.cells #[.int .i64 1, .bool other, .int .i64 (m : Int), .bool neg, .int .i64 1, .bool false] 64)) := (Below.refl _ _).alloc (Nat.le_refl _) _
    have hr0 : Row (w4.alloc (.cells #[.int .i64 1, .bool other, .int .i64 (m : Int), .bool neg, .int .i64 1, .bool false] 64)) (some ⟨w4.heap.size, 0, none⟩) (axR [(1, other), ((m : Int), neg), (1, false)]) := row_new w4 [.int .i64 1, .bool other, .int .i64 (m : Int), .bool neg, .int .i64 1, .bool false] 64
    have HB7 := Lib.hid (blT HB4.out hb0)
    have HRY7 := Lib.hid (HRY4.out.below hb0)
    have HRZ7 := Lib.hid (HRZ4.out.below hb0)
    generalize (w4.alloc (.cells #[.int .i64 1, .bool other, .int .i64 (m : Int), .bool neg, .int .i64 1, .bool false] 64)) = w7 at *
    refine (do7_calls p _ _ 3 [(1, other), ((m : Int), neg), (1, false)] _ _ _ _ x _ rfl HM.out HP.out hr0 (by decide) HI3.out (HRX.out.below HB7.out) HLM.out HU.out (HT.out.below HB7.out)).mono ?_
    rw [HB.out, HK.out]
    rintro e w8 ⟨Z8, z8, rfl, ho, hb⟩
    have HB8 := Lib.hid (blT HB7.out hb)
    have HRY8 := Lib.hid (HRY7.out.below hb)
    have HRZ8 := Lib.hid (HRZ7.out.below hb)
    have HRU8 : Hid (Row w8 Z8 (nums .u64 Y)) := Lib.hid ho.row
    clear ho hb hb0 hr0 HRY7 HRZ7
    by_cases hz : m = 0
    · obtain ⟨h1, h2⟩ := H0.out hz
      have f1 : ((m : Int) == 0) = true := by simp [hz]
      rcases h2 with h2 | ⟨h2, h3⟩
      all_goals
        clear hz g0
        go_wp2
        go_ret
        exact ⟨by first | rfl | (simp; done), HB8.out⟩
    · obtain ⟨h1, h2⟩ := H1.out hz
      have f1 : ((m : Int) == 0) = false := by simp [hz]
      subst h1
      subst h2
      have HKJ : Hid (Z.length = k) := Lib.hid HK.out
      obtain rfl : j = k := HJ.out.symm.trans HK.out
      clear hz g0
      go_wp2_with fail
      refine (same_n _ _ _ _ j j Z Z _ HKJ.out HKJ.out HRY8.out HKL.out HRZ8.out).mono ?_
      rw [show decide (Z = Z) = true from decide_eq_true rfl]
      rintro e w9 ⟨rfl, ⟨q9, rfl⟩⟩
      go_wp2_with fail
      refine (same_n _ _ _ _ j j Z Z _ HKJ.out HKJ.out (HRU8.out.drewN q9) HKL.out (HRY8.out.drewN q9)).mono ?_
      rw [show decide (Z = Z) = true from decide_eq_true rfl]
      rintro e w10 ⟨rfl, ⟨q10, rfl⟩⟩
      go_wp2
      go_ret
      exact ⟨by first | rfl | (simp; done), below_drewN HB8.out _⟩
  · skip
    go_wp2_with fail
    refine (fwd6_calls p _ _ _ x neg _ HM.out HP.out (HRX.out.below HB3.out) HLM.out HU.out (HT.out.below HB3.out)).mono ?_
    generalize trS p neg false x = tz
    rintro e w4 ⟨Z4, z4, rfl, ho, hb⟩
    have HB4 := Lib.hid (blT HB3.out hb)
    have HRY4 := Lib.hid (HRY3.out.below hb)
    clear ho hb HRY3
    go_wp2_with fail
    refine (HFW.out _ (HRX.out.below HB4.out) (HT.out.below HB4.out)).mono ?_
    rintro e w5 ⟨Z5, z5, rfl, ho, hb⟩
    have HB5 := Lib.hid (blT HB4.out hb)
    have HRY5 := Lib.hid (HRY4.out.below hb)
    have HRZ5 : Hid (Row w5 Z5 (nums .u64 Z)) := Lib.hid ho.row
    clear ho hb HRY4
    go_wp2_with fail
    have hb0 : Below w5.heap.size w5 (w5.alloc (.cells #[.int .i64 1, .bool other, .int .i64 (m : Int), .bool neg, .int .i64 1, .bool false] 64)) := (Below.refl _ _).alloc (Nat.le_refl _) _
    have hr0 : Row (w5.alloc (.cells #[.int .i64 1, .bool other, .int .i64 (m : Int), .bool neg, .int .i64 1, .bool false] 64)) (some ⟨w5.heap.size, 0, none⟩) (axR [(1, other), ((m : Int), neg), (1, false)]) := row_new w5 [.int .i64 1, .bool other, .int .i64 (m : Int), .bool neg, .int .i64 1, .bool false] 64
    have HB7 := Lib.hid (blT HB5.out hb0)
    have HRY7 := Lib.hid (HRY5.out.below hb0)
    have HRZ7 := Lib.hid (HRZ5.out.below hb0)
    generalize (w5.alloc (.cells #[.int .i64 1, .bool other, .int .i64 (m : Int), .bool neg, .int .i64 1, .bool false] 64)) = w7 at *
    refine (do7_calls p _ _ 3 [(1, other), ((m : Int), neg), (1, false)] _ _ _ _ x _ rfl HM.out HP.out hr0 (by decide) HI3.out (HRX.out.below HB7.out) HLM.out HU.out (HT.out.below HB7.out)).mono ?_
    rw [HB.out, HK.out]
    rintro e w8 ⟨Z8, z8, rfl, ho, hb⟩
    have HB8 := Lib.hid (blT HB7.out hb)
    have HRY8 := Lib.hid (HRY7.out.below hb)
    have HRZ8 := Lib.hid (HRZ7.out.below hb)
    have HRU8 : Hid (Row w8 Z8 (nums .u64 Y)) := Lib.hid ho.row
    clear ho hb hb0 hr0 HRY7 HRZ7
    by_cases hz : m = 0
    · obtain ⟨h1, h2⟩ := H0.out hz
      have f1 : ((m : Int) == 0) = true := by simp [hz]
      rcases h2 with h2 | ⟨h2, h3⟩
      all_goals
        clear hz g0
        go_wp2
        go_ret
        exact ⟨by first | rfl | (simp; done), HB8.out⟩
    · obtain ⟨h1, h2⟩ := H1.out hz
      have f1 : ((m : Int) == 0) = false := by simp [hz]
      subst h1
      subst h2
      have HKJ : Hid (Z.length = k) := Lib.hid HK.out
      obtain rfl : j = k := HJ.out.symm.trans HK.out
      clear hz g0
      go_wp2_with fail
      refine (same_n _ _ _ _ j j Z Z _ HKJ.out HKJ.out HRY8.out HKL.out HRZ8.out).mono ?_
      rw [show decide (Z = Z) = true from decide_eq_true rfl]
      rintro e w9 ⟨rfl, ⟨q9, rfl⟩⟩
      go_wp2_with fail
      refine (same_n _ _ _ _ j j Z Z _ HKJ.out HKJ.out (HRU8.out.drewN q9) HKL.out (HRY8.out.drewN q9)).mono ?_
      rw [show decide (Z = Z) = true from decide_eq_true rfl]
      rintro e w10 ⟨rfl, ⟨q10, rfl⟩⟩
      go_wp2
      go_ret
      exact ⟨by first | rfl | (simp; done), below_drewN HB8.out _⟩
end Go.Proofs.YtnlmmgcjhedjkaaDoor.P
