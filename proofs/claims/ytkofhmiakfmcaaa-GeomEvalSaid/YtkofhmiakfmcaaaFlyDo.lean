/- The contract of package fly's Do. Conditions: words of their kinds; the slice reads as a list. -/
import Derived.Test.YtkofhmiakfmcaaaFlyFour
import Derived.Test.YtkofhmiakfmcaaaFlyFive
import Derived.Laws.EntriesVeiled
namespace Go.Proofs.Ytkofhmiakfmcaaa.P
open Go.RowKit
set_option linter.unusedVariables false
set_option linter.unusedSimpArgs false
def doS (p : Int) (inv : Bool) (x : List Int) : List Int × Int :=
  if (ptsS p x.length inv).2 = 0 then (if inS p x = true then (doL p (turnS p x.length inv) x, 0) else ([], 7)) else ([], (ptsS p x.length inv).2)
theorem ptsS_ok {p r : Int} {inv : Bool} (h : (ptsS p r inv).2 = 0) : ∃ N : Nat, r = (N : Int) ∧ 2 ≤ N ∧ N ≤ 5 ∧ Turn p (turnS p r inv) (turnS p r (!inv)) N ∧ U64 (turnS p r inv) ∧ ptsS p r inv = ((List.range N).map (powS p (turnS p r inv)), 0) := by
  unfold ptsS at h ⊢
  by_cases hk : knownS p = true
  · rw [if_pos hk] at h ⊢
    by_cases hr : 2 ≤ r ∧ r ≤ 5
    · rw [if_pos hr] at h ⊢
      by_cases ho : (rootS p r).2 = 0
      · rw [if_pos ho]
        obtain ⟨N, rfl, hT, hU⟩ := turnS_turn inv ho
        exact ⟨N, rfl, by omega, by omega, hT, hU, by rw [Int.toNat_natCast]⟩
      · rw [if_neg ho] at h; exact absurd h (by decide)
    · rw [if_neg hr] at h; exact absurd h (by decide)
  · rw [if_neg hk] at h; exact absurd h (by decide)
theorem Turn.pow1 {p a b : Int} {n : Nat} (h : Turn p a b n) : powS p a 1 = a := by rw [powS_one, h.ra]
set_option maxRecDepth 100000 in
set_option maxHeartbeats 4000000 in
theorem do_two (p : Int) (inv : Bool) (x : Addr) (c : Nat) (x0 x1 : Int) (w : World) (hp : U64 p) (hr : Row w (some x) (nums .u64 [x0, x1])) (h0 : U64 x0) (h1 : U64 x1) (ho : (ptsS p 2 inv).2 = 0) (hin : inS p [x0, x1] = true) :
    Calls Try.prog 84 #[.int .u64 p, .bool inv, .slice (some x) 2 c] w fun e w' => ∃ g b,
      e = .returned (.tuple #[.slice (some ⟨g, 0, none⟩) 2 b, .int .i64 0]) ∧ Own w' w.heap.size 37 1 (some ⟨g, 0, none⟩) 2 b (nums .u64 (doL p (turnS p 2 inv) [x0, x1])) ∧ Below w.heap.size w w' := by
  obtain ⟨N, hN, _, _, hT, hU, hpts⟩ := ptsS_ok ho
  obtain rfl : N = 2 := by omega
  have HP := Lib.hid hp
  have HR := Lib.hid hr
  have HU : Hid (U64 (turnS p 2 inv)) := Lib.hid hU
  have H0 := Lib.hid h0
  have H1 := Lib.hid h1
  have HIN := Lib.hid hin
  have HPT : Hid (ptsS p 2 inv = ((List.range 2).map (powS p (turnS p 2 inv)), 0)) := Lib.hid hpts
  have HD := Lib.hid (two_is (x0 := x0) (x1 := x1) hT)
  clear hp hr h0 h1 ho hin hN hpts hT hU
  go_enter Try.func84, Try.ntmps84
  go_wp2_with fail
  refine (points_calls p 2 inv _ HP.out (by decide)).mono ?_
  rw [HPT.out]
  rintro e w2 ⟨Y, cy, rfl, ho2, hb2⟩
  have HR2 := Lib.hid (HR.out.below hb2)
  have HB2 := Lib.hid hb2
  clear ho2 hb2
  go_wp2_with fail
  refine (in_calls p _ _ [x0, x1] _ HR2.out (by simp)).mono ?_
  rw [HIN.out]
  rintro e w3 ⟨rfl, rfl⟩
  go_wp2_with fail
  refine (two_calls p _ 2 cy x c x0 x1 _ HP.out (HR2.out.alloc _) H0.out H1.out).mono ?_
  rintro e w4 ⟨g, b, rfl, ho5, hb5⟩
  have HB4 : Hid (Below w.heap.size w w4) := Lib.hid (blC (blA HB2.out _) hb5)
  rw [HD.out] at ho5; have HO5 := Lib.hid (ho5.mono (blA HB2.out _).size)
  clear ho5 hb5
  go_wp2
  go_ret2
  exact ⟨g, b, rfl, HO5.out, HB4.out⟩
set_option maxRecDepth 100000 in
set_option maxHeartbeats 4000000 in
theorem do_three (p : Int) (inv : Bool) (x : Addr) (c : Nat) (x0 x1 x2 : Int) (w : World) (hp : U64 p) (hr : Row w (some x) (nums .u64 [x0, x1, x2])) (h0 : U64 x0) (h1 : U64 x1) (h2 : U64 x2) (ho : (ptsS p 3 inv).2 = 0) (hin : inS p [x0, x1, x2] = true) :
    Calls Try.prog 84 #[.int .u64 p, .bool inv, .slice (some x) 3 c] w fun e w' => ∃ g b,
      e = .returned (.tuple #[.slice (some ⟨g, 0, none⟩) 3 b, .int .i64 0]) ∧ Own w' w.heap.size 37 1 (some ⟨g, 0, none⟩) 3 b (nums .u64 (doL p (turnS p 3 inv) [x0, x1, x2])) ∧ Below w.heap.size w w' := by
  obtain ⟨N, hN, _, _, hT, hU, hpts⟩ := ptsS_ok ho
  obtain rfl : N = 3 := by omega
  have HP := Lib.hid hp
  have HR := Lib.hid hr
  have HU : Hid (U64 (turnS p 3 inv)) := Lib.hid hU
  have H0 := Lib.hid h0
  have H1 := Lib.hid h1
  have H2 := Lib.hid h2
  have HIN := Lib.hid hin
  have HPT : Hid (ptsS p 3 inv = ((List.range 3).map (powS p (turnS p 3 inv)), 0)) := Lib.hid hpts
  have HYL : Hid ((List.range 3).map (powS p (turnS p 3 inv)) = [powS p (turnS p 3 inv) 0, turnS p 3 inv, powS p (turnS p 3 inv) 2]) := Lib.hid (by
    show [powS p (turnS p 3 inv) 0, powS p (turnS p 3 inv) 1, powS p (turnS p 3 inv) 2] = _
    rw [hT.pow1])
  have HD := Lib.hid (three_is (x0 := x0) (x1 := x1) (x2 := x2) hT)
  clear hp hr h0 h1 h2 ho hin hN hpts hT hU
  go_enter Try.func84, Try.ntmps84
  go_wp2_with fail
  refine (points_calls p 3 inv _ HP.out (by decide)).mono ?_
  rw [HPT.out]
  rintro e w2 ⟨Y, cy, rfl, ho2, hb2⟩
  have HR2 := Lib.hid (HR.out.below hb2)
  have HB2 := Lib.hid hb2
  have hY2 : Row w2 Y (nums .u64 [powS p (turnS p 3 inv) 0, turnS p 3 inv, powS p (turnS p 3 inv) 2]) := by
    have h1 := ho2.row
    rw [HYL.out] at h1
    exact h1
  obtain ⟨y, rfl⟩ := hY2.some_of (by simp [nums])
  have HY2 := Lib.hid hY2
  clear hY2
  clear ho2 hb2
  go_wp2_with fail
  refine (in_calls p _ _ [x0, x1, x2] _ HR2.out (by simp)).mono ?_
  rw [HIN.out]
  rintro e w3 ⟨rfl, rfl⟩
  go_wp2_with fail
  refine (three_calls p y cy x c (powS p (turnS p 3 inv) 0) (turnS p 3 inv) (powS p (turnS p 3 inv) 2) x0 x1 x2 _ HP.out (HY2.out.alloc _) (HR2.out.alloc _) HU.out H0.out H1.out H2.out).mono ?_
  rintro e w4 ⟨g, b, rfl, ho5, hb5⟩
  have HB4 : Hid (Below w.heap.size w w4) := Lib.hid (blC (blA HB2.out _) hb5)
  rw [HD.out] at ho5; have HO5 := Lib.hid (ho5.mono (blA HB2.out _).size)
  clear ho5 hb5
  go_wp2
  go_ret2
  exact ⟨g, b, rfl, HO5.out, HB4.out⟩
set_option maxRecDepth 100000 in
set_option maxHeartbeats 4000000 in
theorem do_four (p : Int) (inv : Bool) (x : Addr) (c : Nat) (x0 x1 x2 x3 : Int) (w : World) (hp : U64 p) (hr : Row w (some x) (nums .u64 [x0, x1, x2, x3])) (h0 : U64 x0) (h1 : U64 x1) (h2 : U64 x2) (h3 : U64 x3) (ho : (ptsS p 4 inv).2 = 0) (hin : inS p [x0, x1, x2, x3] = true) :
    Calls Try.prog 84 #[.int .u64 p, .bool inv, .slice (some x) 4 c] w fun e w' => ∃ g b,
      e = .returned (.tuple #[.slice (some ⟨g, 0, none⟩) 4 b, .int .i64 0]) ∧ Own w' w.heap.size 37 1 (some ⟨g, 0, none⟩) 4 b (nums .u64 (doL p (turnS p 4 inv) [x0, x1, x2, x3])) ∧ Below w.heap.size w w' := by
  obtain ⟨N, hN, _, _, hT, hU, hpts⟩ := ptsS_ok ho
  obtain rfl : N = 4 := by omega
  have HP := Lib.hid hp
  have HR := Lib.hid hr
  have HU : Hid (U64 (turnS p 4 inv)) := Lib.hid hU
  have H0 := Lib.hid h0
  have H1 := Lib.hid h1
  have H2 := Lib.hid h2
  have H3 := Lib.hid h3
  have HIN := Lib.hid hin
  have HPT : Hid (ptsS p 4 inv = ((List.range 4).map (powS p (turnS p 4 inv)), 0)) := Lib.hid hpts
  have HYL : Hid ((List.range 4).map (powS p (turnS p 4 inv)) = [powS p (turnS p 4 inv) 0, turnS p 4 inv, powS p (turnS p 4 inv) 2, powS p (turnS p 4 inv) 3]) := Lib.hid (by
    show [powS p (turnS p 4 inv) 0, powS p (turnS p 4 inv) 1, powS p (turnS p 4 inv) 2, powS p (turnS p 4 inv) 3] = _
    rw [hT.pow1])
  have HD := Lib.hid (four_is (x0 := x0) (x1 := x1) (x2 := x2) (x3 := x3) hT)
  clear hp hr h0 h1 h2 h3 ho hin hN hpts hT hU
  go_enter Try.func84, Try.ntmps84
  go_wp2_with fail
  refine (points_calls p 4 inv _ HP.out (by decide)).mono ?_
  rw [HPT.out]
  rintro e w2 ⟨Y, cy, rfl, ho2, hb2⟩
  have HR2 := Lib.hid (HR.out.below hb2)
  have HB2 := Lib.hid hb2
  have hY2 : Row w2 Y (nums .u64 [powS p (turnS p 4 inv) 0, turnS p 4 inv, powS p (turnS p 4 inv) 2, powS p (turnS p 4 inv) 3]) := by
    have h1 := ho2.row
    rw [HYL.out] at h1
    exact h1
  obtain ⟨y, rfl⟩ := hY2.some_of (by simp [nums])
  have HY2 := Lib.hid hY2
  clear hY2
  clear ho2 hb2
  go_wp2_with fail
  refine (in_calls p _ _ [x0, x1, x2, x3] _ HR2.out (by simp)).mono ?_
  rw [HIN.out]
  rintro e w3 ⟨rfl, rfl⟩
  go_wp2_with fail
  refine (four_calls p y cy x c (powS p (turnS p 4 inv) 0) (turnS p 4 inv) (powS p (turnS p 4 inv) 2) (powS p (turnS p 4 inv) 3) x0 x1 x2 x3 _ HP.out (HY2.out.alloc _) (HR2.out.alloc _) HU.out H0.out H1.out H2.out H3.out).mono ?_
  rintro e w4 ⟨g, b, rfl, ho5, hb5⟩
  have HB4 : Hid (Below w.heap.size w w4) := Lib.hid (blC (blA HB2.out _) hb5)
  rw [HD.out] at ho5; have HO5 := Lib.hid (ho5.mono (blA HB2.out _).size)
  clear ho5 hb5
  go_wp2
  go_ret2
  exact ⟨g, b, rfl, HO5.out, HB4.out⟩
set_option maxRecDepth 100000 in
set_option maxHeartbeats 4000000 in
theorem do_five (p : Int) (inv : Bool) (x : Addr) (c : Nat) (x0 x1 x2 x3 x4 : Int) (w : World) (hp : U64 p) (hr : Row w (some x) (nums .u64 [x0, x1, x2, x3, x4])) (h0 : U64 x0) (h1 : U64 x1) (h2 : U64 x2) (h3 : U64 x3) (h4 : U64 x4) (ho : (ptsS p 5 inv).2 = 0) (hin : inS p [x0, x1, x2, x3, x4] = true) :
    Calls Try.prog 84 #[.int .u64 p, .bool inv, .slice (some x) 5 c] w fun e w' => ∃ g b,
      e = .returned (.tuple #[.slice (some ⟨g, 0, none⟩) 5 b, .int .i64 0]) ∧ Own w' w.heap.size 37 1 (some ⟨g, 0, none⟩) 5 b (nums .u64 (doL p (turnS p 5 inv) [x0, x1, x2, x3, x4])) ∧ Below w.heap.size w w' := by
  obtain ⟨N, hN, _, _, hT, hU, hpts⟩ := ptsS_ok ho
  obtain rfl : N = 5 := by omega
  have HP := Lib.hid hp
  have HR := Lib.hid hr
  have HU : Hid (U64 (turnS p 5 inv)) := Lib.hid hU
  have H0 := Lib.hid h0
  have H1 := Lib.hid h1
  have H2 := Lib.hid h2
  have H3 := Lib.hid h3
  have H4 := Lib.hid h4
  have HIN := Lib.hid hin
  have HPT : Hid (ptsS p 5 inv = ((List.range 5).map (powS p (turnS p 5 inv)), 0)) := Lib.hid hpts
  have HTU := Lib.hid hT
  clear hp hr h0 h1 h2 h3 h4 ho hin hN hpts hT hU
  go_enter Try.func84, Try.ntmps84
  go_wp2_with fail
  refine (points_calls p 5 inv _ HP.out (by decide)).mono ?_
  rw [HPT.out]
  rintro e w2 ⟨Y, cy, rfl, ho2, hb2⟩
  have HR2 := Lib.hid (HR.out.below hb2)
  have HB2 := Lib.hid hb2
  have hY2 : Row w2 Y (nums .u64 ((List.range 5).map (powS p (turnS p 5 inv)))) := by
    have h1 := ho2.row
    exact h1
  obtain ⟨y, rfl⟩ := hY2.some_of (by simp [nums])
  have HY2 := Lib.hid hY2
  clear hY2
  clear ho2 hb2
  go_wp2_with fail
  refine (in_calls p _ _ [x0, x1, x2, x3, x4] _ HR2.out (by simp)).mono ?_
  rw [HIN.out]
  rintro e w3 ⟨rfl, rfl⟩
  go_wp2_with fail
  refine (five_calls p (turnS p 5 inv) (turnS p 5 (!inv)) y cy x c [x0, x1, x2, x3, x4] _ HP.out HTU.out (HY2.out.alloc _) (HR2.out.alloc _) rfl (by simp [H0.out, H1.out, H2.out, H3.out, H4.out])).mono ?_
  rintro e w4 ⟨g, b, rfl, ho5, hb5⟩
  have HB4 : Hid (Below w.heap.size w w4) := Lib.hid (blC (blA HB2.out _) hb5)
  have HO5 := Lib.hid (ho5.mono (blA HB2.out _).size)
  clear ho5 hb5
  go_wp2
  go_ret2
  exact ⟨g, b, rfl, HO5.out, HB4.out⟩
theorem list2 {l : List Int} (h : l.length = 2) : ∃ x0 x1, l = [x0, x1] := by
  match l, h with
  | [x0, x1], _ => exact ⟨x0, x1, rfl⟩
theorem list3 {l : List Int} (h : l.length = 3) : ∃ x0 x1 x2, l = [x0, x1, x2] := by
  match l, h with
  | [x0, x1, x2], _ => exact ⟨x0, x1, x2, rfl⟩
theorem list4 {l : List Int} (h : l.length = 4) : ∃ x0 x1 x2 x3, l = [x0, x1, x2, x3] := by
  match l, h with
  | [x0, x1, x2, x3], _ => exact ⟨x0, x1, x2, x3, rfl⟩
theorem list5 {l : List Int} (h : l.length = 5) : ∃ x0 x1 x2 x3 x4, l = [x0, x1, x2, x3, x4] := by
  match l, h with
  | [x0, x1, x2, x3, x4], _ => exact ⟨x0, x1, x2, x3, x4, rfl⟩
theorem doS_len (p : Int) (inv : Bool) (l : List Int) (h : (doS p inv l).2 = 0) : (ptsS p l.length inv).2 = 0 ∧ inS p l = true ∧ doS p inv l = (doL p (turnS p l.length inv) l, 0) := by
  unfold doS at h ⊢
  by_cases h1 : (ptsS p l.length inv).2 = 0
  · rw [if_pos h1] at h ⊢
    by_cases h2 : inS p l = true
    · rw [if_pos h2]; exact ⟨h1, h2, rfl⟩
    · rw [if_neg h2] at h; exact absurd h (by decide)
  · rw [if_neg h1] at h; exact absurd h h1
theorem doS_no (p : Int) (inv : Bool) (l : List Int) (h : (doS p inv l).2 ≠ 0) : (doS p inv l).1 = [] := by
  unfold doS at h ⊢
  split
  · rename_i h1
    rw [if_pos h1] at h
    split
    · rename_i h2
      rw [if_pos h2] at h; exact absurd rfl h
    · rfl
  · rfl
theorem do_calls (p : Int) (inv : Bool) (A : Option Addr) (c : Nat) (l : List Int) (w : World) (hp : U64 p) (hr : Row w A (nums .u64 l)) (hl : l.length ≤ 9223372036854775807) (hw : ∀ d ∈ l, U64 d) :
    Calls Try.prog 84 #[.int .u64 p, .bool inv, .slice A l.length c] w fun e w' => ∃ B b,
      e = .returned (.tuple #[.slice B (doS p inv l).1.length b, .int .i64 (doS p inv l).2]) ∧ Own w' w.heap.size 37 1 B (doS p inv l).1.length b (nums .u64 (doS p inv l).1) ∧ Below w.heap.size w w' := by
  by_cases hd : (doS p inv l).2 = 0
  · obtain ⟨ho, hin, e⟩ := doS_len p inv l hd
    obtain ⟨N, hN, h2, h5, hT, hU, _⟩ := ptsS_ok ho
    have hN2 : l.length = N := by omega
    obtain ⟨x, rfl⟩ := hr.some_of (by intro h0; have := nums_length .u64 l; rw [h0] at this; simp at this; omega)
    rw [e, show ((doL p (turnS p l.length inv) l, (0 : Int)).1) = doL p (turnS p l.length inv) l from rfl, doL_length]
    rw [hN2] at ho hN ⊢
    rcases (show N = 2 ∨ N = 3 ∨ N = 4 ∨ N = 5 by omega) with rfl | rfl | rfl | rfl
    · obtain ⟨x0, x1, rfl⟩ := list2 hN2
      clear hl
      exact (do_two p inv x c x0 x1 w hp hr (hw _ (by simp)) (hw _ (by simp)) ho hin).mono fun _ _ ⟨g, b, he, h1, h3⟩ => ⟨_, b, he, h1, h3⟩
    · obtain ⟨x0, x1, x2, rfl⟩ := list3 hN2
      clear hl
      exact (do_three p inv x c x0 x1 x2 w hp hr (hw _ (by simp)) (hw _ (by simp)) (hw _ (by simp)) ho hin).mono fun _ _ ⟨g, b, he, h1, h3⟩ => ⟨_, b, he, h1, h3⟩
    · obtain ⟨x0, x1, x2, x3, rfl⟩ := list4 hN2
      clear hl
      exact (do_four p inv x c x0 x1 x2 x3 w hp hr (hw _ (by simp)) (hw _ (by simp)) (hw _ (by simp)) (hw _ (by simp)) ho hin).mono fun _ _ ⟨g, b, he, h1, h3⟩ => ⟨_, b, he, h1, h3⟩
    · obtain ⟨x0, x1, x2, x3, x4, rfl⟩ := list5 hN2
      clear hl
      exact (do_five p inv x c x0 x1 x2 x3 x4 w hp hr (hw _ (by simp)) (hw _ (by simp)) (hw _ (by simp)) (hw _ (by simp)) (hw _ (by simp)) ho hin).mono fun _ _ ⟨g, b, he, h1, h3⟩ => ⟨_, b, he, h1, h3⟩
  · have HN := Lib.hid (doS_no p inv l hd)
    have HP := Lib.hid hp
    have HR := Lib.hid hr
    have HI : Hid (i64 (l.length : Int)) := Lib.hid ⟨by omega, by omega⟩
    have HL := Lib.hid hl
    rw [HN.out]
    by_cases ho : (ptsS p l.length inv).2 = 0
    · have hin : inS p l = false := by
        cases hh : inS p l with
        | false => rfl
        | true => exfalso; apply hd; rw [doS, if_pos ho, if_pos hh]
      have HE : Hid ((doS p inv l).2 = 7) := Lib.hid (by rw [doS, if_pos ho, hin]; rfl)
      rw [HE.out]
      have HIN := Lib.hid hin
      have HPT : Hid ((ptsS p l.length inv).2 = 0) := Lib.hid ho
      clear hp hr hw hd ho hin
      go_enter Try.func84, Try.ntmps84
      go_wp2_with fail
      refine (points_calls p l.length inv _ HP.out HI.out).mono ?_
      rw [HPT.out]
      rintro e w2 ⟨Y, cy, rfl, ho2, hb2⟩
      have HR2 := Lib.hid (HR.out.below hb2)
      have HB2 := Lib.hid hb2
      clear ho2 hb2
      go_wp2_with fail
      refine (in_calls p _ _ l _ HR2.out HL.out).mono ?_
      rw [HIN.out]
      rintro e w3 ⟨rfl, rfl⟩
      go_wp2
      go_ret2
      exact ⟨none, 0, rfl, Own.nil _ _ _ _, HB2.out⟩
    · have HE : Hid ((doS p inv l).2 = (ptsS p l.length inv).2) := Lib.hid (by rw [doS, if_neg ho])
      rw [HE.out]
      have t0 : ((ptsS p l.length inv).2 != 0) = true := by simpa using ho
      clear hp hr hw hd ho
      go_enter Try.func84, Try.ntmps84
      go_wp2_with fail
      refine (points_calls p l.length inv _ HP.out HI.out).mono ?_
      rintro e w2 ⟨Y, cy, rfl, ho2, hb2⟩
      have HB2 := Lib.hid hb2
      clear ho2 hb2
      go_wp2
      go_ret2
      exact ⟨none, 0, rfl, Own.nil _ _ _ _, HB2.out⟩
end Go.Proofs.Ytkofhmiakfmcaaa.P
