/- The law ShapeOne, walked. Conditions: words of their kinds; the slice reads as a list. -/
import Derived.Test.YtkofhmiakfmcaaaStep2
import Derived.Test.YtkofhmiakfmcaaaOneP
import Derived.Test.YtkofhmiakfmcaaaShape4
import Derived.Test.YtkofhmiakfmcaaaSame
import Derived.Test.YtkofhmiakfmcaaaShapeP
import Derived.Test.YtkofhmiakfmcaaaFlyTwo
namespace Go.Proofs.Ytkofhmiakfmcaaa.P
open Go.RowKit
set_option linter.unusedVariables false
set_option linter.unusedSimpArgs false
theorem coord_n (A : Option Addr) (n c : Nat) (l : List Int) (i : Int) (w : World) (hn : l.length = n) (hr : Row w A (nums .i64 l)) (hl : n ≤ 9223372036854775807) (hw : ∀ d ∈ l, i64 d) (hi : i64 i) :
    Calls Try.prog 34 #[.slice A n c, .int .i64 i] w fun e w' => ∃ B b,
      e = .returned (.tuple #[.slice B (coordS l i).1.length b, .int .i64 (coordS l i).2]) ∧ Own w' w.heap.size 3 1 B (coordS l i).1.length b (nums .i64 (coordS l i).1) ∧ Below w.heap.size w w' := by
  subst hn; exact coord_calls A c l i w hr hl hw hi
theorem coord_no (A : Option Addr) (n c : Nat) (l : List Int) (i t : Int) (w : World) (h : coordS l i = ([], t)) (hn : l.length = n) (hr : Row w A (nums .i64 l)) (hl : n ≤ 9223372036854775807) (hw : ∀ d ∈ l, i64 d) (hi : i64 i) :
    Calls Try.prog 34 #[.slice A n c, .int .i64 i] w fun e w' => ∃ B b, e = .returned (.tuple #[.slice B 0 b, .int .i64 t]) ∧ Below w.heap.size w w' := by
  refine (coord_n A n c l i w hn hr hl hw hi).mono ?_
  rw [h]
  rintro e w' ⟨B, b, h1, _, h3⟩
  exact ⟨B, b, h1, h3⟩
theorem coord_yes (A : Option Addr) (n c m : Nat) (l z : List Int) (i : Int) (w : World) (h : coordS l i = (z, 0)) (hm : z.length = m) (hn : l.length = n) (hr : Row w A (nums .i64 l)) (hl : n ≤ 9223372036854775807) (hw : ∀ d ∈ l, i64 d) (hi : i64 i) :
    Calls Try.prog 34 #[.slice A n c, .int .i64 i] w fun e w' => ∃ B b, e = .returned (.tuple #[.slice B m b, .int .i64 0]) ∧ Own w' w.heap.size 3 1 B m b (nums .i64 z) ∧ Below w.heap.size w w' := by
  refine (coord_n A n c l i w hn hr hl hw hi).mono ?_
  rw [h]
  rintro e w' ⟨B, b, h1, h2, h3⟩
  exact ⟨B, b, by rw [h1, hm], by rw [← hm]; exact h2, h3⟩
theorem inner_n (A : Option Addr) (n c : Nat) (l : List Int) (a : Int) (w : World) (hn : l.length = n) (hr : Row w A (nums .i64 l)) (hl : n ≤ 9223372036854775807) (hc : n ≤ c) (hw : ∀ d ∈ l, i64 d) (ha : i64 a) :
    Calls Try.prog 32 #[.slice A n c, .int .i64 a] w fun e w' => e = .returned (.tuple #[.int .i64 (innerS l a).1, .int .i64 (innerS l a).2]) ∧ w' = w := by
  subst hn; exact inner_calls A c l a w hr hl hc hw ha
theorem coordS_no {l : List Int} {i : Int} (h : (coordS l i).2 ≠ 0) : coordS l i = ([], (coordS l i).2) := by
  unfold coordS at h ⊢
  split
  · split
    · rename_i h1 h2; rw [if_pos h1, if_pos h2] at h; exact absurd rfl h
    · rfl
  · rfl
theorem coordS_yes {l : List Int} {i : Int} (h : (coordS l i).2 = 0) : coordS l i = (coordL l i, 0) ∧ Dims l := by
  unfold coordS at h ⊢
  split
  · rename_i h1
    split
    · exact ⟨rfl, h1⟩
    · rename_i h2; rw [if_pos h1, if_neg h2] at h; exact absurd h (by decide)
  · rename_i h1; rw [if_neg h1] at h; exact absurd h (by decide)
theorem take_row {w : World} {x : Addr} {k : IntKind} {l : List Int} (h : Row w (some x) (nums k l)) (n : Nat) : Row w (some x) (nums k (l.take n)) := by
  right
  refine ⟨x, rfl, fun i u hi => ?_⟩
  refine h.cell ?_
  unfold nums at hi ⊢
  rw [List.map_take, List.getElem?_take] at hi
  split at hi
  · exact hi
  · cases hi
set_option maxRecDepth 100000 in
set_option maxHeartbeats 4000000 in
theorem shapeOne_walk (A : Option Addr) (ca : Nat) (l : List Int) (at_ i : Int) (w : World)
    (hr : Row w A (nums .i64 l)) (hy : l.length * 8 ≤ 140737488351232) (hcap : l.length ≤ ca) (hw : ∀ x ∈ l, (Lit.int .i64 x).wf = true) (ha : 0 ≤ at_ ∧ at_ < 256) (hi : i64 i) :
    Calls Try.prog 4 #[.slice A l.length ca, .int .u8 at_, .int .i64 i] w fun e w' => e = .returned (.bool true) ∧ Below w.heap.size w w' := by
  have HR := Lib.hid hr
  have HW := Lib.hid (i64_all hw)
  have HI := Lib.hid hi
  clear hr hw hi
  obtain ⟨n, hn⟩ : ∃ n, l.length = n := ⟨_, rfl⟩
  rw [hn] at hy hcap ⊢
  have HN := Lib.hid hn
  have HL : Hid (n ≤ 9223372036854775807) := Lib.hid (by omega)
  obtain ⟨K, hK, hKn⟩ : ∃ K : Nat, at_ % ((n : Int) + 1) = K ∧ K ≤ n := ⟨(at_ % ((n : Int) + 1)).toNat, by
    have h1 := Int.emod_nonneg at_ (show ((n : Int) + 1) ≠ 0 by omega)
    have h2 := Int.emod_lt_of_pos at_ (show 0 < ((n : Int) + 1) by omega)
    constructor <;> omega⟩
  have hK2 : at_.tmod ((n : Int) + 1) = K := by rw [Int.tmod_eq_emod_of_nonneg ha.1]; exact hK
  obtain ⟨a0, a1⟩ := ha
  go_enter Try.func4, Try.ntmps4
  go_wp2_with fail
  refine (live05_calls _).mono ?_
  rintro e w1 ⟨rfl, hb1⟩
  have HB1 : Hid (Below w.heap.size w w1) := Lib.hid hb1
  have HR1 := Lib.hid (HR.out.below hb1)
  clear hb1 hn
  by_cases g0 : 3 < n
  · have f0 : decide (3 < (n : Int)) = true := by simp; omega
    clear g0
    go_wp2
    go_ret
    exact ⟨rfl, HB1.out⟩
  have f0 : decide (3 < (n : Int)) = false := by simp; omega
  by_cases g1 : n = 0
  · subst g1
    go_wp2
    go_ret
    exact ⟨rfl, HB1.out⟩
  have f1 : ((n : Int) == 0) = false := by simpa using g1
  obtain ⟨x, rfl⟩ := HR1.out.some_of (by intro h0; have h1 := nums_length .i64 l; rw [h0, HN.out] at h1; simp at h1; omega)
  have HT : Hid (Row w1 (some x) (nums .i64 (l.take K))) := Lib.hid (take_row HR1.out K)
  have HD : Hid (Row w1 (some (x.add K)) (nums .i64 (l.drop K))) := Lib.hid (HR1.out.drop K)
  have HTL : Hid ((l.take K).length = K) := Lib.hid (by have := HN.out; simp; omega)
  have HDL : Hid ((l.drop K).length = n - K) := Lib.hid (by have := HN.out; simp; omega)
  have hmx : Try.prog.follows .mixedOrders = true := by kernel_rfl
  have hin1 : (K : Int) ≤ (n : Int) := by omega
  have hin2 : (K : Int) ≤ (ca : Int) := by omega
  have hin3 : (0 : Int) ≤ (K : Int) := by omega
  go_wp2
  refine region_marks2 (k := 11) (S := fun _ => True) (T := fun _ => true) hmx rfl trivial (fun hS => ?_)
  refine wpAnyT_take2 (i := 0) (v := ?va0) rfl (by kernel_rfl) (by kernel_rfl) (by kernel_rfl) (by kernel_rfl) (by kernel_rfl) (fun _ _ _ h => h) hS (Or.inl ⟨by rfl, ?hya0⟩) ?resta0
  case hya0 => (intro w' hSw; (try dsimp only at hSw); go_simp; (try with_reducible rfl))
  (try simp only [Act.put, List.setIfInBounds_toArray, List.set_cons_zero, List.set_cons_succ])
  refine wpAnyT_take2 (i := 1) (v := ?va1) rfl (by kernel_rfl) (by kernel_rfl) (by kernel_rfl) (by kernel_rfl) (by kernel_rfl) (fun _ _ _ h => h) hS (Or.inl ⟨by rfl, ?hya1⟩) ?resta1
  case hya1 => (intro w' hSw; (try dsimp only at hSw); go_simp; (try with_reducible rfl))
  (try simp only [Act.put, List.setIfInBounds_toArray, List.set_cons_zero, List.set_cons_succ])
  refine wpAnyT_take2 (i := 2) (v := ?va2) rfl (by kernel_rfl) (by kernel_rfl) (by kernel_rfl) (by kernel_rfl) (by kernel_rfl) (fun _ _ _ h => h) hS (Or.inl ⟨by rfl, ?hya2⟩) ?resta2
  case hya2 => (intro w' hSw; (try dsimp only at hSw); go_simp; (try with_reducible rfl))
  (try simp only [Act.put, List.setIfInBounds_toArray, List.set_cons_zero, List.set_cons_succ])
  refine wpAnyT_take2 (i := 6) (v := ?va3) rfl (by kernel_rfl) (by kernel_rfl) (by kernel_rfl) (by kernel_rfl) (by kernel_rfl) (fun _ _ _ h => h) hS (Or.inl ⟨by rfl, ?hya3⟩) ?resta3
  case hya3 => (intro w' hSw; (try dsimp only at hSw); go_simp; (try with_reducible rfl))
  (try simp only [Act.put, List.setIfInBounds_toArray, List.set_cons_zero, List.set_cons_succ])
  refine wpAnyT_take2 (i := 7) (v := ?va4) rfl (by kernel_rfl) (by kernel_rfl) (by kernel_rfl) (by kernel_rfl) (by kernel_rfl) (fun _ _ _ h => h) hS (Or.inl ⟨by rfl, ?hya4⟩) ?resta4
  case hya4 => (intro w' hSw; (try dsimp only at hSw); go_simp; (try with_reducible rfl))
  (try simp only [Act.put, List.setIfInBounds_toArray, List.set_cons_zero, List.set_cons_succ])
  refine wpAnyT_take2 (i := 8) (v := ?va5) rfl (by kernel_rfl) (by kernel_rfl) (by kernel_rfl) (by kernel_rfl) (by kernel_rfl) (fun _ _ _ h => h) hS (Or.inl ⟨by rfl, ?hya5⟩) ?resta5
  case hya5 => (intro w' hSw; (try dsimp only at hSw); go_simp; (try with_reducible rfl))
  (try simp only [Act.put, List.setIfInBounds_toArray, List.set_cons_zero, List.set_cons_succ])
  generalize hY : (if ca = K then some x else some (x.add K)) = Y at *
  have HDY : Hid (Row w1 Y (nums .i64 (l.drop K))) := Lib.hid (by
    rw [← hY]
    by_cases e : ca = K
    · rw [if_pos e, List.drop_eq_nil_of_le (by have := HN.out; omega)]; exact Row.nil _ _
    · rw [if_neg e]; exact HD.out)
  clear hY
  have HIL : Hid ((ins l K 1).length = n + 1) := Lib.hid (by have := HN.out; rw [ins_length _ _ _ (by omega)]; omega)
  refine wpAnyT_two (i := 3) (j := 4) (by kernel_rfl) rfl rfl ?wayA ?wayB
  case' wayA =>
    intro K' hK
    refine step_append_any w1.drew Try.underlying22 info_int rfl _ _ rfl w1.heap.size 0 0 K ca none (some x) [] (l.take K) rfl rfl (Own.nil _ _ _ _) HT.out HTL.out (Nat.le_refl _) (by omega) (by omega) ?_
    intro V cV w2 hown hbel
    refine hK _ _ (fun _ => trivial) ?_
    have hown2 : Own w2 w1.heap.size 3 1 V K cV (nums .i64 (l.take K)) := by simpa using hown
    have HB2 : Hid (Below w1.heap.size w1 w2) := Lib.hid (by exact (below_drewN (Below.refl _ w1) 1).trans hbel)
    clear hK K' hown hbel
    simp only [Nat.zero_add, Act.put, List.setIfInBounds_toArray, List.set_cons_zero, List.set_cons_succ]
    refine wpAnyT_one (i := 4) (by kernel_rfl) rfl (fun K' hK => ?_)
    go_simp
    refine hK _ _ (fun _ => trivial) ?_
    clear hK K'
    (try simp only [Act.put, List.setIfInBounds_toArray, List.set_cons_zero, List.set_cons_succ])
    have HO3 : Hid (Own (w2.alloc (.cells #[.int .i64 1] 3)) w1.heap.size 3 1 V K cV (nums .i64 (l.take K))) := Lib.hid (hown2.grown ((Below.refl _ _).alloc (Nat.le_refl _) _))
    have HB3 : Hid (Below w1.heap.size w1 (w2.alloc (.cells #[.int .i64 1] 3))) := Lib.hid (HB2.out.alloc HB2.out.size _)
    have HY3 : Hid (Row (w2.alloc (.cells #[.int .i64 1] 3)) (some ⟨w2.heap.size, 0, none⟩) (nums .i64 [1])) := Lib.hid (row_new w2 [.int .i64 1] 3)
    generalize (⟨w2.heap.size, 0, none⟩ : Addr) = y1 at *
    generalize (w2.alloc (.cells #[.int .i64 1] 3)) = w3 at *
    clear hown2 HB2
  case' wayB =>
    intro K' hK
    go_simp
    refine hK _ _ (fun _ => trivial) ?_
    clear hK K'
    (try simp only [Act.put, List.setIfInBounds_toArray, List.set_cons_zero, List.set_cons_succ])
    have hBD : Below w1.heap.size w1 ((w1.alloc (.cells #[.int .i64 1] 3)).drew) := below_drewN ((Below.refl _ w1).alloc (Nat.le_refl _) _) 1
    have hYD : Row ((w1.alloc (.cells #[.int .i64 1] 3)).drew) (some ⟨w1.heap.size, 0, none⟩) (nums .i64 [1]) := (row_new w1 [.int .i64 1] 3).drewN 1
    have HTD : Hid (Row ((w1.alloc (.cells #[.int .i64 1] 3)).drew) (some x) (nums .i64 (l.take K))) := Lib.hid (HT.out.below hBD)
    generalize (⟨w1.heap.size, 0, none⟩ : Addr) = y1 at *
    generalize ((w1.alloc (.cells #[.int .i64 1] 3)).drew) = w2 at *
    refine wpAnyT_one (i := 3) (by kernel_rfl) rfl (fun K' hK => ?_)
    refine step_append_any w2 Try.underlying22 info_int rfl _ _ rfl w2.heap.size 0 0 K ca none (some x) [] (l.take K) rfl rfl (Own.nil _ _ _ _) HTD.out HTL.out (Nat.le_refl _) (by omega) (by omega) ?_
    intro V cV w3 hown hbel
    refine hK _ _ (fun _ => trivial) ?_
    have HO3 : Hid (Own w3 w1.heap.size 3 1 V K cV (nums .i64 (l.take K))) := Lib.hid (by
      have h1 : Own w3 w2.heap.size 3 1 V K cV (nums .i64 (l.take K)) := by simpa using hown
      exact h1.mono hBD.size)
    have HB3 : Hid (Below w1.heap.size w1 w3) := Lib.hid (blC hBD hbel)
    have HY3 : Hid (Row w3 (some y1) (nums .i64 [1])) := Lib.hid (hYD.below hbel)
    clear hK K' hown hbel hBD hYD HTD
    simp only [Nat.zero_add, Act.put, List.setIfInBounds_toArray, List.set_cons_zero, List.set_cons_succ]
  all_goals
    refine wpAnyT_one (i := 5) (by kernel_rfl) rfl (fun K' hK => ?_)
    refine step_append_any w3 Try.underlying22 info_int rfl _ _ rfl w1.heap.size K cV 1 1 V (some y1) (l.take K) [1] rfl rfl HO3.out HY3.out rfl HB3.out.size (by omega) (by omega) ?_
    intro V4 c4 w4 hown hbel
    refine hK _ _ (fun _ => trivial) ?_
    have HB4 : Hid (Below w1.heap.size w1 w4) := Lib.hid (HB3.out.trans hbel)
    clear hK K' hbel
    simp only [Act.put, List.setIfInBounds_toArray, List.set_cons_zero, List.set_cons_succ]
    refine wpAnyT_one (i := 9) (by kernel_rfl) rfl (fun K' hK => ?_)
    refine step_append_any w4 Try.underlying22 info_int rfl _ _ rfl w1.heap.size (K + 1) c4 (n - K) (ca - K) V4 Y (l.take K ++ [1]) (l.drop K) rfl rfl hown (HDY.out.below HB4.out) HDL.out HB4.out.size (by omega) (by omega) ?_
    intro V5 c5 w5 hown5 hbel
    refine hK _ _ (fun _ => trivial) ?_
    have HB5 : Hid (Below w.heap.size w w5) := Lib.hid (blC HB1.out (HB4.out.trans hbel))
    have HR5 : Hid (Row w5 (some x) (nums .i64 l)) := Lib.hid (HR1.out.below (HB4.out.trans hbel))
    have HX5 : Hid (Row w5 V5 (nums .i64 (ins l K 1))) := Lib.hid (by
      have h1 := hown5.row
      rw [List.append_assoc] at h1
      exact h1)
    have e1 : K + 1 + (n - K) = n + 1 := by omega
    rw [e1]
    clear hK K' hown hown5 hbel e1 HB4 HB3 HO3 HY3 HDY HT HD
    simp only [Act.put, List.setIfInBounds_toArray, List.set_cons_zero, List.set_cons_succ]
    refine wpAnyT_one (i := 10) (by kernel_rfl) rfl (fun K' hK => ?_)
    go_simp
    refine hK _ _ (fun _ => trivial) ?_
    clear hK K'
    (try simp only [Act.put, List.setIfInBounds_toArray, List.set_cons_zero, List.set_cons_succ])
    refine wpAnyT_done (by kernel_rfl) ?_ _
    refine NoPanic.normal ?_
  all_goals
    have HWI : Hid (∀ d ∈ ins l K 1, i64 d) := Lib.hid (fun d hd => by
      unfold ins at hd
      rw [List.mem_append, List.mem_cons] at hd
      rcases hd with h | h | h
      · exact HW.out d (List.mem_of_mem_take h)
      · subst h; exact (show i64 1 from ⟨by omega, by omega⟩)
      · exact HW.out d (List.mem_of_mem_drop h))
    have HL1 : Hid (n + 1 ≤ 9223372036854775807) := Lib.hid (by omega)
    have HIS := Lib.hid (ins_coordS l K (by have := HN.out; omega) (by have := HN.out; omega) (by have := HN.out; omega) i)
    by_cases he : (coordS l i).2 = 0
    case neg =>
      have HC := Lib.hid (coordS_no he)
      have HC2 : Hid (coordS (ins l K 1) i = ([], (coordS l i).2)) := Lib.hid (by rw [HIS.out, if_neg he])
      have he2 : ((coordS l i).2 != 0) = true := by simpa using he
      clear he
      generalize (coordS l i).2 = t at *
      go_wp2_with fail
      refine (coord_no (some x) n ca l i t _ HC.out HN.out HR5.out HL.out HW.out HI.out).mono ?_
      rintro e w6 ⟨P, p, rfl, hb6⟩
      go_wp2_with fail
      refine (coord_no V5 (n + 1) c5 (ins l K 1) i t _ HC2.out HIL.out (HX5.out.below hb6) HL1.out HWI.out HI.out).mono ?_
      rintro e w7 ⟨P2, p2, rfl, hb7⟩
      have HB7 := Lib.hid (blC (blC HB5.out hb6) hb7)
      clear hb6 hb7
      go_wp2
      go_ret
      exact ⟨by first | rfl | (simp; done), HB7.out⟩
    have HC := Lib.hid (coordS_yes he).1
    have HDM := Lib.hid (coordS_yes he).2
    have HC2 : Hid (coordS (ins l K 1) i = (ins (coordL l i) K 0, 0)) := Lib.hid (by rw [HIS.out, if_pos he])
    have HCL : Hid ((coordL l i).length = n) := Lib.hid (by rw [coordL_length, HN.out])
    have HCL2 : Hid ((ins (coordL l i) K 0).length = n + 1) := Lib.hid (by rw [ins_length _ _ _ (by have := HCL.out; omega), HCL.out])
    have HIN : Hid (innerS l ((n : Int) - 1) = (1, 0)) := Lib.hid (by
      have h1 := HN.out
      rw [innerS, if_pos HDM.out, if_pos ⟨by omega, by omega⟩, show ((n : Int) - 1).toNat + 1 = n by omega, List.drop_eq_nil_of_le (by omega)]; rfl)
    clear he HIS
    generalize coordL l i = cl at *
    go_wp2_with fail
    refine (coord_yes (some x) n ca n l cl i _ HC.out HCL.out HN.out HR5.out HL.out HW.out HI.out).mono ?_
    rintro e w6 ⟨P, p, rfl, ho6, hb6⟩
    have HP6 := Lib.hid ho6.row
    go_wp2_with fail
    refine (coord_yes V5 (n + 1) c5 (n + 1) (ins l K 1) (ins cl K 0) i _ HC2.out HCL2.out HIL.out (HX5.out.below hb6) HL1.out HWI.out HI.out).mono ?_
    rintro e w7 ⟨Z, cz, rfl, ho7, hb7⟩
    have HB7 := Lib.hid (blC (blC HB5.out hb6) hb7)
    have HP7 := Lib.hid (HP6.out.below hb7)
    have HR7 := Lib.hid ((HR5.out.below hb6).below hb7)
    have HZ7 := Lib.hid ho7.row
    have hzc : n + 1 ≤ cz := ho7.cap.1
    clear hb6 hb7 ho6 ho7 HP6 HR5 HX5 HB5
    go_wp2_with fail
    refine (inner_n (some x) n ca l ((n : Int) - 1) _ HN.out HR7.out HL.out hcap HW.out ⟨by omega, by omega⟩).mono ?_
    rw [HIN.out]
    rintro e w8 ⟨rfl, rfl⟩
    obtain ⟨z, rfl⟩ := HZ7.out.some_of (by intro h0; have h1 := nums_length .i64 (ins cl K 0); rw [h0, HCL2.out] at h1; simp at h1)
    have hcz : w8.cell? (z.add K) = some (.int .i64 0) := by
      have h2 : K < (ins cl K 0).length := by rw [HCL2.out]; omega
      have h1 := HZ7.out.num h2
      rw [h1]
      have h3 := ins_get_at cl K 0 (by rw [HCL.out]; exact hKn)
      rw [List.getD_eq_getElem?_getD, List.getElem?_eq_getElem h2] at h3
      simp only [Option.getD_some] at h3
      rw [h3]
    have hin4 : (K : Int) ≤ (n : Int) + 1 := by omega
    have hin5 : (K : Int) + 1 ≤ (n : Int) + 1 := by omega
    have hin6 : (K : Int) < (n : Int) + 1 := by omega
    have hin7 : K < n + 1 := by omega
    have hin9 : (0 : Int) ≤ (K : Int) + 1 := by omega
    have hwr1 : IntKind.i64.wrap ((n : Int) + 1) = (n : Int) + 1 := by rw [IntKind.wrap_i64]; omega
    have hwr2 : IntKind.i64.wrap ((K : Int) + 1) = (K : Int) + 1 := by rw [IntKind.wrap_i64]; omega
    have hin8 : (K : Int) ≤ (cz : Int) := by omega
    go_wp2
    refine region_marks2 (k := 35) (S := fun _ => True) (T := fun _ => true) hmx rfl trivial (fun hS => ?_)
    refine wpAnyT_take2 (i := 0) (v := ?_) rfl (by kernel_rfl) (by kernel_rfl) (by kernel_rfl) (by kernel_rfl) (by kernel_rfl) (fun _ _ _ h => h) hS (Or.inl ⟨by rfl, ?_⟩) ?_
    rotate_left
    · (intro w' hSw; (try dsimp only at hSw); go_simp; (try with_reducible rfl))
    (try simp only [Act.put, List.setIfInBounds_toArray, List.set_cons_zero, List.set_cons_succ])
    refine wpAnyT_take2 (i := 1) (v := ?_) rfl (by kernel_rfl) (by kernel_rfl) (by kernel_rfl) (by kernel_rfl) (by kernel_rfl) (fun _ _ _ h => h) hS (Or.inl ⟨by rfl, ?_⟩) ?_
    rotate_left
    · (intro w' hSw; (try dsimp only at hSw); go_simp; (try with_reducible rfl))
    (try simp only [Act.put, List.setIfInBounds_toArray, List.set_cons_zero, List.set_cons_succ])
    refine wpAnyT_take2 (i := 2) (v := ?_) rfl (by kernel_rfl) (by kernel_rfl) (by kernel_rfl) (by kernel_rfl) (by kernel_rfl) (fun _ _ _ h => h) hS (Or.inl ⟨by rfl, ?_⟩) ?_
    rotate_left
    · (intro w' hSw; (try dsimp only at hSw); go_simp; (try with_reducible rfl))
    (try simp only [Act.put, List.setIfInBounds_toArray, List.set_cons_zero, List.set_cons_succ])
    refine wpAnyT_take2 (i := 3) (v := ?_) rfl (by kernel_rfl) (by kernel_rfl) (by kernel_rfl) (by kernel_rfl) (by kernel_rfl) (fun _ _ _ h => h) hS (Or.inl ⟨by rfl, ?_⟩) ?_
    rotate_left
    · (intro w' hSw; (try dsimp only at hSw); go_simp; (try with_reducible rfl))
    (try simp only [Act.put, List.setIfInBounds_toArray, List.set_cons_zero, List.set_cons_succ])
    refine wpAnyT_take2 (i := 4) (v := ?_) rfl (by kernel_rfl) (by kernel_rfl) (by kernel_rfl) (by kernel_rfl) (by kernel_rfl) (fun _ _ _ h => h) hS (Or.inl ⟨by rfl, ?_⟩) ?_
    rotate_left
    · (intro w' hSw; (try dsimp only at hSw); go_simp; (try with_reducible rfl))
    (try simp only [Act.put, List.setIfInBounds_toArray, List.set_cons_zero, List.set_cons_succ])
    refine wpAnyT_take2 (i := 5) (v := ?_) rfl (by kernel_rfl) (by kernel_rfl) (by kernel_rfl) (by kernel_rfl) (by kernel_rfl) (fun _ _ _ h => h) hS (Or.inl ⟨by rfl, ?_⟩) ?_
    rotate_left
    · (intro w' hSw; (try dsimp only at hSw); go_simp; (try with_reducible rfl))
    (try simp only [Act.put, List.setIfInBounds_toArray, List.set_cons_zero, List.set_cons_succ])
    refine wpAnyT_take2 (i := 6) (v := ?_) rfl (by kernel_rfl) (by kernel_rfl) (by kernel_rfl) (by kernel_rfl) (by kernel_rfl) (fun _ _ _ h => h) hS (Or.inl ⟨by rfl, ?_⟩) ?_
    rotate_left
    · (intro w' hSw; (try dsimp only at hSw); go_simp; (try with_reducible rfl))
    (try simp only [Act.put, List.setIfInBounds_toArray, List.set_cons_zero, List.set_cons_succ])
    refine wpAnyT_take2 (i := 7) (v := ?_) rfl (by kernel_rfl) (by kernel_rfl) (by kernel_rfl) (by kernel_rfl) (by kernel_rfl) (fun _ _ _ h => h) hS (Or.inl ⟨by rfl, ?_⟩) ?_
    rotate_left
    · (intro w' hSw; (try dsimp only at hSw); go_simp; (try with_reducible rfl))
    (try simp only [Act.put, List.setIfInBounds_toArray, List.set_cons_zero, List.set_cons_succ])
    refine wpAnyT_take2 (i := 8) (v := ?_) rfl (by kernel_rfl) (by kernel_rfl) (by kernel_rfl) (by kernel_rfl) (by kernel_rfl) (fun _ _ _ h => h) hS (Or.inl ⟨by rfl, ?_⟩) ?_
    rotate_left
    · (intro w' hSw; (try dsimp only at hSw); go_simp; (try with_reducible rfl))
    (try simp only [Act.put, List.setIfInBounds_toArray, List.set_cons_zero, List.set_cons_succ])
    refine wpAnyT_take2 (i := 9) (v := ?_) rfl (by kernel_rfl) (by kernel_rfl) (by kernel_rfl) (by kernel_rfl) (by kernel_rfl) (fun _ _ _ h => h) hS (Or.inl ⟨by rfl, ?_⟩) ?_
    rotate_left
    · (intro w' hSw; (try dsimp only at hSw); go_simp; (try with_reducible rfl))
    (try simp only [Act.put, List.setIfInBounds_toArray, List.set_cons_zero, List.set_cons_succ])
    refine wpAnyT_take2 (i := 10) (v := ?_) rfl (by kernel_rfl) (by kernel_rfl) (by kernel_rfl) (by kernel_rfl) (by kernel_rfl) (fun _ _ _ h => h) hS (Or.inl ⟨by rfl, ?_⟩) ?_
    rotate_left
    · (intro w' hSw; (try dsimp only at hSw); go_simp; (try with_reducible rfl))
    (try simp only [Act.put, List.setIfInBounds_toArray, List.set_cons_zero, List.set_cons_succ])
    refine wpAnyT_take2 (i := 11) (v := ?_) rfl (by kernel_rfl) (by kernel_rfl) (by kernel_rfl) (by kernel_rfl) (by kernel_rfl) (fun _ _ _ h => h) hS (Or.inl ⟨by rfl, ?_⟩) ?_
    rotate_left
    · (intro w' hSw; (try dsimp only at hSw); go_simp; (try with_reducible rfl))
    (try simp only [Act.put, List.setIfInBounds_toArray, List.set_cons_zero, List.set_cons_succ])
    refine wpAnyT_take2 (i := 12) (v := ?_) rfl (by kernel_rfl) (by kernel_rfl) (by kernel_rfl) (by kernel_rfl) (by kernel_rfl) (fun _ _ _ h => h) hS (Or.inl ⟨by rfl, ?_⟩) ?_
    rotate_left
    · (intro w' hSw; (try dsimp only at hSw); go_simp; (try with_reducible rfl))
    (try simp only [Act.put, List.setIfInBounds_toArray, List.set_cons_zero, List.set_cons_succ])
    refine wpAnyT_take2 (i := 13) (v := ?_) rfl (by kernel_rfl) (by kernel_rfl) (by kernel_rfl) (by kernel_rfl) (by kernel_rfl) (fun _ _ _ h => h) hS (Or.inl ⟨by rfl, ?_⟩) ?_
    rotate_left
    · (intro w' hSw; (try dsimp only at hSw); go_simp; (try with_reducible rfl))
    (try simp only [Act.put, List.setIfInBounds_toArray, List.set_cons_zero, List.set_cons_succ])
    refine wpAnyT_take2 (i := 14) (v := ?_) rfl (by kernel_rfl) (by kernel_rfl) (by kernel_rfl) (by kernel_rfl) (by kernel_rfl) (fun _ _ _ h => h) hS (Or.inl ⟨by rfl, ?_⟩) ?_
    rotate_left
    · (intro w' hSw; (try dsimp only at hSw); go_simp; (try with_reducible rfl))
    (try simp only [Act.put, List.setIfInBounds_toArray, List.set_cons_zero, List.set_cons_succ])
    refine wpAnyT_take2 (i := 15) (v := ?_) rfl (by kernel_rfl) (by kernel_rfl) (by kernel_rfl) (by kernel_rfl) (by kernel_rfl) (fun _ _ _ h => h) hS (Or.inl ⟨by rfl, ?_⟩) ?_
    rotate_left
    · (intro w' hSw; (try dsimp only at hSw); go_simp; (try with_reducible rfl))
    (try simp only [Act.put, List.setIfInBounds_toArray, List.set_cons_zero, List.set_cons_succ])
    refine wpAnyT_take2 (i := 16) (v := ?_) rfl (by kernel_rfl) (by kernel_rfl) (by kernel_rfl) (by kernel_rfl) (by kernel_rfl) (fun _ _ _ h => h) hS (Or.inl ⟨by rfl, ?_⟩) ?_
    rotate_left
    · (intro w' hSw; (try dsimp only at hSw); go_simp; (try with_reducible rfl))
    (try simp only [Act.put, List.setIfInBounds_toArray, List.set_cons_zero, List.set_cons_succ])
    refine wpAnyT_one (i := 17) (by kernel_rfl) rfl (fun K hK => ?_)
    go_simp
    refine hK _ _ (fun _ => trivial) ?_
    clear hK K
    (try simp only [Act.put, List.setIfInBounds_toArray, List.set_cons_zero, List.set_cons_succ])
    refine wpAnyT_one (i := 18) (by kernel_rfl) rfl (fun K hK => ?_)
    go_simp
    refine hK _ _ (fun _ => trivial) ?_
    clear hK K
    (try simp only [Act.put, List.setIfInBounds_toArray, List.set_cons_zero, List.set_cons_succ])
    refine wpAnyT_take2 (i := 19) (v := ?_) rfl (by kernel_rfl) (by kernel_rfl) (by kernel_rfl) (by kernel_rfl) (by kernel_rfl) (fun _ _ _ h => h) hS (Or.inl ⟨by rfl, ?_⟩) ?_
    rotate_left
    · (intro w' hSw; (try dsimp only at hSw); go_simp; (try with_reducible rfl))
    (try simp only [Act.put, List.setIfInBounds_toArray, List.set_cons_zero, List.set_cons_succ])
    refine wpAnyT_take2 (i := 20) (v := ?_) rfl (by kernel_rfl) (by kernel_rfl) (by kernel_rfl) (by kernel_rfl) (by kernel_rfl) (fun _ _ _ h => h) hS (Or.inl ⟨by rfl, ?_⟩) ?_
    rotate_left
    · (intro w' hSw; (try dsimp only at hSw); go_simp; (try with_reducible rfl))
    (try simp only [Act.put, List.setIfInBounds_toArray, List.set_cons_zero, List.set_cons_succ])
    refine wpAnyT_take2 (i := 21) (v := ?_) rfl (by kernel_rfl) (by kernel_rfl) (by kernel_rfl) (by kernel_rfl) (by kernel_rfl) (fun _ _ _ h => h) hS (Or.inl ⟨by rfl, ?_⟩) ?_
    rotate_left
    · (intro w' hSw; (try dsimp only at hSw); go_simp; (try with_reducible rfl))
    (try simp only [Act.put, List.setIfInBounds_toArray, List.set_cons_zero, List.set_cons_succ])
    refine wpAnyT_take2 (i := 22) (v := ?_) rfl (by kernel_rfl) (by kernel_rfl) (by kernel_rfl) (by kernel_rfl) (by kernel_rfl) (fun _ _ _ h => h) hS (Or.inl ⟨by rfl, ?_⟩) ?_
    rotate_left
    · (intro w' hSw; (try dsimp only at hSw); go_simp; (try with_reducible rfl))
    (try simp only [Act.put, List.setIfInBounds_toArray, List.set_cons_zero, List.set_cons_succ])
    refine wpAnyT_take2 (i := 23) (v := ?_) rfl (by kernel_rfl) (by kernel_rfl) (by kernel_rfl) (by kernel_rfl) (by kernel_rfl) (fun _ _ _ h => h) hS (Or.inl ⟨by rfl, ?_⟩) ?_
    rotate_left
    · (intro w' hSw; (try dsimp only at hSw); go_simp; (try with_reducible rfl))
    (try simp only [Act.put, List.setIfInBounds_toArray, List.set_cons_zero, List.set_cons_succ])
    refine wpAnyT_take2 (i := 24) (v := ?_) rfl (by kernel_rfl) (by kernel_rfl) (by kernel_rfl) (by kernel_rfl) (by kernel_rfl) (fun _ _ _ h => h) hS (Or.inl ⟨by rfl, ?_⟩) ?_
    rotate_left
    · (intro w' hSw; (try dsimp only at hSw); go_simp; (try with_reducible rfl))
    (try simp only [Act.put, List.setIfInBounds_toArray, List.set_cons_zero, List.set_cons_succ])
    refine wpAnyT_take2 (i := 25) (v := ?_) rfl (by kernel_rfl) (by kernel_rfl) (by kernel_rfl) (by kernel_rfl) (by kernel_rfl) (fun _ _ _ h => h) hS (Or.inl ⟨by rfl, ?_⟩) ?_
    rotate_left
    · (intro w' hSw; (try dsimp only at hSw); go_simp; (try with_reducible rfl))
    (try simp only [Act.put, List.setIfInBounds_toArray, List.set_cons_zero, List.set_cons_succ])
    refine wpAnyT_take2 (i := 27) (v := ?_) rfl (by kernel_rfl) (by kernel_rfl) (by kernel_rfl) (by kernel_rfl) (by kernel_rfl) (fun _ _ _ h => h) hS (Or.inl ⟨by rfl, ?_⟩) ?_
    rotate_left
    · (intro w' hSw; (try dsimp only at hSw); go_simp; (try with_reducible rfl))
    (try simp only [Act.put, List.setIfInBounds_toArray, List.set_cons_zero, List.set_cons_succ])
    refine wpAnyT_take2 (i := 28) (v := ?_) rfl (by kernel_rfl) (by kernel_rfl) (by kernel_rfl) (by kernel_rfl) (by kernel_rfl) (fun _ _ _ h => h) hS (Or.inl ⟨by rfl, ?_⟩) ?_
    rotate_left
    · (intro w' hSw; (try dsimp only at hSw); go_simp; (try with_reducible rfl))
    (try simp only [Act.put, List.setIfInBounds_toArray, List.set_cons_zero, List.set_cons_succ])
    refine wpAnyT_take2 (i := 29) (v := ?_) rfl (by kernel_rfl) (by kernel_rfl) (by kernel_rfl) (by kernel_rfl) (by kernel_rfl) (fun _ _ _ h => h) hS (Or.inl ⟨by rfl, ?_⟩) ?_
    rotate_left
    · (intro w' hSw; (try dsimp only at hSw); go_simp; (try with_reducible rfl))
    (try simp only [Act.put, List.setIfInBounds_toArray, List.set_cons_zero, List.set_cons_succ])
    refine wpAnyT_take2 (i := 30) (v := ?_) rfl (by kernel_rfl) (by kernel_rfl) (by kernel_rfl) (by kernel_rfl) (by kernel_rfl) (fun _ _ _ h => h) hS (Or.inl ⟨by rfl, ?_⟩) ?_
    rotate_left
    · (intro w' hSw; (try dsimp only at hSw); go_simp; (try with_reducible rfl))
    (try simp only [Act.put, List.setIfInBounds_toArray, List.set_cons_zero, List.set_cons_succ])
    generalize hY2 : (if cz = K + 1 then some z else some (⟨z.block, z.off + (K + 1), none⟩ : Addr)) = Y2 at *
    have HDZ : Hid (Row w8 Y2 (nums .i64 ((ins cl K 0).drop (K + 1)))) := Lib.hid (by
      rw [← hY2]
      by_cases e : cz = K + 1
      · rw [if_pos e, List.drop_eq_nil_of_le (by have := HCL2.out; omega)]; exact Row.nil _ _
      · rw [if_neg e]
        have h1 := HZ7.out.drop (K + 1)
        simpa [Addr.add] using h1)
    clear hY2
    have HTZ : Hid (Row w8 (some z) (nums .i64 ((ins cl K 0).take K))) := Lib.hid (take_row HZ7.out K)
    have HZL : Hid (((ins cl K 0).take K).length = K) := Lib.hid (by have := HCL2.out; simp; omega)
    have HZD : Hid (((ins cl K 0).drop (K + 1)).length = n - K) := Lib.hid (by have := HCL2.out; simp; omega)
    refine wpAnyT_one (i := 26) (by kernel_rfl) rfl (fun K' hK => ?_)
    refine step_append_any w8.drew Try.underlying22 info_int rfl _ _ rfl w8.heap.size 0 0 K cz none (some z) [] ((ins cl K 0).take K) rfl rfl (Own.nil _ _ _ _) HTZ.out HZL.out (Nat.le_refl _) (by omega) (by omega) ?_
    intro V6 c6 w9 hown hbel
    refine hK _ _ (fun _ => trivial) ?_
    have HB9 : Hid (Below w8.heap.size w8 w9) := Lib.hid (by exact (below_drewN (Below.refl _ w8) 1).trans hbel)
    clear hK K' hbel
    simp only [Nat.zero_add, Act.put, List.setIfInBounds_toArray, List.set_cons_zero, List.set_cons_succ]
    rw [List.nil_append, Nat.zero_add] at hown
    refine wpAnyT_one (i := 31) (by kernel_rfl) rfl (fun K' hK => ?_)
    refine step_append_any w9 Try.underlying22 info_int rfl _ _ rfl w8.heap.size K c6 (n - K) (cz - (K + 1)) V6 Y2 ((ins cl K 0).take K) ((ins cl K 0).drop (K + 1)) rfl rfl hown (HDZ.out.below HB9.out) HZD.out HB9.out.size (by omega) (by omega) ?_
    intro V7 c7 w10 hown7 hbel
    refine hK _ _ (fun _ => trivial) ?_
    have HB10 : Hid (Below w8.heap.size w8 w10) := Lib.hid (HB9.out.trans hbel)
    have HV7 : Hid (Row w10 V7 (nums .i64 cl)) := Lib.hid (by
      have h1 := hown7.row
      rw [ins_out cl K 0 (by rw [HCL.out]; exact hKn)] at h1
      exact h1)
    have e1 : K + (n - K) = n := by omega
    rw [e1]
    clear hK K' hbel hown hown7 e1
    simp only [Act.put, List.setIfInBounds_toArray, List.set_cons_zero, List.set_cons_succ]
    refine wpAnyT_one (i := 32) (by kernel_rfl) rfl (fun K' hK => ?_)
    go_simp
    have hcall := sameInts_calls P V7 p c7 cl cl w10 (HP7.out.below HB10.out) (by rw [HCL.out]; exact HL.out) HV7.out
    rw [show decide (cl = cl) = true from decide_eq_true rfl, HCL.out] at hcall
    refine hcall.mono ?_
    clear hcall
    rintro e w11 ⟨rfl, ⟨q1, rfl⟩⟩
    refine hK _ _ (fun _ => trivial) ?_
    clear hK K'
    (try simp only [Act.put, List.setIfInBounds_toArray, List.set_cons_zero, List.set_cons_succ])
    refine wpAnyT_one (i := 33) (by kernel_rfl) rfl (fun K hK => ?_)
    go_simp
    refine hK _ _ (fun _ => trivial) ?_
    clear hK K
    (try simp only [Act.put, List.setIfInBounds_toArray, List.set_cons_zero, List.set_cons_succ])
    refine wpAnyT_one (i := 34) (by kernel_rfl) rfl (fun K hK => ?_)
    go_simp
    refine hK _ _ (fun _ => trivial) ?_
    clear hK K
    (try simp only [Act.put, List.setIfInBounds_toArray, List.set_cons_zero, List.set_cons_succ])
    refine wpAnyT_done (by kernel_rfl) ?_ _
    refine NoPanic.normal ?_
    go_wp2
    go_ret
    exact ⟨by first | rfl | (simp; done), below_drewN (blC HB7.out HB10.out) _⟩
end Go.Proofs.Ytkofhmiakfmcaaa.P
