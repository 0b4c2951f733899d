/- The contract of package shape's Coord. Conditions: words of their kinds; slices read as lists. -/
import Derived.Test.YtkofhmiakfmcaaaShape0
import Derived.Deep.RegionHeld3
namespace Go.Proofs.Ytkofhmiakfmcaaa.P
open Go.RowKit
set_option linter.unusedVariables false
set_option linter.unusedSimpArgs false
/-- A list that is being filled from its end. -/
def fillB (f : Nat → Int) (n k : Nat) : List Int := (List.range n).map fun i => if k ≤ i then f i else 0
theorem fillB_length (f : Nat → Int) (n k : Nat) : (fillB f n k).length = n := by simp [fillB]
theorem fillB_none (f : Nat → Int) (n : Nat) : fillB f n n = List.replicate n 0 := by
  apply List.ext_getElem
  · simp [fillB]
  · intro i h1 h2
    simp [fillB] at h1
    simp [fillB]; intro h; omega
theorem fillB_set (f : Nat → Int) (n k : Nat) (h : k < n) : (fillB f n (k + 1)).set k (f k) = fillB f n k := by
  apply List.ext_getElem
  · simp [fillB]
  · intro i h1 h2
    rw [List.getElem_set]
    simp only [fillB, List.getElem_map, List.getElem_range]
    split
    · rename_i e; subst e; rw [if_pos (by omega)]
    · rename_i e
      by_cases hik : k + 1 ≤ i
      · rw [if_pos hik, if_pos (by omega)]
      · rw [if_neg hik, if_neg (by omega)]
theorem fillB_all (f : Nat → Int) (n : Nat) : fillB f n 0 = (List.range n).map f := by
  apply List.ext_getElem
  · simp [fillB]
  · intro i h1 h2
    simp [fillB]
/-- A place's coordinate of an axis. -/
def coordF (l : List Int) (i : Int) (k : Nat) : Int := i / prodL (l.drop (k + 1)) % l.getD k 1
def coordL (l : List Int) (i : Int) : List Int := (List.range l.length).map (coordF l i)
def coordS (l : List Int) (i : Int) : List Int × Int :=
  if Dims l then (if 0 ≤ i ∧ i < prodL l then (coordL l i, 0) else ([], 1)) else ([], 3)
theorem coordF_at (l : List Int) (i : Int) (k : Nat) (h : k < l.length) : coordF l i k = i / prodL (l.drop (k + 1)) % l[k] := by
  rw [coordF, List.getD_eq_getElem?_getD, List.getElem?_eq_getElem h]; rfl
theorem coord_next (l : List Int) (i : Int) (k : Nat) (h : k < l.length) (hp : Pos l) : i / prodL (l.drop (k + 1)) / l[k] = i / prodL (l.drop k) := by
  rw [prodL_drop l k h, Int.ediv_ediv_of_nonneg (by have := (hp.drop (k + 1)).prod; omega), Int.mul_comm]
theorem make_int (n : Nat) (hn : n ≤ 17592186044415) (w : World) : (Instr.makeSlice 22 (.int .i64 (n : Int)) (.int .i64 (n : Int))).run Try.prog w =
    .ok (.slice (some ⟨w.heap.size, 0, none⟩) n n) (w.alloc (.cells (madeCells #[.int .i64 0] n) 3)) := by
  obtain ⟨i0, hi, hz⟩ := Option.map_eq_some_iff.1 info_int
  simp only [Prod.mk.injEq] at hz
  obtain ⟨h0, h1, h2⟩ := hz
  rw [run_make w 22 3 i0 (.int .i64 0) Try.underlying22 hi h0 .i64 .i64 n n (by omega) (by omega) (by rw [h2]; omega) (by omega), h1]
  simp [Value.cells]
theorem coord_calls (A : Option Addr) (c : Nat) (l : List Int) (i : Int) (w : World) (hr : Row w A (nums .i64 l)) (hl : l.length ≤ 9223372036854775807) (hw : ∀ d ∈ l, i64 d) (hi : i64 i) :
    Calls Try.prog 34 #[.slice A l.length c, .int .i64 i] w fun e w' => ∃ B b,
      e = .returned (.tuple #[.slice B (coordS l i).1.length b, .int .i64 (coordS l i).2]) ∧ Own w' w.heap.size 3 1 B (coordS l i).1.length b (nums .i64 (coordS l i).1) ∧ Below w.heap.size w w' := by
  have HR := Lib.hid hr
  have HL := Lib.hid hl
  have HW := Lib.hid hw
  clear hr hl hw
  by_cases hd : Dims l
  · have HA := Lib.hid (allS_yes hd)
    by_cases hin : 0 ≤ i ∧ i < prodL l
    · obtain ⟨i0, i1⟩ := hin
      have HF : Hid (coordS l i = (coordL l i, 0)) := Lib.hid (by rw [coordS, if_pos hd, if_pos ⟨i0, i1⟩])
      have HLL : Hid ((coordL l i).length = l.length) := Lib.hid (by simp [coordL])
      have hn1 := hd.n1
      have hn4 := hd.n4
      obtain ⟨x, rfl⟩ := HR.out.some_of (by intro h0; have := nums_length .i64 l; rw [h0] at this; simp at this; omega)
      have hmk := make_int l.length (by omega)
      have HD := Lib.hid hd
      rw [HF.out, show ((coordL l i, (0 : Int)).1) = coordL l i from rfl, show ((coordL l i, (0 : Int)).2) = 0 from rfl, HLL.out]
      have f0 : decide (i < 0) = false := by simp; omega
      have f1 : decide (prodL l ≤ i) = false := by simp; omega
      have hi4 : i ≤ 4095 := by have := hd.all; omega
      clear hd hi
      go_enter Try.func34, Try.ntmps34
      go_wp2_with (go_at_call 31; refine (all_calls _ _ _ _ HR.out HL.out HW.out).mono ?_; rw [HA.out]; rintro e w' ⟨rfl, rfl⟩)
      have hown := own_made w' w'.heap.size 3 (.int .i64 0) l.length (Nat.le_refl _) (by omega)
      have hbel : Below w'.heap.size w' (w'.alloc (.cells (madeCells #[.int .i64 0] l.length) 3)) := (Below.refl _ _).alloc (Nat.le_refl _) _
      rw [nums_replicate, ← fillB_none (coordF l i)] at hown
      generalize (w'.alloc (.cells (madeCells #[.int .i64 0] l.length) 3)) = W at *
      have HO := Lib.hid hown
      have HB := Lib.hid hbel
      clear hown hbel hmk
      have HN : Hid (l.drop l.length = []) := Lib.hid (by simp)
      go_loopw [1, 9] (fun v q wr => ∃ k : Nat, k ≤ l.length ∧ q = .int .i64 ((k : Int) - 1) ∧ v = .int .i64 (i / prodL (l.drop k)) ∧ 0 ≤ i / prodL (l.drop k) ∧ i / prodL (l.drop k) ≤ 4095 ∧ Hid (Own wr w'.heap.size 3 1 (some ⟨w'.heap.size, 0, none⟩) l.length l.length (nums .i64 (fillB (coordF l i) l.length k))) ∧ Hid (Below w'.heap.size w' wr)) (fun _ q _ => (intOf q + 1).toNat)
      case atStart => exact ⟨l.length, Nat.le_refl _, rfl, by rw [HN.out]; simp [prodL], by rw [HN.out]; simpa [prodL] using i0, by rw [HN.out]; simpa [prodL] using hi4, HO, HB⟩
      case round =>
        obtain ⟨k, hk, rfl, rfl, hv0, hv1, HO2, HB2⟩ := hrel
        rcases Nat.eq_zero_or_pos k with hk0 | hk0
        · subst hk0
          have HZ : Hid (fillB (coordF l i) l.length 0 = coordL l i) := Lib.hid (fillB_all _ _)
          go_wp2
          go_ret2
          exact ⟨_, _, rfl, by rw [← HZ.out]; exact HO2.out, HB2.out⟩
        · obtain ⟨j, rfl⟩ : ∃ j, k = j + 1 := ⟨k - 1, by omega⟩
          have hj : j < l.length := by omega
          rw [show (((j + 1 : Nat) : Int) - 1) = (j : Int) from by omega]
          have hc : wr.cell? (x.add j) = some (.int .i64 l[j]) := (HR.out.below HB2.out).num hj
          have hf : wr.frozen? ⟨w'.heap.size, j, none⟩ = false := HO2.out.frozenAt j
          have hc2 : wr.cell? ⟨w'.heap.size, j, none⟩ = some (.int .i64 ((fillB (coordF l i) l.length (j + 1))[j]'(by rw [fillB_length]; exact hj))) := by
            rw [HO2.out.cellAt j hj]; exact nums_get .i64 _ j (by rw [fillB_length]; exact hj)
          have HC := Lib.hid (coordF_at l i j hj)
          have HX := Lib.hid (coord_next l i j hj HD.out.pos)
          have hd1 := HD.out.pos.at hj
          have hb : (x.add j).block < w'.heap.size := World.block_lt_of_cell? w' _ (HR.out.num hj)
          have hkeep : ∀ u, (wr.setCell ⟨w'.heap.size, j, none⟩ u).cell? (x.add j) = some (.int .i64 l[j]) := fun u =>
            (((Below.refl w'.heap.size wr).setCell (p := ⟨w'.heap.size, j, none⟩) (Nat.le_refl _) u).cell hb).trans hc
          have HK := Lib.hid hkeep
          clear hkeep
          generalize hd : l[j] = d at *
          generalize hV : i / prodL (l.drop (j + 1)) = V at *
          have hq0 : 0 ≤ V / d := Int.ediv_nonneg hv0 (by omega)
          have hq1 : V / d ≤ V := Int.ediv_le_self _ hv0
          have hm0 : 0 ≤ V % d := Int.emod_nonneg _ (by omega)
          have hm1 : V % d < d := Int.emod_lt_of_pos _ (by omega)
          have ht1 : V.tmod d = V % d := Int.tmod_eq_emod_of_nonneg hv0
          have ht2 : V.tdiv d = V / d := Int.tdiv_eq_ediv_of_nonneg hv0
          have hd0 : ¬ d = 0 := by omega
          have hwq : IntKind.i64.wrap (V / d) = V / d := wrapI (by omega) (by omega)
          clear hV hd
          go_wp2
          go_region_held3 (fun w' => w'.cell? (x.add j) = some (.int .i64 d)) (first | exact HK.out _ | go_keep) (fail)
          go_wp2
          go_roundw
          case rel => exact ⟨j, by omega, rfl, by rw [HX.out], by rw [← HX.out]; exact hq0, by rw [← HX.out]; omega, by
            have h1 := HO2.out.stored j (.int .i64 (V % d))
            rw [nums_set] at h1
            have h2 := fillB_set (coordF l i) l.length j hj
            rw [HC.out] at h2
            rw [h2] at h1
            exact Lib.hid (h1.drewN 1), Lib.hid (below_drewN (HB2.out.setCell (Nat.le_refl _) _) 1)⟩
          case measure => simp [intOf]
    · have HF : Hid (coordS l i = ([], 1)) := Lib.hid (by rw [coordS, if_pos hd, if_neg hin])
      rw [HF.out]
      by_cases h0 : i < 0
      · have f0 : decide (i < 0) = true := by simpa using h0
        clear hin hd
        go_enter Try.func34, Try.ntmps34
        go_wp2_with (go_at_call 31; refine (all_calls _ _ _ _ HR.out HL.out HW.out).mono ?_; rw [HA.out]; rintro e w' ⟨rfl, rfl⟩)
        go_ret2
        exact ⟨none, 0, rfl, Own.nil _ _ _ _, Below.refl _ _⟩
      · have f0 : decide (i < 0) = false := by simpa using h0
        have f1 : decide (prodL l ≤ i) = true := by simp; omega
        clear hin hd
        go_enter Try.func34, Try.ntmps34
        go_wp2_with (go_at_call 31; refine (all_calls _ _ _ _ HR.out HL.out HW.out).mono ?_; rw [HA.out]; rintro e w' ⟨rfl, rfl⟩)
        go_ret2
        exact ⟨none, 0, rfl, Own.nil _ _ _ _, Below.refl _ _⟩
  · have HF : Hid (coordS l i = ([], 3)) := Lib.hid (by rw [coordS, if_neg hd])
    have HA := Lib.hid (allS_no hd)
    rw [HF.out]
    clear hd
    go_enter Try.func34, Try.ntmps34
    go_wp2_with (go_at_call 31; refine (all_calls _ _ _ _ HR.out HL.out HW.out).mono ?_; rw [HA.out]; rintro e w' ⟨rfl, rfl⟩)
    go_ret2
    exact ⟨none, 0, rfl, Own.nil _ _ _ _, Below.refl _ _⟩
end Go.Proofs.Ytkofhmiakfmcaaa.P
