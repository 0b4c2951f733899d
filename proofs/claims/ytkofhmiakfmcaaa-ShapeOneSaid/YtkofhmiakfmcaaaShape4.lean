/- The contract of package shape's Line. Conditions: words of their kinds; slices read as lists. -/
import Derived.Test.YtkofhmiakfmcaaaShape3
import Derived.Test.YtkofhmiakfmcaaaQuietB
namespace Go.Proofs.Ytkofhmiakfmcaaa.P
open Go.RowKit
set_option linter.unusedVariables false
set_option linter.unusedSimpArgs false
/-- A line's first place. -/
def lineF (l : List Int) (a : Nat) (k : Int) : Int := k / prodL (l.drop (a + 1)) * l.getD a 1 * prodL (l.drop (a + 1)) + k % prodL (l.drop (a + 1))
def lineG (l : List Int) (a : Nat) (k : Int) (i : Nat) : Int := lineF l a k + i * prodL (l.drop (a + 1))
def lineL (l : List Int) (a : Nat) (k : Int) : List Int := (List.range (l.getD a 1).toNat).map (lineG l a k)
def lineS (l : List Int) (a k : Int) : List Int × Int :=
  if Dims l then (if 0 ≤ a ∧ a < l.length then (if 0 ≤ k ∧ k < prodL l / l.getD a.toNat 1 then (lineL l a.toNat k, 0) else ([], 1)) else ([], 1)) else ([], 3)
theorem line_calls (A : Option Addr) (c : Nat) (l : List Int) (a k : Int) (w : World) (hr : Row w A (nums .i64 l)) (hl : l.length ≤ 9223372036854775807) (hc : l.length ≤ c) (hw : ∀ d ∈ l, i64 d) (ha : i64 a) (hk : i64 k) :
    Calls Try.prog 33 #[.slice A l.length c, .int .i64 a, .int .i64 k] w fun e w' => ∃ B b,
      e = .returned (.tuple #[.slice B (lineS l a k).1.length b, .int .i64 (lineS l a k).2]) ∧ Own w' w.heap.size 3 1 B (lineS l a k).1.length b (nums .i64 (lineS l a k).1) ∧ Below w.heap.size w w' := by
  have HR := Lib.hid hr
  have HL := Lib.hid hl
  have HW := Lib.hid hw
  have HAA := Lib.hid ha
  clear hr hl hw
  by_cases hd : Dims l
  · have HA := Lib.hid (allS_yes hd)
    have HD := Lib.hid hd
    have hn1 := hd.n1
    have hn4 := hd.n4
    by_cases hin : 0 ≤ a ∧ a < l.length
    · obtain ⟨a0, a1⟩ := hin
      obtain ⟨N, rfl⟩ := Int.eq_ofNat_of_zero_le a0
      obtain ⟨x, rfl⟩ := HR.out.some_of (by intro h0; have := nums_length .i64 l; rw [h0] at this; simp at this; omega)
      have hN : N < l.length := by omega
      have HI : Hid (innerS l N = (prodL (l.drop (N + 1)), 0)) := Lib.hid (by rw [innerS, if_pos hd, if_pos ⟨a0, a1⟩, Int.toNat_natCast])
      have HG := Lib.hid (getD_at hN 1)
      have hcell : w.cell? (x.add N) = some (.int .i64 l[N]) := HR.out.num hN
      have hd1 := hd.pos.at hN
      have hd2 : l[N] ≤ 4096 := by have := hd.pos.at_le hN; have := hd.all; omega
      have hI1 := (hd.pos.drop (N + 1)).prod
      have hI2 : prodL (l.drop (N + 1)) ≤ 4096 := by have := hd.pos.drop_le (N + 1); have := hd.all; omega
      have hP1 := hd.pos.prod
      have hP2 := hd.all
      have hq1 : prodL l / l[N] ≤ prodL l := Int.ediv_le_self _ (by omega)
      have ht1 : (prodL l).tdiv l[N] = prodL l / l[N] := Int.tdiv_eq_ediv_of_nonneg (by omega)
      have hq0 : 0 ≤ prodL l / l[N] := Int.ediv_nonneg (by omega) (by omega)
      have hwq : IntKind.i64.wrap (prodL l / l[N]) = prodL l / l[N] := wrapI hq0 (by omega)
      have hd0 : ¬ l[N] = 0 := by omega
      by_cases hkin : 0 ≤ k ∧ k < prodL l / l[N]
      · obtain ⟨k0, k1⟩ := hkin
        have HF : Hid (lineS l N k = (lineL l N k, 0)) := Lib.hid (by rw [lineS, if_pos hd, if_pos ⟨a0, a1⟩, Int.toNat_natCast, HG.out, if_pos ⟨k0, k1⟩])
        have HLL : Hid ((lineL l N k).length = l[N].toNat) := Lib.hid (by rw [lineL, HG.out]; simp)
        have HLF : Hid (lineF l N k = k / prodL (l.drop (N + 1)) * l[N] * prodL (l.drop (N + 1)) + k % prodL (l.drop (N + 1))) := Lib.hid (by rw [lineF, HG.out])
        have HLG : Hid (∀ i : Nat, lineG l N k i = lineF l N k + i * prodL (l.drop (N + 1))) := Lib.hid fun _ => rfl
        have HLA : Hid (lineL l N k = (List.range l[N].toNat).map (lineG l N k)) := Lib.hid (by rw [lineL, HG.out])
        have f0 : decide (k < 0) = false := by simp; omega
        have f1 : decide (prodL l / l[N] ≤ k) = false := by simp; omega
        rw [HF.out, show ((lineL l N k, (0 : Int)).1) = lineL l N k from rfl, show ((lineL l N k, (0 : Int)).2) = 0 from rfl, HLL.out]
        generalize prodL (l.drop (N + 1)) = I at *
        generalize l[N] = d at *
        obtain ⟨D, rfl⟩ := Int.eq_ofNat_of_zero_le (show 0 ≤ d by omega)
        rw [Int.toNat_natCast] at *
        have hmk := make_int D (by omega)
        have hk4 : k ≤ 4095 := by omega
        clear hd hk ha a0 a1
        go_enter Try.func33, Try.ntmps33
        go_wp2_with (first
          | (go_at_call 32; refine (inner_calls _ _ _ _ _ HR.out HL.out hc HW.out HAA.out).mono ?_; rw [HI.out]; rintro e w' ⟨rfl, rfl⟩)
          | (go_at_call 31; refine (all_calls _ _ _ _ HR.out HL.out HW.out).mono ?_; rw [HA.out]; rintro e w' ⟨rfl, rfl⟩))
        have hown := own_made w' w'.heap.size 3 (.int .i64 0) D (Nat.le_refl _) (by omega)
        have hbel : Below w'.heap.size w' (w'.alloc (.cells (madeCells #[.int .i64 0] D) 3)) := (Below.refl _ _).alloc (Nat.le_refl _) _
        rw [nums_replicate, ← fillL_zero (lineG l N k)] at hown
        generalize (w'.alloc (.cells (madeCells #[.int .i64 0] D) 3)) = W at *
        have HO := Lib.hid hown
        have HB := Lib.hid hbel
        clear hown hbel hmk
        have hq2 : k / I ≤ k := Int.ediv_le_self _ k0
        have hq3 : 0 ≤ k / I := Int.ediv_nonneg k0 (by omega)
        have hr2 : 0 ≤ k % I := Int.emod_nonneg _ (by omega)
        have hr3 : k % I < I := Int.emod_lt_of_pos _ (by omega)
        have hqi : k / I * I ≤ k := Int.ediv_mul_le _ (by omega)
        have ht2 : k.tdiv I = k / I := Int.tdiv_eq_ediv_of_nonneg k0
        have ht3 : k.tmod I = k % I := Int.tmod_eq_emod_of_nonneg k0
        have hm2 : k / I * D * I ≤ 16773120 := by
          rw [Int.mul_right_comm]
          have : k / I * I * D ≤ 4095 * 4096 := Int.mul_le_mul (by omega) hd2 (by omega) (by omega)
          omega
        have hm1 : k / I * D ≤ 16773120 := by
          have : k / I * D ≤ 4095 * 4096 := Int.mul_le_mul (by omega) hd2 (by omega) (by omega)
          omega
        have hm3 : 0 ≤ k / I * D := Int.mul_nonneg hq3 (by omega)
        have hm4 : 0 ≤ k / I * D * I := Int.mul_nonneg hm3 (by omega)
        have hz1 : ¬ I = 0 := by omega
        have hF0 : 0 ≤ lineF l N k := by rw [HLF.out]; omega
        have hF1 : lineF l N k ≤ 16777216 := by rw [HLF.out]; omega
        generalize k / I = q at *
        generalize hM1 : q * (D : Int) = M1 at *
        generalize hM2 : M1 * I = M2 at *
        generalize k % I = R at *
        have hS := HLF.out.symm
        generalize lineF l N k = F at *
        have hw1 : IntKind.i64.wrap q = q := wrapI hq3 (by omega)
        have hw2 : IntKind.i64.wrap M1 = M1 := wrapI hm3 (by omega)
        have hw3 : IntKind.i64.wrap M2 = M2 := wrapI hm4 (by omega)
        have hw4 : IntKind.i64.wrap F = F := wrapI hF0 (by omega)
        refine wp_region_below (by kernel_rfl) (by kernel_rfl) ?_
        repeat (first
          | (refine wpQuiet_step (fun K hK => ?_); go_simp; refine ⟨_, fun _ _ => rfl, hK _ ?_⟩; clear hK K))
        refine wpQuiet_nil ?_
        intro w2 hw2
        have HO2 := Lib.hid (HO.out.grown hw2)
        have HB2 : Hid (Below w'.heap.size w' w2) := Lib.hid (HB.out.trans (hw2.mono HB.out.size))
        clear hw2 HO HB hS HLF hM1 hM2
        clear hw1 hw2 hw3 hw4 hm1 hm2 hm3 hm4 hq2 hq3 hqi hr2 hr3 ht2 ht3 ht1 hwq hq0 hq1
        go_wp2
        go_loopw [61] (fun i wr => ∃ j : Nat, j ≤ D ∧ i = .int .i64 j ∧ Hid (Own wr w'.heap.size 3 1 (some ⟨w'.heap.size, 0, none⟩) D D (nums .i64 (fillL (lineG l N k) D j))) ∧ Hid (Below w'.heap.size w' wr)) (fun i _ => D - (intOf i).toNat)
        case atStart => exact ⟨0, Nat.zero_le _, rfl, HO2, HB2⟩
        case round =>
          obtain ⟨j, hj, rfl, HO3, HB3⟩ := hrel
          by_cases hlt : j < D
          · have hc2 : wr.cell? ⟨w'.heap.size, j, none⟩ = some (.int .i64 ((fillL (lineG l N k) D j)[j]'(by rw [fillL_length]; exact hlt))) := by
              rw [HO3.out.cellAt j hlt]; exact nums_get .i64 _ j (by rw [fillL_length]; exact hlt)
            have hf : wr.frozen? ⟨w'.heap.size, j, none⟩ = false := HO3.out.frozenAt j
            have HGJ := Lib.hid (HLG.out j)
            have hp0 : 0 ≤ (j : Int) * I := Int.mul_nonneg (by omega) (by omega)
            have hp1 : (j : Int) * I ≤ 16777216 := by
              have : (j : Int) * I ≤ 4096 * 4096 := Int.mul_le_mul (by omega) hI2 (by omega) (by omega)
              omega
            generalize hM : (j : Int) * I = M at *
            go_wp2
            go_roundw
            case rel => exact ⟨j + 1, by omega, by go_num, by
              have h1 := HO3.out.stored j (.int .i64 (F + M))
              rw [nums_set] at h1
              have h2 := fillL_set (lineG l N k) D j hlt
              rw [HGJ.out] at h2
              rw [h2] at h1
              exact Lib.hid h1, Lib.hid (HB3.out.setCell (Nat.le_refl _) _)⟩
            case measure => simp [intOf]; omega
          · have hj2 : j = D := by omega
            subst hj2
            have HZ : Hid (fillL (lineG l N k) j j = lineL l N k) := Lib.hid (by rw [HLA.out]; exact fillL_all _ _)
            go_wp2
            go_ret2
            exact ⟨_, _, rfl, by rw [← HZ.out]; exact HO3.out, HB3.out⟩
      · have HF : Hid (lineS l N k = ([], 1)) := Lib.hid (by rw [lineS, if_pos hd, if_pos ⟨a0, a1⟩, Int.toNat_natCast, HG.out, if_neg hkin])
        rw [HF.out]
        generalize prodL (l.drop (N + 1)) = I at *
        generalize l[N] = d at *
        by_cases h0 : k < 0
        · have f0 : decide (k < 0) = true := by simpa using h0
          clear hd hk ha a0 a1 hkin
          go_enter Try.func33, Try.ntmps33
          go_wp2_with (first
            | (go_at_call 32; refine (inner_calls _ _ _ _ _ HR.out HL.out hc HW.out HAA.out).mono ?_; rw [HI.out]; rintro e w' ⟨rfl, rfl⟩)
            | (go_at_call 31; refine (all_calls _ _ _ _ HR.out HL.out HW.out).mono ?_; rw [HA.out]; rintro e w' ⟨rfl, rfl⟩))
          go_ret2
          exact ⟨none, 0, rfl, Own.nil _ _ _ _, Below.refl _ _⟩
        · have f0 : decide (k < 0) = false := by simpa using h0
          have f1 : decide (prodL l / d ≤ k) = true := by simp; omega
          clear hd hk ha a0 a1 hkin
          go_enter Try.func33, Try.ntmps33
          go_wp2_with (first
            | (go_at_call 32; refine (inner_calls _ _ _ _ _ HR.out HL.out hc HW.out HAA.out).mono ?_; rw [HI.out]; rintro e w' ⟨rfl, rfl⟩)
            | (go_at_call 31; refine (all_calls _ _ _ _ HR.out HL.out HW.out).mono ?_; rw [HA.out]; rintro e w' ⟨rfl, rfl⟩))
          go_ret2
          exact ⟨none, 0, rfl, Own.nil _ _ _ _, Below.refl _ _⟩
    · have HF : Hid (lineS l a k = ([], 1)) := Lib.hid (by rw [lineS, if_pos hd, if_neg hin])
      have HI : Hid (innerS l a = (0, 1)) := Lib.hid (by rw [innerS, if_pos hd, if_neg hin])
      rw [HF.out]
      clear hd hin
      go_enter Try.func33, Try.ntmps33
      go_wp2_with (go_at_call 32; refine (inner_calls _ _ _ _ _ HR.out HL.out hc HW.out HAA.out).mono ?_; rw [HI.out]; rintro e w' ⟨rfl, rfl⟩)
      go_ret2
      exact ⟨none, 0, rfl, Own.nil _ _ _ _, Below.refl _ _⟩
  · have HF : Hid (lineS l a k = ([], 3)) := Lib.hid (by rw [lineS, if_neg hd])
    have HI : Hid (innerS l a = (0, 3)) := Lib.hid (by rw [innerS, if_neg hd])
    rw [HF.out]
    clear hd
    go_enter Try.func33, Try.ntmps33
    go_wp2_with (go_at_call 32; refine (inner_calls _ _ _ _ _ HR.out HL.out hc HW.out HAA.out).mono ?_; rw [HI.out]; rintro e w' ⟨rfl, rfl⟩)
    go_ret2
    exact ⟨none, 0, rfl, Own.nil _ _ _ _, Below.refl _ _⟩
end Go.Proofs.Ytkofhmiakfmcaaa.P
