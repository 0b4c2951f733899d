/- The contract of brackenref05's Coord. Conditions: words of their kinds; slices read as lists. -/
import Derived.Test.YtkofhmiakfmcaaaRef05b
namespace Go.Proofs.Ytkofhmiakfmcaaa.P
open Go.RowKit
set_option linter.unusedVariables false
set_option linter.unusedSimpArgs false
theorem r05_coord (A : Option Addr) (c : Nat) (l : List Int) (i : Int) (w : World) (hr : Row w A (nums .i64 l)) (hl : l.length ≤ 9223372036854775807) (hcap : l.length ≤ c) (hw : ∀ d ∈ l, i64 d) (hi : i64 i) :
    Calls Try.prog 37 #[.slice A l.length c, .int .i64 i] w fun e w' => ∃ B b,
      e = .returned (.tuple #[.slice B (coordS l i).1.length b, .int .i64 (coordS l i).2]) ∧ Own w' w.heap.size 3 1 B (coordS l i).1.length b (nums .i64 (coordS l i).1) ∧ Below w.heap.size w w' := by
  have HR := Lib.hid hr
  have HL := Lib.hid hl
  have HW := Lib.hid hw
  clear hr hl hw
  by_cases hd : Dims l
  · have HA := Lib.hid (allS_yes hd)
    by_cases hin : 0 ≤ i ∧ i < prodL l
    · obtain ⟨i0, i1⟩ := hin
      have HF : Hid (coordS l i = (coordL l i, 0)) := Lib.hid (by rw [coordS, if_pos hd, if_pos ⟨i0, i1⟩])
      have HLL : Hid ((coordL l i).length = l.length) := Lib.hid (by simp [coordL])
      have hn1 := hd.n1
      have hn4 := hd.n4
      obtain ⟨x, rfl⟩ := HR.out.some_of (by intro h0; have := nums_length .i64 l; rw [h0] at this; simp at this; omega)
      have HD := Lib.hid hd
      rw [HF.out, show ((coordL l i, (0 : Int)).1) = coordL l i from rfl, show ((coordL l i, (0 : Int)).2) = 0 from rfl, HLL.out]
      have f0 : decide (i < 0) = false := by simp; omega
      have f1 : decide (prodL l ≤ i) = false := by simp; omega
      have hi4 : i ≤ 4095 := by have := hd.all; omega
      clear hd hi
      go_enter Try.func37, Try.ntmps37
      go_wp2_with (go_at_call 36; refine (r05_all _ _ _ _ HR.out HL.out HW.out).mono ?_; rw [HA.out]; rintro e w' ⟨rfl, rfl⟩)
      go_loopw [8, 28] (fun o q wr => ∃ (k : Nat) (Z : Option Addr) (z : Nat), k ≤ l.length ∧ q = .int .i64 k ∧ o = .slice Z k z ∧ Hid (Own wr w'.heap.size 3 1 Z k z (nums .i64 ((List.range k).map (coordF l i)))) ∧ Hid (Below w'.heap.size w' wr)) (fun _ q _ => l.length - (intOf q).toNat)
      case atStart => exact ⟨0, none, 0, Nat.zero_le _, rfl, rfl, Lib.hid (Own.nil _ _ _ _), Lib.hid (Below.refl _ _)⟩
      case round =>
        obtain ⟨k, Z, z, hk, rfl, rfl, HO2, HB2⟩ := hrel
        by_cases hlt : k < l.length
        · have hc : wr.cell? (x.add k) = some (.int .i64 l[k]) := (HR.out.below HB2.out).num hlt
          have HRR := Lib.hid (HR.out.below HB2.out)
          have HC := Lib.hid (coordF_at l i k hlt)
          have hd1 := HD.out.pos.at hlt
          have hP1 := (HD.out.pos.drop (k + 1)).prod
          generalize hd : l[k] = d at *
          generalize hP : prodL (l.drop (k + 1)) = P at *
          have HPE := Lib.hid hP
          have hq0 : 0 ≤ i / P := Int.ediv_nonneg i0 (by omega)
          have hq1 : i / P ≤ i := Int.ediv_le_self _ i0
          have ht1 : i.tdiv P = i / P := Int.tdiv_eq_ediv_of_nonneg i0
          have hwq : IntKind.i64.wrap (i / P) = i / P := wrapI hq0 (by omega)
          have hwq2 : wrap64 (i / P) = i / P := wrap64_id ⟨by omega, by omega⟩
          have ht2 : (i / P).tmod d = i / P % d := Int.tmod_eq_emod_of_nonneg hq0
          have hP0 : ¬ P = 0 := by omega
          have hd0 : ¬ d = 0 := by omega
          have HSZ := Lib.hid HB2.out.size
          clear hP hd
          by_cases hcx : c = k + 1
          case' pos =>
            have hlk : l.length ≤ k + 1 := by omega
            have hce : (c = k + 1) = True := by simp [hcx]
            clear hcx
            go_wp2_with fail
            refine (behind_drop (N := k) _ HRR.out HD.out (.inl ⟨rfl, by omega, by omega⟩)).mono ?_
          case' neg =>
            have hce : (c = k + 1) = False := by simp [hcx]
            clear hcx
            go_wp2_with fail
            refine (behind_drop (N := k) _ HRR.out HD.out (.inr ⟨by simp [Addr.add], rfl⟩)).mono ?_
          all_goals
            rw [HPE.out]
            rintro e w3 ⟨rfl, rfl⟩
            go_wp2_with (at_builtin; refine append_row _ Try.underlying22 info_int rfl _ _ rfl w'.heap.size k z 1 1 Z ⟨w3.heap.size, 0, none⟩ ((List.range k).map (coordF l i)) [i / P % d] rfl rfl (HO2.out.grown ((Below.refl _ _).alloc (Nat.le_refl _) _)) (row_new w3 [.int .i64 (i / P % d)] 3) rfl (by decide) (Nat.le_trans HSZ.out (by simp)) (by omega) (by omega) ?_; intro g cap2 w5 hown hbel hgrow hlt5)
            have HO5 : Hid (Own w5 w'.heap.size 3 1 (some ⟨g, 0, none⟩) (k + 1) cap2 (nums .i64 ((List.range (k + 1)).map (coordF l i)))) := Lib.hid (by
              rw [List.range_succ, List.map_append, List.map_singleton, HC.out]; exact hown)
            have HB5 : Hid (Below w'.heap.size w' w5) := Lib.hid ((HB2.out.alloc HSZ.out _).trans (hbel.mono (Nat.le_refl _)))
            clear hown hbel hgrow hlt5
            go_roundw
            case rel => exact ⟨k + 1, some ⟨g, 0, none⟩, cap2, by omega, by go_num, rfl, HO5, HB5⟩
            case measure => simp [intOf]; omega
        · have hke : k = l.length := by omega
          subst hke
          go_wp2
          go_ret2
          exact ⟨_, _, rfl, HO2.out, HB2.out⟩
    · have HF : Hid (coordS l i = ([], 1)) := Lib.hid (by rw [coordS, if_pos hd, if_neg hin])
      rw [HF.out]
      by_cases h0 : i < 0
      · have f0 : decide (i < 0) = true := by simpa using h0
        clear hin hd
        go_enter Try.func37, Try.ntmps37
        go_wp2_with (go_at_call 36; refine (r05_all _ _ _ _ HR.out HL.out HW.out).mono ?_; rw [HA.out]; rintro e w' ⟨rfl, rfl⟩)
        go_ret2
        exact ⟨none, 0, rfl, Own.nil _ _ _ _, Below.refl _ _⟩
      · have f0 : decide (i < 0) = false := by simpa using h0
        have f1 : decide (prodL l ≤ i) = true := by simp; omega
        clear hin hd
        go_enter Try.func37, Try.ntmps37
        go_wp2_with (go_at_call 36; refine (r05_all _ _ _ _ HR.out HL.out HW.out).mono ?_; rw [HA.out]; rintro e w' ⟨rfl, rfl⟩)
        go_ret2
        exact ⟨none, 0, rfl, Own.nil _ _ _ _, Below.refl _ _⟩
  · have HF : Hid (coordS l i = ([], 3)) := Lib.hid (by rw [coordS, if_neg hd])
    have HA := Lib.hid (allS_no hd)
    rw [HF.out]
    clear hd
    go_enter Try.func37, Try.ntmps37
    go_wp2_with (go_at_call 36; refine (r05_all _ _ _ _ HR.out HL.out HW.out).mono ?_; rw [HA.out]; rintro e w' ⟨rfl, rfl⟩)
    go_ret2
    exact ⟨none, 0, rfl, Own.nil _ _ _ _, Below.refl _ _⟩
end Go.Proofs.Ytkofhmiakfmcaaa.P
