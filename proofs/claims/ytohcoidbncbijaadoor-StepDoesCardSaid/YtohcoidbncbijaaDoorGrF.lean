
/- The contracts of brackenref07's Dims and Few, and that chapter's example. Conditions: words of their kinds; slices read as lists; the library's table lies as it was laid. -/
import Derived.Test.YtohcoidbncbijaaDoorGrZ
import Derived.Test.YtohcoidbncbijaaDoorRef05B
namespace Go.Proofs.YtohcoidbncbijaaDoor.P
open Go.RowKit
set_option linter.unusedVariables false
set_option linter.unusedSimpArgs false
set_option maxRecDepth 100000 in
theorem rdims7_calls (A : Option Addr) (c n : Nat) (ax : List (Int × Bool)) (w : World) (hn : ax.length = n) (hr : Row w A (axR ax)) (hl : n ≤ 8796093022208) :
    Calls Tryd.prog 57 #[.slice A n c] w fun e w' => ∃ B b,
      e = .returned (.slice B n b) ∧ Own w' w.heap.size 3 1 B n b (nums .i64 (dimsA ax)) ∧ Below w.heap.size w w' := by
  have HR := Lib.hid hr
  have HN := Lib.hid hn
  have HDN : Hid ((dimsA ax).length = n) := Lib.hid (by rw [dimsA_length]; exact hn)
  clear hr hn
  go_enter Tryd.func57, Tryd.ntmps57
  go_wp2
  go_loopw [3, 8] (fun o q wr => ∃ (k : Nat) (Z : Option Addr) (z : Nat), k ≤ n ∧ q = .int .i64 k ∧ o = .slice Z k z ∧ Hid (Own wr w.heap.size 3 1 Z k z (nums .i64 ((dimsA ax).take k))) ∧ Hid (Below w.heap.size w wr)) (fun _ q _ => n - (intOf q).toNat)
  case atStart => exact ⟨0, none, 0, Nat.zero_le _, rfl, rfl, Lib.hid (Own.nil _ _ _ _), Lib.hid (Below.refl _ _)⟩
  case round =>
    obtain ⟨k, Z, z, hk, rfl, rfl, HO2, HB2⟩ := hrel
    by_cases hlt : k < n
    · have hka : k < ax.length := by have := HN.out; omega
      obtain ⟨x, rfl⟩ := HR.out.some_of (by intro h0; have h1 := axR_length ax; rw [h0] at h1; simp at h1; omega)
      obtain ⟨hc0, hc1⟩ := ax_cells (HR.out.below HB2.out) hka
      have HTK : Hid ((dimsA ax).take (k + 1) = (dimsA ax).take k ++ [ax[k].1]) := Lib.hid (by
        have h1 : k < (dimsA ax).length := by rw [dimsA_length]; exact hka
        rw [List.take_add_one, List.getElem?_eq_getElem h1]
        simp [dimsA])
      generalize ax[k] = a at *
      obtain ⟨a0, a1⟩ := a
      dsimp only at hc0 hc1
      have HOA := Lib.hid (HO2.out.grown ((Below.refl wr.heap.size wr).alloc (Nat.le_refl _) (.cells #[.int .i64 a0, .bool a1] 32)))
      have HBA := Lib.hid (HB2.out.alloc HB2.out.size (.cells #[.int .i64 a0, .bool a1] 32))
      have HSZ := Lib.hid HBA.out.size
      have HRN : Hid (Row ((wr.alloc (.cells #[.int .i64 a0, .bool a1] 32)).alloc (.cells #[.int .i64 a0] 3)) (some ⟨wr.heap.size + 1, 0, none⟩) (nums .i64 [a0])) := Lib.hid (by
        have h1 := row_new (wr.alloc (.cells #[.int .i64 a0, .bool a1] 32)) [.int .i64 a0] 3
        rw [show (wr.alloc (.cells #[.int .i64 a0, .bool a1] 32)).heap.size = wr.heap.size + 1 by simp] at h1
        exact h1)
      go_wp2_with (at_builtin; go_loud (refine append_row _ Tryd.underlying70 info_int rfl _ _ rfl w.heap.size k z 1 1 Z ⟨_, 0, none⟩ ((dimsA ax).take k) [a0] rfl rfl (HOA.out.grown ((Below.refl _ _).alloc (Nat.le_refl _) _)) HRN.out rfl (by decide) (Nat.le_trans HSZ.out (by simp)) (by omega) (by omega) ?_); intro g cap2 w6 hown hbel hgrow hlt5)
      have HO6 : Hid (Own w6 w.heap.size 3 1 (some ⟨g, 0, none⟩) (k + 1) cap2 (nums .i64 ((dimsA ax).take (k + 1)))) := Lib.hid (by rw [HTK.out]; exact hown)
      have HB6 : Hid (Below w.heap.size w w6) := Lib.hid ((HBA.out.alloc HSZ.out _).trans (hbel.mono (Nat.le_refl _)))
      clear hown hbel hgrow hlt5
      go_roundw
      case rel => exact ⟨k + 1, some ⟨g, 0, none⟩, cap2, by omega, by go_num, rfl, HO6, HB6⟩
      case measure => simp [intOf]; omega
    · have hke : k = n := by omega
      have HE : Hid (Own wr w.heap.size 3 1 Z n z (nums .i64 (dimsA ax))) := Lib.hid (by
        have h1 := HO2.out
        rw [hke, List.take_of_length_le (by rw [HDN.out]; exact Nat.le_refl _)] at h1
        exact h1)
      subst hke
      go_wp2
      go_ret
      exact ⟨_, _, rfl, HE.out, HB2.out⟩
theorem r05_all_n (A : Option Addr) (c n : Nat) (l : List Int) (w : World) (hn : l.length = n) (hr : Row w A (nums .i64 l)) (hl : n ≤ 9223372036854775807) (hw : ∀ d ∈ l, i64 d) :
    Calls Tryd.prog 56 #[.slice A n c] w fun e w' => e = .returned (.tuple #[.int .i64 (allS l).1, .int .i64 (allS l).2]) ∧ w' = w := by
  subst hn; exact r05_all A c l w hr hl hw
set_option maxRecDepth 100000 in
theorem few7_calls (A : Option Addr) (c n : Nat) (ax : List (Int × Bool)) (b : Int) (w : World) (hn : ax.length = n) (hr : Row w A (axR ax)) (hl : n ≤ 8796093022208) (hw : ∀ a ∈ ax, i64 a.1) :
    Calls Tryd.prog 21 #[.slice A n c, .int .i64 b] w fun e w' => ∃ r, e = .returned (.bool r) ∧ Below w.heap.size w w' := by
  have HR := Lib.hid hr
  have HN := Lib.hid hn
  have HDN : Hid ((dimsA ax).length = n) := Lib.hid (by rw [dimsA_length]; exact hn)
  have HDW := Lib.hid (dimsA_i64 hw)
  have hl2 : n ≤ 9223372036854775807 := by omega
  clear hr hn hw
  generalize hg1 : decide ((n : Int) ≤ 10) = b1
  generalize hg2 : ((allS (dimsA ax)).2 != 0) = b2
  generalize hg3 : decide ((allS (dimsA ax)).1 ≤ b) = b3
  cases b1 <;> cases b2 <;> cases b3
  all_goals
    go_enter Tryd.func21, Tryd.ntmps21
    go_wp2_with fail
    refine (rdims7_calls _ _ _ _ _ HN.out HR.out hl).mono ?_
    rintro e w1 ⟨B, b', rfl, ho, hb⟩
    have HB := Lib.hid hb
    have HO := Lib.hid ho.row
    clear ho hb
    go_wp2_with fail
    refine (r05_all_n _ _ _ _ _ HDN.out HO.out hl2 HDW.out).mono ?_
    rintro e w2 ⟨rfl, rfl⟩
    go_wp2
    go_ret
    exact ⟨_, rfl, HB.out⟩
theorem axW_zero (p : Int) (l : List Int) (N o : Nat) : axW p l N false false 0 o = 1 := by
  unfold axW
  simp only [wgt, stp, Bool.false_eq_true, if_false]
  rw [Nat.zero_mul, Int.pow_zero]
theorem ax_unit (l : List Int) (N : Nat) (x : List Int) (v A : Int) (h2 : (l.getD N 1).toNat = 2) (hA : x.getD (sv l N v 0).toNat 0 = A) (hB : x.getD (sv l N v 1).toNat 0 = 0) (hr : redS 998244353 A = A) : axF 998244353 l N false false x v = A := by
  rw [axF_is, h2]
  have e : S 2 (fun c => x.getD (sv l N v c).toNat 0 * axW 998244353 l N false false c (xv l N v).toNat) = A := by
    simp only [S]
    rw [show ((1 : Nat) : Int) = 1 from rfl, show ((0 : Nat) : Int) = 0 from rfl, axW_zero, hA, hB]
    simp
  rw [e, hr]
theorem gr_unit : grS 998244353 [(2, false), (2, false)] false [1, 0, 0, 0] = ([1, 1, 1, 1], 0) := by
  have hk : knownS 998244353 = true := by decide
  have hs : smoothS 2 = true := by decide +kernel
  have hr : (rootS 998244353 2).2 = 0 := by
    unfold rootS
    rw [if_pos (by decide), if_pos (by decide)]
  have hC : Chk7 998244353 [(2, false), (2, false)] := by
    refine ⟨hk, by decide, ?_, ?_⟩
    · intro a ha; simp at ha; subst ha; exact hs
    · intro a ha; simp at ha; subst ha; exact hr
  have hw : wrd7 998244353 [(2, false), (2, false)] [1, 0, 0, 0] = 0 := hC.words (by decide) (by decide)
  have h1 : axL 998244353 [2, 2] 0 false false [1, 0, 0, 0] = [1, 0, 1, 0] := by
    unfold axL
    rw [show (List.range ([1, 0, 0, 0] : List Int).length) = [0, 1, 2, 3] from rfl]
    simp only [List.map_cons, List.map_nil]
    rw [ax_unit _ _ _ _ 1 (by decide) (by decide) (by decide) (by decide), ax_unit _ _ _ _ 0 (by decide) (by decide) (by decide) (by decide), ax_unit _ _ _ _ 1 (by decide) (by decide) (by decide) (by decide), ax_unit _ _ _ _ 0 (by decide) (by decide) (by decide) (by decide)]
  have h2 : axL 998244353 [2, 2] 1 false false [1, 0, 1, 0] = [1, 1, 1, 1] := by
    unfold axL
    rw [show (List.range ([1, 0, 1, 0] : List Int).length) = [0, 1, 2, 3] from rfl]
    simp only [List.map_cons, List.map_nil]
    rw [ax_unit _ _ _ _ 1 (by decide) (by decide) (by decide) (by decide), ax_unit _ _ _ _ 1 (by decide) (by decide) (by decide) (by decide), ax_unit _ _ _ _ 1 (by decide) (by decide) (by decide) (by decide), ax_unit _ _ _ _ 1 (by decide) (by decide) (by decide) (by decide)]
  have hd : dimsA [(2, false), (2, false)] = [2, 2] := by decide
  have g0 : (([(2, false), (2, false)] : List (Int × Bool)).getD 0 (1, false)).2 = false := by decide
  have g1 : (([(2, false), (2, false)] : List (Int × Bool)).getD 1 (1, false)).2 = false := by decide
  have hl : ([(2, false), (2, false)] : List (Int × Bool)).length = 2 := by decide
  generalize ([(2, false), (2, false)] : List (Int × Bool)) = ax at *
  have e : grN 998244353 ax false [1, 0, 0, 0] 2 = [1, 1, 1, 1] := by
    unfold grN grN grN
    rw [hd, g0, g1, h1, h2]
  rw [grS, if_pos hw, hl, e]
end Go.Proofs.YtohcoidbncbijaaDoor.P
