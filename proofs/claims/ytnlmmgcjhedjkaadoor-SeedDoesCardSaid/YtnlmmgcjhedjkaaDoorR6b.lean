
/- The contracts of brackenref06's Forward and Inverse. Conditions: words of their kinds; the slice reads as a list. -/
import Derived.Test.YtnlmmgcjhedjkaaDoorR6a
namespace Go.Proofs.YtnlmmgcjhedjkaaDoor.P
open Go.RowKit
set_option linter.unusedVariables false
set_option linter.unusedSimpArgs false
theorem map_succ {α : Type} (F : Nat → α) (k : Nat) : (List.range (k + 1)).map F = (List.range k).map F ++ [F k] := by rw [List.range_succ, List.map_append, List.map_singleton]
set_option maxRecDepth 100000 in
set_option maxHeartbeats 2000000 in
theorem rfwd6_calls (p : Int) (A : Option Addr) (c n : Nat) (x : List Int) (neg : Bool) (w : World) (hn : x.length = n) (hp : U64 p) (hr : Row w A (nums .u64 x)) (hl : n ≤ 9223372036854775807) (hw : ∀ d ∈ x, U64 d) :
    Calls Tryd.prog 40 #[.int .u64 p, .slice A n c, .bool neg] w fun e w' => ∃ B b,
      e = .returned (.tuple #[.slice B (trS p neg false x).1.length b, .int .i64 (trS p neg false x).2]) ∧ Own w' w.heap.size 40 1 B (trS p neg false x).1.length b (nums .u64 (trS p neg false x).1) ∧ Below w.heap.size w w' := by
  have HP := Lib.hid hp
  have HR := Lib.hid hr
  have HL := Lib.hid hl
  have HW := Lib.hid hw
  have HN := Lib.hid hn
  clear hp hr hl hw hn
  by_cases hc : chk6 p x neg = 0
  case neg =>
    have HF : Hid (trS p neg false x = ([], chk6 p x neg)) := Lib.hid (by rw [trS, if_neg hc])
    have t0 : (chk6 p x neg != 0) = true := by simpa using hc
    rw [HF.out]
    clear hc
    go_enter Tryd.func40, Tryd.ntmps40
    go_wp2_with fail
    refine (rchk6_calls _ _ _ _ x _ _ HN.out HP.out HR.out HL.out).mono ?_
    rintro e w1 ⟨rfl, hb⟩
    have HB := Lib.hid hb
    clear hb
    go_wp2
    go_ret2
    exact ⟨none, 0, rfl, Own.nil _ _ _ _, HB.out⟩
  have HF : Hid (trS p neg false x = (trL p neg false x, 0)) := Lib.hid (by rw [trS, if_pos hc])
  obtain ⟨hk, hin⟩ := chk6_ok hc
  obtain ⟨a, a', c', d, hL⟩ := hk.lk
  have hn1 := hk.n1
  have hn4 := hk.n2
  have ho := hk.root
  have hkn := hk.known
  have hTL := trL_fwd p neg x
  have HLL : Hid ((trL p neg false x).length = n) := Lib.hid (by rw [trL_length]; exact HN.out)
  rw [HF.out, show ((trL p neg false x, (0 : Int)).1) = trL p neg false x from rfl, show ((trL p neg false x, (0 : Int)).2) = 0 from rfl, HLL.out]
  rw [HN.out] at hn1 hn4 ho hTL hL
  have HUW := Lib.hid hL.uw
  have HRT : Hid (∀ w, Calls Tryd.prog 87 #[.int .u64 p, .int .i64 (ordS n neg)] w fun e w' => e = .returned (.tuple #[.int .u64 (rootS p (ordS n neg)).1, .int .i64 0]) ∧ Below w.heap.size w w') := Lib.hid fun w => by
    have := r03_root p (ordS n neg) w HP.out
    rw [ho] at this
    exact this
  clear hk hin hL hkn ho
  have t0 : (chk6 p x neg != 0) = false := by rw [hc]; rfl
  have HCC := Lib.hid hc
  clear hc
  generalize (rootS p (ordS n neg)).1 = W at *
  have HTL : Hid (trL p neg false x = (List.range n).map (fun k => linF p (fun i => W ^ stp neg i k) x)) := Lib.hid hTL
  have HST : Hid (∀ k j, k < n → j < n → ∀ w, Calls Tryd.prog 92 #[.int .i64 (j : Int), .int .i64 (k : Int), .bool neg] w fun e w' => e = .returned (.int .u64 ((stp neg j k : Nat) : Int)) ∧ w' = w) := Lib.hid fun k j hkt hjt w => rstep6_calls neg j k n w hn4 hjt hkt
  have HSB : Hid (∀ k j, k < n → j < n → stp neg j k < 18446744073709551616) := Lib.hid fun k j hkt hjt => Nat.lt_of_le_of_lt (stp_le (neg := neg) hjt hkt hn4) (by decide)
  obtain ⟨xa, rfl⟩ := HR.out.some_of (by intro h0; have := nums_length .u64 x; rw [h0, HN.out] at this; simp at this; omega)
  clear hTL
  go_enter Tryd.func40, Tryd.ntmps40
  go_wp2_with fail
  refine (rchk6_calls _ _ _ _ x _ _ HN.out HP.out HR.out HL.out).mono ?_
  rw [HCC.out]
  rintro e w1 ⟨rfl, hb⟩
  have HB := Lib.hid hb
  clear hb t0
  go_wp2_with (go_at_call 88; refine (rorder6_calls _ _ _ hn4).mono ?_; rintro e w' ⟨rfl, rfl⟩)
  refine (HRT.out _).mono ?_
  rintro e w2 ⟨rfl, hb⟩
  have HB2 := Lib.hid (blT HB.out hb)
  clear hb
  go_wp2
  go_loopw [11, 34] (fun o q wr => ∃ (k : Nat) (Z : Option Addr) (z : Nat), k ≤ n ∧ q = .int .i64 k ∧ o = .slice Z k z ∧ Hid (Own wr w2.heap.size 40 1 Z k z (nums .u64 ((List.range k).map (fun k => linF p (fun i => W ^ stp neg i k) x)))) ∧ Hid (Below w2.heap.size w2 wr)) (fun _ q _ => n - (intOf q).toNat)
  case atStart => exact ⟨0, none, 0, Nat.zero_le _, rfl, rfl, Lib.hid (Own.nil _ _ _ _), Lib.hid (Below.refl _ _)⟩
  case round =>
    obtain ⟨k, Z, z, hk, rfl, rfl, HO, HBW⟩ := hrel
    by_cases hkt : k < n
    · have hs0 : sumF p (fun i => W ^ stp neg i k) x 0 = 0 := sumF_zero _ _ _
      have HS0 := Lib.hid hs0
      clear hs0
      go_wp2
      go_hide hQ
      go_loopw [13, 39] (fun s q ws => ∃ j : Nat, j ≤ n ∧ q = .int .i64 j ∧ s = .int .u64 (sumF p (fun i => W ^ stp neg i k) x j) ∧ Hid (Own ws w2.heap.size 40 1 Z k z (nums .u64 ((List.range k).map (fun k => linF p (fun i => W ^ stp neg i k) x)))) ∧ Hid (Below w2.heap.size w2 ws)) (fun _ q _ => n - (intOf q).toNat)
      case atStart => exact ⟨0, Nat.zero_le _, rfl, by rw [HS0.out], HO, HBW⟩
      case round =>
        obtain ⟨j, hj, rfl, rfl, HO2, HBJ⟩ := hrel
        by_cases hjt : j < n
        · have hjx : j < x.length := by have := HN.out; omega
          have hcx := (HR.out.below (blT HB2.out HBJ.out)).num hjx
          have HUJ := Lib.hid (HW.out _ (List.getElem_mem hjx))
          have HSJ : Hid (addS p (sumF p (fun i => W ^ stp neg i k) x j) (mulS p x[j] (powS p W (stp neg j k))) = sumF p (fun i => W ^ stp neg i k) x (j + 1)) := Lib.hid (by
            have h1 := sumF_step p (fun i => W ^ stp neg i k) x j (v := powS p W (stp neg j k)) (redS_redS _ _)
            rw [getD_at hjx 0] at h1
            exact h1)
          have HSC := Lib.hid (HST.out k j hkt hjt)
          have HSL := Lib.hid (HSB.out k j hkt hjt)
          generalize x[j] = xj at *
          generalize stp neg j k = st at *
          go_wp2_with fail
          refine (HSC.out _).mono ?_
          rintro e w4 ⟨rfl, rfl⟩
          go_wp2_with fail
          refine (r02_pow p W HP.out HUW.out st _ HSL.out).mono ?_
          rintro e w5 ⟨rfl, ⟨q5, rfl⟩⟩
          go_wp2_with fail
          refine (r01_mul p xj (powS p W st) _ HP.out HUJ.out (u64_powS _ _ _)).mono ?_
          rintro e w6 ⟨rfl, rfl⟩
          go_wp2_with fail
          refine (r01_add p _ (mulS p xj (powS p W st)) _ HP.out (u64_sumF _ _ _ _) (u64_mulS _ _ _)).mono ?_
          rw [HSJ.out]
          rintro e w7 ⟨rfl, ⟨q7, rfl⟩⟩
          go_wp2
          go_roundw
          case rel => exact ⟨j + 1, by omega, by go_num, rfl, Lib.hid (HO2.out.drewN _), Lib.hid (below_drewN HBJ.out _)⟩
          case measure => simp [intOf]; omega
        · have hje : j = n := by omega
          have HSE : Hid (sumF p (fun i => W ^ stp neg i k) x j = linF p (fun i => W ^ stp neg i k) x) := Lib.hid (by rw [hje, ← HN.out]; exact sumF_all _ _ _)
          have HMS := Lib.hid (map_succ (fun k => linF p (fun i => W ^ stp neg i k) x) k)
          have HSZ := Lib.hid HBJ.out.size
          rw [HSE.out]
          have HUF : Hid (U64 (linF p (fun i => W ^ stp neg i k) x)) := Lib.hid (u64_linF _ _ _)
          generalize hlf : linF p (fun i => W ^ stp neg i k) x = lf at *
          have HLF := Lib.hid hlf
          clear hje hlf
          go_wp2
          subst hQ
          go_wp2_with (at_builtin; refine append_row _ Tryd.underlying41 info_u64 rfl _ _ rfl w2.heap.size k z 1 1 Z ⟨wr.heap.size, 0, none⟩ ((List.range k).map (fun k => linF p (fun i => W ^ stp neg i k) x)) [lf] rfl rfl (HO2.out.grown ((Below.refl _ _).alloc (Nat.le_refl _) _)) (row_new wr [.int .u64 lf] 40) rfl (by decide) (Nat.le_trans HSZ.out (by simp)) (by omega) (by omega) ?_; intro g cap2 w6 hown hbel hgrow hlt5)
          have HO6 : Hid (Own w6 w2.heap.size 40 1 (some ⟨g, 0, none⟩) (k + 1) cap2 (nums .u64 ((List.range (k + 1)).map (fun k => linF p (fun i => W ^ stp neg i k) x)))) := Lib.hid (by rw [HMS.out]; first | exact hown | (rw [HLF.out]; exact hown))
          have HB6 : Hid (Below w2.heap.size w2 w6) := Lib.hid ((HBJ.out.alloc HSZ.out _).trans (hbel.mono (Nat.le_refl _)))
          clear hown hbel hgrow hlt5
          go_roundw
          case rel => exact ⟨k + 1, some ⟨g, 0, none⟩, cap2, by omega, by go_num, rfl, HO6, HB6⟩
          case measure => simp [intOf]; omega
    · have hke : k = n := by omega
      have HOE : Hid (Own wr w.heap.size 40 1 Z n z (nums .u64 (trL p neg false x))) := Lib.hid (by rw [HTL.out]; have h1 := HO.out.mono HB2.out.size; rw [hke] at h1; exact h1)
      have HBE := Lib.hid (blT HB2.out HBW.out)
      subst hke
      go_wp2
      go_ret2
      exact ⟨_, _, rfl, HOE.out, HBE.out⟩
set_option maxRecDepth 100000 in
set_option maxHeartbeats 2000000 in
theorem rinv6_calls (p : Int) (A : Option Addr) (c n : Nat) (x : List Int) (neg : Bool) (w : World) (hn : x.length = n) (hp : U64 p) (hr : Row w A (nums .u64 x)) (hl : n ≤ 9223372036854775807) (hw : ∀ d ∈ x, U64 d) :
    Calls Tryd.prog 41 #[.int .u64 p, .slice A n c, .bool neg] w fun e w' => ∃ B b,
      e = .returned (.tuple #[.slice B (trS p neg true x).1.length b, .int .i64 (trS p neg true x).2]) ∧ Own w' w.heap.size 40 1 B (trS p neg true x).1.length b (nums .u64 (trS p neg true x).1) ∧ Below w.heap.size w w' := by
  have HP := Lib.hid hp
  have HR := Lib.hid hr
  have HL := Lib.hid hl
  have HW := Lib.hid hw
  have HN := Lib.hid hn
  clear hp hr hl hw hn
  by_cases hc : chk6 p x neg = 0
  case neg =>
    have HF : Hid (trS p neg true x = ([], chk6 p x neg)) := Lib.hid (by rw [trS, if_neg hc])
    have t0 : (chk6 p x neg != 0) = true := by simpa using hc
    rw [HF.out]
    clear hc
    go_enter Tryd.func41, Tryd.ntmps41
    go_wp2_with fail
    refine (rchk6_calls _ _ _ _ x _ _ HN.out HP.out HR.out HL.out).mono ?_
    rintro e w1 ⟨rfl, hb⟩
    have HB := Lib.hid hb
    clear hb
    go_wp2
    go_ret2
    exact ⟨none, 0, rfl, Own.nil _ _ _ _, HB.out⟩
  have HF : Hid (trS p neg true x = (trL p neg true x, 0)) := Lib.hid (by rw [trS, if_pos hc])
  obtain ⟨hk, hin⟩ := chk6_ok hc
  obtain ⟨a, a', c', d, hL⟩ := hk.lk
  have hn1 := hk.n1
  have hn4 := hk.n2
  have ho := backS_ok0 hk.root
  have hkn := hk.known
  have hTL := trL_inv p neg x
  have HLL : Hid ((trL p neg true x).length = n) := Lib.hid (by rw [trL_length]; exact HN.out)
  rw [HF.out, show ((trL p neg true x, (0 : Int)).1) = trL p neg true x from rfl, show ((trL p neg true x, (0 : Int)).2) = 0 from rfl, HLL.out]
  rw [HN.out] at hn1 hn4 ho hTL hL
  have HUW := Lib.hid hL.ub
  have HRT : Hid (∀ w, Calls Tryd.prog 93 #[.int .u64 p, .int .i64 (ordS n neg)] w fun e w' => e = .returned (.tuple #[.int .u64 (backS p (ordS n neg)).1, .int .i64 0]) ∧ Below w.heap.size w w') := Lib.hid fun w => by
    have := r03_back p (ordS n neg) w HP.out
    rw [ho] at this
    exact this
  have hIV := invS_ok hkn hn1 (show n ≤ 8192 by omega)
  have hun : U64 (n : Int) := ⟨by omega, by omega⟩
  have HUN := Lib.hid hun
  have HUL := Lib.hid hL.ul
  have HIC : Hid (∀ w, Calls Tryd.prog 94 #[.int .u64 p, .int .u64 (n : Int)] w fun e w' => e = .returned (.tuple #[.int .u64 (invS p (n : Int)).1, .int .i64 0]) ∧ Drawn0 w w') := Lib.hid fun w => by
    have h1 := r02_inv p (n : Int) w HP.out HUN.out
    rw [show (invS p (n : Int)).2 = 0 by rw [hIV]] at h1
    exact h1
  have hcv : IntKind.u64.wrap (n : Int) = (n : Int) := by rw [IntKind.wrap_u64]; omega
  clear hIV hun
  rw [List.map_map] at hTL
  generalize (invS p (n : Int)).1 = l at *
  clear hk hin hL hkn ho
  have t0 : (chk6 p x neg != 0) = false := by rw [hc]; rfl
  have HCC := Lib.hid hc
  clear hc
  generalize (backS p (ordS n neg)).1 = W at *
  have HTL : Hid (trL p neg true x = (List.range n).map (fun k => mulS p (linF p (fun i => W ^ stp neg k i) x) l)) := Lib.hid hTL
  have HST : Hid (∀ k j, k < n → j < n → ∀ w, Calls Tryd.prog 92 #[.int .i64 (k : Int), .int .i64 (j : Int), .bool neg] w fun e w' => e = .returned (.int .u64 ((stp neg k j : Nat) : Int)) ∧ w' = w) := Lib.hid fun k j hkt hjt w => rstep6_calls neg k j n w hn4 hkt hjt
  have HSB : Hid (∀ k j, k < n → j < n → stp neg k j < 18446744073709551616) := Lib.hid fun k j hkt hjt => Nat.lt_of_le_of_lt (stp_le (neg := neg) hkt hjt hn4) (by decide)
  obtain ⟨xa, rfl⟩ := HR.out.some_of (by intro h0; have := nums_length .u64 x; rw [h0, HN.out] at this; simp at this; omega)
  clear hTL
  go_enter Tryd.func41, Tryd.ntmps41
  go_wp2_with fail
  refine (rchk6_calls _ _ _ _ x _ _ HN.out HP.out HR.out HL.out).mono ?_
  rw [HCC.out]
  rintro e w1 ⟨rfl, hb⟩
  have HB := Lib.hid hb
  clear hb t0
  go_wp2_with (go_at_call 88; refine (rorder6_calls _ _ _ hn4).mono ?_; rintro e w' ⟨rfl, rfl⟩)
  refine (HRT.out _).mono ?_
  rintro e w2 ⟨rfl, hb⟩
  have HB2 := Lib.hid (blT HB.out hb)
  clear hb
  go_wp2_with fail
  refine (HIC.out _).mono ?_
  rintro e w2' ⟨rfl, ⟨q2, rfl⟩⟩
  have HB2 := Lib.hid (below_drewN HB2.out q2)
  generalize w2.drewN q2 = w2 at *
  go_wp2
  go_loopw [13, 44] (fun o q wr => ∃ (k : Nat) (Z : Option Addr) (z : Nat), k ≤ n ∧ q = .int .i64 k ∧ o = .slice Z k z ∧ Hid (Own wr w2.heap.size 40 1 Z k z (nums .u64 ((List.range k).map (fun k => mulS p (linF p (fun i => W ^ stp neg k i) x) l)))) ∧ Hid (Below w2.heap.size w2 wr)) (fun _ q _ => n - (intOf q).toNat)
  case atStart => exact ⟨0, none, 0, Nat.zero_le _, rfl, rfl, Lib.hid (Own.nil _ _ _ _), Lib.hid (Below.refl _ _)⟩
  case round =>
    obtain ⟨k, Z, z, hk, rfl, rfl, HO, HBW⟩ := hrel
    by_cases hkt : k < n
    · have hs0 : sumF p (fun i => W ^ stp neg k i) x 0 = 0 := sumF_zero _ _ _
      have HS0 := Lib.hid hs0
      clear hs0
      go_wp2
      go_hide hQ
      go_loopw [15, 49] (fun s q ws => ∃ j : Nat, j ≤ n ∧ q = .int .i64 j ∧ s = .int .u64 (sumF p (fun i => W ^ stp neg k i) x j) ∧ Hid (Own ws w2.heap.size 40 1 Z k z (nums .u64 ((List.range k).map (fun k => mulS p (linF p (fun i => W ^ stp neg k i) x) l)))) ∧ Hid (Below w2.heap.size w2 ws)) (fun _ q _ => n - (intOf q).toNat)
      case atStart => exact ⟨0, Nat.zero_le _, rfl, by rw [HS0.out], HO, HBW⟩
      case round =>
        obtain ⟨j, hj, rfl, rfl, HO2, HBJ⟩ := hrel
        by_cases hjt : j < n
        · have hjx : j < x.length := by have := HN.out; omega
          have hcx := (HR.out.below (blT HB2.out HBJ.out)).num hjx
          have HUJ := Lib.hid (HW.out _ (List.getElem_mem hjx))
          have HSJ : Hid (addS p (sumF p (fun i => W ^ stp neg k i) x j) (mulS p x[j] (powS p W (stp neg k j))) = sumF p (fun i => W ^ stp neg k i) x (j + 1)) := Lib.hid (by
            have h1 := sumF_step p (fun i => W ^ stp neg k i) x j (v := powS p W (stp neg k j)) (redS_redS _ _)
            rw [getD_at hjx 0] at h1
            exact h1)
          have HSC := Lib.hid (HST.out k j hkt hjt)
          have HSL := Lib.hid (HSB.out k j hkt hjt)
          generalize x[j] = xj at *
          generalize stp neg k j = st at *
          go_wp2_with fail
          refine (HSC.out _).mono ?_
          rintro e w4 ⟨rfl, rfl⟩
          go_wp2_with fail
          refine (r02_pow p W HP.out HUW.out st _ HSL.out).mono ?_
          rintro e w5 ⟨rfl, ⟨q5, rfl⟩⟩
          go_wp2_with fail
          refine (r01_mul p xj (powS p W st) _ HP.out HUJ.out (u64_powS _ _ _)).mono ?_
          rintro e w6 ⟨rfl, rfl⟩
          go_wp2_with fail
          refine (r01_add p _ (mulS p xj (powS p W st)) _ HP.out (u64_sumF _ _ _ _) (u64_mulS _ _ _)).mono ?_
          rw [HSJ.out]
          rintro e w7 ⟨rfl, ⟨q7, rfl⟩⟩
          go_wp2
          go_roundw
          case rel => exact ⟨j + 1, by omega, by go_num, rfl, Lib.hid (HO2.out.drewN _), Lib.hid (below_drewN HBJ.out _)⟩
          case measure => simp [intOf]; omega
        · have hje : j = n := by omega
          have HSE : Hid (sumF p (fun i => W ^ stp neg k i) x j = linF p (fun i => W ^ stp neg k i) x) := Lib.hid (by rw [hje, ← HN.out]; exact sumF_all _ _ _)
          have HMS := Lib.hid (map_succ (fun k => mulS p (linF p (fun i => W ^ stp neg k i) x) l) k)
          have HSZ := Lib.hid HBJ.out.size
          rw [HSE.out]
          have HUF : Hid (U64 (linF p (fun i => W ^ stp neg k i) x)) := Lib.hid (u64_linF _ _ _)
          generalize hlf : linF p (fun i => W ^ stp neg k i) x = lf at *
          have HLF := Lib.hid hlf
          clear hje hlf
          go_wp2
          subst hQ
          go_wp2_with fail
          refine (r01_mul p lf l _ HP.out HUF.out HUL.out).mono ?_
          rintro e w5 ⟨rfl, rfl⟩
          go_wp2_with (at_builtin; refine append_row _ Tryd.underlying41 info_u64 rfl _ _ rfl w2.heap.size k z 1 1 Z ⟨_, 0, none⟩ ((List.range k).map (fun k => mulS p (linF p (fun i => W ^ stp neg k i) x) l)) [mulS p lf l] rfl rfl (HO2.out.grown ((Below.refl _ _).alloc (Nat.le_refl _) _)) (row_new _ [.int .u64 (mulS p lf l)] 40) rfl (by decide) (Nat.le_trans HSZ.out (by simp)) (by omega) (by omega) ?_; intro g cap2 w6 hown hbel hgrow hlt5)
          have HO6 : Hid (Own w6 w2.heap.size 40 1 (some ⟨g, 0, none⟩) (k + 1) cap2 (nums .u64 ((List.range (k + 1)).map (fun k => mulS p (linF p (fun i => W ^ stp neg k i) x) l)))) := Lib.hid (by rw [HMS.out]; first | exact hown | (rw [HLF.out]; exact hown))
          have HB6 : Hid (Below w2.heap.size w2 w6) := Lib.hid ((HBJ.out.alloc HSZ.out _).trans (hbel.mono (Nat.le_refl _)))
          clear hown hbel hgrow hlt5
          go_roundw
          case rel => exact ⟨k + 1, some ⟨g, 0, none⟩, cap2, by omega, by go_num, rfl, HO6, HB6⟩
          case measure => simp [intOf]; omega
    · have hke : k = n := by omega
      have HOE : Hid (Own wr w.heap.size 40 1 Z n z (nums .u64 (trL p neg true x))) := Lib.hid (by rw [HTL.out]; have h1 := HO.out.mono HB2.out.size; rw [hke] at h1; exact h1)
      have HBE := Lib.hid (blT HB2.out HBW.out)
      subst hke
      go_wp2
      go_ret2
      exact ⟨_, _, rfl, HOE.out, HBE.out⟩
end Go.Proofs.YtnlmmgcjhedjkaaDoor.P
