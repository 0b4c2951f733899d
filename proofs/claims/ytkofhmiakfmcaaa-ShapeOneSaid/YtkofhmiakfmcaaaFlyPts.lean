/- The contracts of package fly's Points and brackenref15's Points. Conditions: words of their kinds. -/
import Derived.Test.YtkofhmiakfmcaaaWing
import Derived.Test.YtkofhmiakfmcaaaRef03b
namespace Go.Proofs.Ytkofhmiakfmcaaa.P
open Go.RowKit
set_option linter.unusedVariables false
set_option linter.unusedSimpArgs false
def turnS (p r : Int) (inv : Bool) : Int := if inv then (backS p r).1 else (rootS p r).1
def ptsS (p r : Int) (inv : Bool) : List Int × Int :=
  if knownS p then (if 2 ≤ r ∧ r ≤ 5 then (if (rootS p r).2 = 0 then ((List.range r.toNat).map (powS p (turnS p r inv)), 0) else ([], 5)) else ([], 4)) else ([], 2)
theorem turnS_turn {p r : Int} (inv : Bool) (h : (rootS p r).2 = 0) : ∃ N : Nat, r = (N : Int) ∧ Turn p (turnS p r inv) (turnS p r (!inv)) N ∧ U64 (turnS p r inv) := by
  obtain ⟨N, rfl, hR⟩ := rootS_is h
  have hb : (backS p (N : Int)).1 = powS p (rootS p N).1 (p - 2).toNat := by rw [hR.back]
  refine ⟨N, rfl, ?_, ?_⟩
  · cases inv
    · simp only [turnS, Bool.not_false, if_true, Bool.false_eq_true, if_false]
      rw [hb]; exact hR.turn
    · simp only [turnS, Bool.not_true, if_true, Bool.false_eq_true, if_false]
      rw [hb]; exact hR.turn.symm
  · cases inv
    · exact u64_rootS _ _
    · show U64 (backS p N).1
      rw [hb]; exact u64_powS _ _ _
theorem backS_ok {p r : Int} (h : (rootS p r).2 = 0) : backS p r = ((backS p r).1, 0) := by
  obtain ⟨N, rfl, hR⟩ := rootS_is h
  rw [hR.back]
theorem backS_no {p r : Int} (h : ¬ (rootS p r).2 = 0) : (backS p r).2 = (rootS p r).2 := by
  rw [backS, if_neg h]
theorem points_calls (p r : Int) (inv : Bool) (w : World) (hp : U64 p) (hr : i64 r) :
    Calls Try.prog 85 #[.int .u64 p, .int .i64 r, .bool inv] w fun e w' => ∃ B b,
      e = .returned (.tuple #[.slice B (ptsS p r inv).1.length b, .int .i64 (ptsS p r inv).2]) ∧ Own w' w.heap.size 37 1 B (ptsS p r inv).1.length b (nums .u64 (ptsS p r inv).1) ∧ Below w.heap.size w w' := by
  have HP := Lib.hid hp
  have HI := Lib.hid hr
  clear hp hr
  by_cases hk : knownS p = true
  case neg =>
    have HF : Hid (ptsS p r inv = ([], 2)) := Lib.hid (by rw [ptsS, if_neg hk])
    have hk2 : knownS p = false := by simpa using hk
    rw [HF.out]
    clear hk
    go_enter Try.func85, Try.ntmps85
    go_wp2_with (go_at_call 43; refine (known_calls _ _).mono ?_; rintro e w' ⟨rfl, rfl⟩)
    go_ret2
    exact ⟨none, 0, rfl, Own.nil _ _ _ _, Below.refl _ _⟩
  by_cases h2 : r < 2
  · have HF : Hid (ptsS p r inv = ([], 4)) := Lib.hid (by rw [ptsS, if_pos hk, if_neg (by omega)])
    have f0 : decide (r < 2) = true := by simpa using h2
    rw [HF.out]
    clear h2
    go_enter Try.func85, Try.ntmps85
    go_wp2_with (go_at_call 43; refine (known_calls _ _).mono ?_; rintro e w' ⟨rfl, rfl⟩)
    go_ret2
    exact ⟨none, 0, rfl, Own.nil _ _ _ _, Below.refl _ _⟩
  by_cases h5 : 5 < r
  · have HF : Hid (ptsS p r inv = ([], 4)) := Lib.hid (by rw [ptsS, if_pos hk, if_neg (by omega)])
    have f0 : decide (r < 2) = false := by simpa using h2
    have f1 : decide (5 < r) = true := by simpa using h5
    rw [HF.out]
    clear h2 h5
    go_enter Try.func85, Try.ntmps85
    go_wp2_with (go_at_call 43; refine (known_calls _ _).mono ?_; rintro e w' ⟨rfl, rfl⟩)
    go_ret2
    exact ⟨none, 0, rfl, Own.nil _ _ _ _, Below.refl _ _⟩
  have f0 : decide (r < 2) = false := by simpa using h2
  have f1 : decide (5 < r) = false := by simpa using h5
  by_cases ho : (rootS p r).2 = 0
  case neg =>
    have HF : Hid (ptsS p r inv = ([], 5)) := Lib.hid (by rw [ptsS, if_pos hk, if_pos (by omega), if_neg ho])
    have HB := Lib.hid (backS_no ho)
    rw [HF.out]
    have g0 : ((rootS p r).2 != 0) = true := by simpa using ho
    clear ho
    have HR1 : Hid (∀ w, Calls Try.prog 62 #[.int .u64 p, .int .i64 r] w fun e w' => e = .returned (.tuple #[.int .u64 (rootS p r).1, .int .i64 (rootS p r).2]) ∧ Below w.heap.size w w') := Lib.hid fun w => root_calls _ _ _ HP.out
    have HR2 : Hid (∀ w, Calls Try.prog 72 #[.int .u64 p, .int .i64 r] w fun e w' => e = .returned (.tuple #[.int .u64 (backS p r).1, .int .i64 (rootS p r).2]) ∧ Below w.heap.size w w') := Lib.hid fun w => by
      have := back_calls p r w HP.out
      rw [HB.out] at this
      exact this
    cases inv
    all_goals
      go_enter Try.func85, Try.ntmps85
      go_wp2_with (first
        | (go_at_call 43; refine (known_calls _ _).mono ?_; rintro e w' ⟨rfl, rfl⟩)
        | (go_at_call 62; refine (HR1.out _).mono ?_; rintro e w' ⟨rfl, hd⟩)
        | (go_at_call 72; refine (HR2.out _).mono ?_; rintro e w' ⟨rfl, hd⟩))
      go_ret2
      exact ⟨none, 0, rfl, Own.nil _ _ _ _, hd⟩
  have HF : Hid (ptsS p r inv = ((List.range r.toNat).map (powS p (turnS p r inv)), 0)) := Lib.hid (by rw [ptsS, if_pos hk, if_pos (by omega), if_pos ho])
  have HF2 : Hid (powersS p (turnS p r inv) r = ((List.range r.toNat).map (powS p (turnS p r inv)), 0)) := Lib.hid (by rw [powersS, if_pos hk, if_pos (by omega)])
  obtain ⟨N, hN, hT, hU⟩ := turnS_turn inv ho
  have HU := Lib.hid hU
  have HB := backS_ok ho
  have HR1 : Hid (∀ w, Calls Try.prog 62 #[.int .u64 p, .int .i64 r] w fun e w' => e = .returned (.tuple #[.int .u64 (turnS p r false), .int .i64 0]) ∧ Below w.heap.size w w') := Lib.hid fun w => by
    have := root_calls p r w HP.out
    rw [ho] at this
    exact this
  have HR2 : Hid (∀ w, Calls Try.prog 72 #[.int .u64 p, .int .i64 r] w fun e w' => e = .returned (.tuple #[.int .u64 (turnS p r true), .int .i64 0]) ∧ Below w.heap.size w w') := Lib.hid fun w => by
    have := back_calls p r w HP.out
    rw [HB] at this
    exact this
  rw [HF.out]
  clear ho hN hT hU HB
  cases inv
  all_goals
    go_enter Try.func85, Try.ntmps85
    go_wp2_with (first
      | (go_at_call 43; refine (known_calls _ _).mono ?_; rintro e w' ⟨rfl, rfl⟩)
      | (go_at_call 62; refine (HR1.out _).mono ?_; rintro e w' ⟨rfl, hd⟩)
      | (go_at_call 72; refine (HR2.out _).mono ?_; rintro e w' ⟨rfl, hd⟩)
      | (go_at_call 60; refine (powers_calls _ _ _ _ HP.out HU.out HI.out).mono ?_; rw [HF2.out]; rintro e w3 ⟨Z, z, rfl, ho3, hb3⟩))
    go_ret2
    exact ⟨Z, z, by simp, ho3.mono hd.size, hd.trans (hb3.mono hd.size)⟩
theorem r15_points (p r : Int) (inv : Bool) (w : World) (hp : U64 p) (hr : i64 r) :
    Calls Try.prog 86 #[.int .u64 p, .int .i64 r, .bool inv] w fun e w' => ∃ B b,
      e = .returned (.tuple #[.slice B (ptsS p r inv).1.length b, .int .i64 (ptsS p r inv).2]) ∧ Own w' w.heap.size 37 1 B (ptsS p r inv).1.length b (nums .u64 (ptsS p r inv).1) ∧ Below w.heap.size w w' := by
  have HP := Lib.hid hp
  have HI := Lib.hid hr
  clear hp hr
  by_cases hk : knownS p = true
  case neg =>
    have HF : Hid (ptsS p r inv = ([], 2)) := Lib.hid (by rw [ptsS, if_neg hk])
    have hk2 : knownS p = false := by simpa using hk
    rw [HF.out]
    clear hk
    go_enter Try.func86, Try.ntmps86
    go_wp2_with (go_at_call 52; refine (r01_known _ _).mono ?_; rintro e w' ⟨rfl, rfl⟩)
    go_ret2
    exact ⟨none, 0, rfl, Own.nil _ _ _ _, Below.refl _ _⟩
  by_cases h2 : r < 2
  · have HF : Hid (ptsS p r inv = ([], 4)) := Lib.hid (by rw [ptsS, if_pos hk, if_neg (by omega)])
    have f0 : decide (r < 2) = true := by simpa using h2
    rw [HF.out]
    clear h2
    go_enter Try.func86, Try.ntmps86
    go_wp2_with (go_at_call 52; refine (r01_known _ _).mono ?_; rintro e w' ⟨rfl, rfl⟩)
    go_ret2
    exact ⟨none, 0, rfl, Own.nil _ _ _ _, Below.refl _ _⟩
  by_cases h5 : 5 < r
  · have HF : Hid (ptsS p r inv = ([], 4)) := Lib.hid (by rw [ptsS, if_pos hk, if_neg (by omega)])
    have f0 : decide (r < 2) = false := by simpa using h2
    have f1 : decide (5 < r) = true := by simpa using h5
    rw [HF.out]
    clear h2 h5
    go_enter Try.func86, Try.ntmps86
    go_wp2_with (go_at_call 52; refine (r01_known _ _).mono ?_; rintro e w' ⟨rfl, rfl⟩)
    go_ret2
    exact ⟨none, 0, rfl, Own.nil _ _ _ _, Below.refl _ _⟩
  have f0 : decide (r < 2) = false := by simpa using h2
  have f1 : decide (5 < r) = false := by simpa using h5
  by_cases ho : (rootS p r).2 = 0
  case neg =>
    have HF : Hid (ptsS p r inv = ([], 5)) := Lib.hid (by rw [ptsS, if_pos hk, if_pos (by omega), if_neg ho])
    rw [HF.out]
    have g0 : ((rootS p r).2 != 0) = true := by simpa using ho
    clear ho
    go_enter Try.func86, Try.ntmps86
    go_wp2_with (first
      | (go_at_call 52; refine (r01_known _ _).mono ?_; rintro e w' ⟨rfl, rfl⟩)
      | (go_at_call 71; refine (r03_root _ _ _ HP.out).mono ?_; rintro e w' ⟨rfl, hd⟩))
    go_ret2
    exact ⟨none, 0, rfl, Own.nil _ _ _ _, hd⟩
  have HF : Hid (ptsS p r inv = ((List.range r.toNat).map (powS p (turnS p r inv)), 0)) := Lib.hid (by rw [ptsS, if_pos hk, if_pos (by omega), if_pos ho])
  obtain ⟨N, hN, hT, hU⟩ := turnS_turn inv ho
  have HU := Lib.hid hU
  have HB : Hid (inv = true → (invS p (rootS p r).1).1 = turnS p r inv) := Lib.hid fun h => by
    subst h
    rw [turnS, if_pos rfl, backS, if_pos ho]
  have HU1 := Lib.hid (u64_rootS p r)
  have HR1 : Hid (∀ w, Calls Try.prog 71 #[.int .u64 p, .int .i64 r] w fun e w' => e = .returned (.tuple #[.int .u64 (rootS p r).1, .int .i64 0]) ∧ Below w.heap.size w w') := Lib.hid fun w => by
    have := r03_root p r w HP.out
    rw [ho] at this
    exact this
  have HTF : Hid (inv = false → turnS p r inv = (rootS p r).1) := Lib.hid fun h => by subst h; rfl
  subst hN
  rw [HF.out, Int.toNat_natCast, show (((List.range N).map (powS p (turnS p (N : Int) inv)), (0 : Int)).1) = (List.range N).map (powS p (turnS p (N : Int) inv)) from rfl, show (((List.range N).map (powS p (turnS p (N : Int) inv)), (0 : Int)).2) = 0 from rfl, show ((List.range N).map (powS p (turnS p (N : Int) inv))).length = N from by simp]
  have hn5 : N ≤ 5 := by omega
  clear ho hT hU HF h2 h5
  generalize turnS p (N : Int) inv = ω at *
  generalize (rootS p (N : Int)).1 = ρ at *
  go_enter Try.func86, Try.ntmps86
  cases inv
  all_goals
    (try (have e0 := HTF.out rfl; subst e0))
    go_wp2_with (first
      | (go_at_call 52; refine (r01_known _ _).mono ?_; rintro e w' ⟨rfl, rfl⟩)
      | (go_at_call 71; refine (HR1.out _).mono ?_; rintro e w3 ⟨rfl, hd⟩)
      | fail)
    (try (refine (r02_inv _ _ _ HP.out HU1.out).mono ?_; rw [HB.out trivial]; rintro e w4 ⟨rfl, ⟨q, rfl⟩⟩; go_wp2_with fail))

    go_loopw [10, 37] (fun o q wr => ∃ (k : Nat) (Z : Option Addr) (z : Nat), k ≤ N ∧ q = .int .i64 k ∧ o = .slice Z k z ∧ Hid (Own wr w'.heap.size 37 1 Z k z (nums .u64 ((List.range k).map (powS p ω)))) ∧ Hid (Below w'.heap.size w' wr)) (fun _ q _ => N - (intOf q).toNat)
    case atStart => exact ⟨0, none, 0, Nat.zero_le _, rfl, rfl, Lib.hid (Own.nil _ _ _ _), Lib.hid (by first | exact hd | exact below_drewN hd _)⟩
    case round =>
      obtain ⟨k, Z, z, hkN, rfl, rfl, HO2, HB2⟩ := hrel
      by_cases hlt : k < N
      · have HSR : Hid ((List.range (k + 1)).map (powS p ω) = (List.range k).map (powS p ω) ++ [powS p ω k]) := Lib.hid (by
          rw [List.range_succ, List.map_append, List.map_singleton])
        go_wp2_with fail
        refine (r02_pow p ω HP.out HU.out k _ (by omega)).mono ?_
        rintro e w5 ⟨rfl, ⟨q2, rfl⟩⟩
        generalize powS p ω k = v at *
        have HOQ := Lib.hid (HO2.out.drewN q2)
        have HBQ := Lib.hid (below_drewN HB2.out q2)
        have HSQ := Lib.hid HBQ.out.size
        generalize wr.drewN q2 = wq at *
        go_wp2_with (at_builtin; refine append_row _ Try.underlying47 info_u64 rfl _ _ rfl w'.heap.size k z 1 1 Z ⟨wq.heap.size, 0, none⟩ ((List.range k).map (powS p ω)) [v] rfl rfl (HOQ.out.grown ((Below.refl _ _).alloc (Nat.le_refl _) _)) (row_new wq [.int .u64 v] 37) rfl (by decide) (Nat.le_trans HSQ.out (by simp)) (by omega) (by omega) ?_; intro g cap2 w6 hown hbel hgrow hlt5)
        have HO6 : Hid (Own w6 w'.heap.size 37 1 (some ⟨g, 0, none⟩) (k + 1) cap2 (nums .u64 ((List.range (k + 1)).map (powS p ω)))) := Lib.hid (by rw [HSR.out]; exact hown)
        have HB6 : Hid (Below w'.heap.size w' w6) := Lib.hid ((HBQ.out.alloc HSQ.out _).trans (hbel.mono (Nat.le_refl _)))
        clear hown hbel hgrow hlt5
        go_roundw
        case rel => exact ⟨k + 1, some ⟨g, 0, none⟩, cap2, by omega, by go_num, rfl, HO6, HB6⟩
        case measure => simp [intOf]; omega
      · have hke : k = N := by omega
        subst hke
        go_wp2
        go_ret2
        exact ⟨Z, z, rfl, HO2.out, HB2.out⟩
end Go.Proofs.Ytkofhmiakfmcaaa.P
