/- Several texts as one: Wing, FlyPts, FlyTwo, FlyFour, FlyFive, FlyDo, FlyW, FbW, FlyN. Conditions: those of each lemma. -/
import Derived.Test.YtohcoidbncbijaaDoorRefB
import Derived.Deep.RegionHeld3
import Derived.WalkMore
import Derived.Laws.EntriesVeiled
import Derived.Test.YtohcoidbncbijaaDoorRef05B
import Derived.Deep.QuietTactic
/- The contracts of package fly's small methods: add, sub, mul. Conditions: words of their kinds; the slice reads as a list. -/
namespace Go.Proofs.YtohcoidbncbijaaDoor.P
open Go.RowKit
set_option linter.unusedVariables false
set_option linter.unusedSimpArgs false
abbrev wing (p : Int) (W : Option Addr) (n c : Nat) : Value := .agg #[.int .u64 p, .slice W n c]
theorem wsub_calls (p : Int) (W : Option Addr) (n c : Nat) (a b : Int) (w : World) (hp : U64 p) (ha : U64 a) (hb : U64 b) :
    Calls Tryd.prog 146 #[wing p W n c, .int .u64 a, .int .u64 b] w fun e w' => e = .returned (.int .u64 (subS p a b)) ∧ Below w.heap.size w w' := by
  have HP := Lib.hid hp
  have HA := Lib.hid ha
  have HB := Lib.hid hb
  clear hp ha hb
  unfold wing
  go_enter Tryd.func146, Tryd.ntmps146
  go_wp2_with (go_at_call 151; refine (sub_calls _ _ _ _ HP.out HA.out HB.out).mono ?_; rintro e w' ⟨rfl, h⟩)
  subst h
  go_ret
  exact ⟨rfl, (Below.refl _ _).alloc (Nat.le_refl _) _⟩
theorem wmul_calls (p : Int) (W : Option Addr) (n c : Nat) (a b : Int) (w : World) (hp : U64 p) (ha : U64 a) (hb : U64 b) :
    Calls Tryd.prog 147 #[wing p W n c, .int .u64 a, .int .u64 b] w fun e w' => e = .returned (.int .u64 (mulS p a b)) ∧ Below w.heap.size w w' := by
  have HP := Lib.hid hp
  have HA := Lib.hid ha
  have HB := Lib.hid hb
  clear hp ha hb
  unfold wing
  go_enter Tryd.func147, Tryd.ntmps147
  go_wp2_with (go_at_call 41; refine (mul_calls _ _ _ _ HP.out HA.out HB.out).mono ?_; rintro e w' ⟨rfl, ⟨q, h⟩⟩)
  subst h
  go_ret
  exact ⟨rfl, below_drewN ((Below.refl _ _).alloc (Nat.le_refl _) _) q⟩
theorem addL_take (p : Int) (l : List Int) (k : Nat) (h : k < l.length) : addL p (l.take (k + 1)) = addS p (addL p (l.take k)) l[k] := by
  rw [List.take_succ_eq_append_getElem h, addL, List.foldl_append]; rfl
theorem wadd_calls (p : Int) (W : Option Addr) (n c : Nat) (A : Option Addr) (ca : Nat) (l : List Int) (w : World) (hp : U64 p) (hr : Row w A (nums .u64 l)) (hl : l.length ≤ 9223372036854775807) (hw : ∀ a ∈ l, U64 a) :
    Calls Tryd.prog 145 #[wing p W n c, .slice A l.length ca] w fun e w' => e = .returned (.int .u64 (addL p l)) ∧ Below w.heap.size w w' := by
  have HP := Lib.hid hp
  have HW := Lib.hid hw
  have HB : Hid (Below w.heap.size w (w.alloc (.cells #[.int .u64 p, .slice W n c] 135))) := Lib.hid ((Below.refl _ _).alloc (Nat.le_refl _) _)
  cases l with
  | nil =>
    clear hr hw hp hl
    unfold wing
    go_enter Tryd.func145, Tryd.ntmps145
    go_wp2
    refine wp_loop_once ?_
    go_wp2
    go_ret
    exact ⟨rfl, HB.out⟩
  | cons d0 l0 =>
    obtain ⟨y, rfl⟩ := hr.some_of (by simp [nums])
    generalize d0 :: l0 = l at *
    have HR := Lib.hid (hr.below HB.out)
    have HC : Hid ((w.alloc (.cells #[.int .u64 p, .slice W n c] 135)).cell? ⟨w.heap.size, 0, none⟩ = some (.int .u64 p)) := Lib.hid ((row_new w [.int .u64 p, .slice W n c] 135).cell (i := 0) rfl)
    clear hr hw hp
    unfold wing
    go_enter Tryd.func145, Tryd.ntmps145
    go_wp2
    generalize (w.alloc (.cells #[.int .u64 p, .slice W n c] 135)) = w1 at *
    have hcp := HC.out
    go_loopw [5, 10] (fun s i wr => ∃ k : Nat, k ≤ l.length ∧ i = .int .i64 k ∧ s = .int .u64 (addL p (l.take k)) ∧ wr = w1) (fun _ i _ => l.length - (intOf i).toNat)
    case atStart => exact ⟨0, Nat.zero_le _, rfl, rfl, rfl⟩
    case round =>
      obtain ⟨k, hk, rfl, rfl, rfl⟩ := hrel
      by_cases hlt : k < l.length
      · have hc := HR.out.num hlt
        have HU : Hid (U64 l[k]) := Lib.hid (HW.out _ (List.getElem_mem hlt))
        have HT := Lib.hid (addL_take p l k hlt)
        have HS := Lib.hid (u64_addL p (l.take k))
        generalize l[k] = d at *
        generalize addL p (l.take k) = s at *
        go_wp2_with (go_at_call 40; refine (add_calls _ _ _ _ HP.out HS.out HU.out).mono ?_; rintro e w' ⟨rfl, rfl⟩)
        go_roundw
        case rel => exact ⟨k + 1, by omega, by go_num, by rw [HT.out], by trivial⟩
        case measure => simp [intOf]; omega
      · have hk2 : k = l.length := by omega
        subst hk2
        have HT : Hid (l.take l.length = l) := Lib.hid (List.take_length)
        go_wp2
        go_ret
        exact ⟨by rw [HT.out]; rfl, HB.out⟩
theorem wadd_n (p : Int) (W : Option Addr) (n c : Nat) (A : Option Addr) (m ca : Nat) (l : List Int) (w : World) (hm : l.length = m) (hp : U64 p) (hr : Row w A (nums .u64 l)) (hl : m ≤ 9223372036854775807) (hw : ∀ a ∈ l, U64 a) :
    Calls Tryd.prog 145 #[.agg #[.int .u64 p, .slice W n c], .slice A m ca] w fun e w' => e = .returned (.int .u64 (addL p l)) ∧ Below w.heap.size w w' := by
  subst hm
  exact wadd_calls p W n c A ca l w hp hr hl hw
end Go.Proofs.YtohcoidbncbijaaDoor.P
/- The contracts of package fly's Points and brackenref15's Points. Conditions: words of their kinds. -/
namespace Go.Proofs.YtohcoidbncbijaaDoor.P
open Go.RowKit
set_option linter.unusedVariables false
set_option linter.unusedSimpArgs false
def turnS (p r : Int) (inv : Bool) : Int := if inv then (backS p r).1 else (rootS p r).1
def ptsS (p r : Int) (inv : Bool) : List Int × Int :=
  if knownS p then (if 2 ≤ r ∧ r ≤ 5 then (if (rootS p r).2 = 0 then ((List.range r.toNat).map (powS p (turnS p r inv)), 0) else ([], 5)) else ([], 4)) else ([], 2)
theorem turnS_turn {p r : Int} (inv : Bool) (h : (rootS p r).2 = 0) : ∃ N : Nat, r = (N : Int) ∧ Turn p (turnS p r inv) (turnS p r (!inv)) N ∧ U64 (turnS p r inv) := by
  obtain ⟨N, rfl, hR⟩ := rootS_is h
  have hb : (backS p (N : Int)).1 = powS p (rootS p N).1 (p - 2).toNat := by rw [hR.back]
  refine ⟨N, rfl, ?_, ?_⟩
  · cases inv
    · simp only [turnS, Bool.not_false, if_true, Bool.false_eq_true, if_false]
      rw [hb]; exact hR.turn
    · simp only [turnS, Bool.not_true, if_true, Bool.false_eq_true, if_false]
      rw [hb]; exact hR.turn.symm
  · cases inv
    · exact u64_rootS _ _
    · show U64 (backS p N).1
      rw [hb]; exact u64_powS _ _ _
theorem backS_ok {p r : Int} (h : (rootS p r).2 = 0) : backS p r = ((backS p r).1, 0) := by
  obtain ⟨N, rfl, hR⟩ := rootS_is h
  rw [hR.back]
theorem backS_no {p r : Int} (h : ¬ (rootS p r).2 = 0) : (backS p r).2 = (rootS p r).2 := by
  rw [backS, if_neg h]
theorem points_calls (p r : Int) (inv : Bool) (w : World) (hp : U64 p) (hr : i64 r) :
    Calls Tryd.prog 115 #[.int .u64 p, .int .i64 r, .bool inv] w fun e w' => ∃ B b,
      e = .returned (.tuple #[.slice B (ptsS p r inv).1.length b, .int .i64 (ptsS p r inv).2]) ∧ Own w' w.heap.size 22 1 B (ptsS p r inv).1.length b (nums .u64 (ptsS p r inv).1) ∧ Below w.heap.size w w' := by
  have HP := Lib.hid hp
  have HI := Lib.hid hr
  clear hp hr
  by_cases hk : knownS p = true
  case neg =>
    have HF : Hid (ptsS p r inv = ([], 2)) := Lib.hid (by rw [ptsS, if_neg hk])
    have hk2 : knownS p = false := by simpa using hk
    rw [HF.out]
    clear hk
    go_enter Tryd.func115, Tryd.ntmps115
    go_wp2_with (go_at_call 58; refine (known_calls _ _).mono ?_; rintro e w' ⟨rfl, rfl⟩)
    go_ret2
    exact ⟨none, 0, rfl, Own.nil _ _ _ _, Below.refl _ _⟩
  by_cases h2 : r < 2
  · have HF : Hid (ptsS p r inv = ([], 4)) := Lib.hid (by rw [ptsS, if_pos hk, if_neg (by omega)])
    have f0 : decide (r < 2) = true := by simpa using h2
    rw [HF.out]
    clear h2
    go_enter Tryd.func115, Tryd.ntmps115
    go_wp2_with (go_at_call 58; refine (known_calls _ _).mono ?_; rintro e w' ⟨rfl, rfl⟩)
    go_ret2
    exact ⟨none, 0, rfl, Own.nil _ _ _ _, Below.refl _ _⟩
  by_cases h5 : 5 < r
  · have HF : Hid (ptsS p r inv = ([], 4)) := Lib.hid (by rw [ptsS, if_pos hk, if_neg (by omega)])
    have f0 : decide (r < 2) = false := by simpa using h2
    have f1 : decide (5 < r) = true := by simpa using h5
    rw [HF.out]
    clear h2 h5
    go_enter Tryd.func115, Tryd.ntmps115
    go_wp2_with (go_at_call 58; refine (known_calls _ _).mono ?_; rintro e w' ⟨rfl, rfl⟩)
    go_ret2
    exact ⟨none, 0, rfl, Own.nil _ _ _ _, Below.refl _ _⟩
  have f0 : decide (r < 2) = false := by simpa using h2
  have f1 : decide (5 < r) = false := by simpa using h5
  by_cases ho : (rootS p r).2 = 0
  case neg =>
    have HF : Hid (ptsS p r inv = ([], 5)) := Lib.hid (by rw [ptsS, if_pos hk, if_pos (by omega), if_neg ho])
    have HB := Lib.hid (backS_no ho)
    rw [HF.out]
    have g0 : ((rootS p r).2 != 0) = true := by simpa using ho
    clear ho
    have HR1 : Hid (∀ w, Calls Tryd.prog 62 #[.int .u64 p, .int .i64 r] w fun e w' => e = .returned (.tuple #[.int .u64 (rootS p r).1, .int .i64 (rootS p r).2]) ∧ Below w.heap.size w w') := Lib.hid fun w => root_calls _ _ _ HP.out
    have HR2 : Hid (∀ w, Calls Tryd.prog 111 #[.int .u64 p, .int .i64 r] w fun e w' => e = .returned (.tuple #[.int .u64 (backS p r).1, .int .i64 (rootS p r).2]) ∧ Below w.heap.size w w') := Lib.hid fun w => by
      have := back_calls p r w HP.out
      rw [HB.out] at this
      exact this
    cases inv
    all_goals
      go_enter Tryd.func115, Tryd.ntmps115
      go_wp2_with (first
        | (go_at_call 58; refine (known_calls _ _).mono ?_; rintro e w' ⟨rfl, rfl⟩)
        | (go_at_call 62; refine (HR1.out _).mono ?_; rintro e w' ⟨rfl, hd⟩)
        | (go_at_call 111; refine (HR2.out _).mono ?_; rintro e w' ⟨rfl, hd⟩))
      go_ret2
      exact ⟨none, 0, rfl, Own.nil _ _ _ _, hd⟩
  have HF : Hid (ptsS p r inv = ((List.range r.toNat).map (powS p (turnS p r inv)), 0)) := Lib.hid (by rw [ptsS, if_pos hk, if_pos (by omega), if_pos ho])
  have HF2 : Hid (powersS p (turnS p r inv) r = ((List.range r.toNat).map (powS p (turnS p r inv)), 0)) := Lib.hid (by rw [powersS, if_pos hk, if_pos (by omega)])
  obtain ⟨N, hN, hT, hU⟩ := turnS_turn inv ho
  have HU := Lib.hid hU
  have HB := backS_ok ho
  have HR1 : Hid (∀ w, Calls Tryd.prog 62 #[.int .u64 p, .int .i64 r] w fun e w' => e = .returned (.tuple #[.int .u64 (turnS p r false), .int .i64 0]) ∧ Below w.heap.size w w') := Lib.hid fun w => by
    have := root_calls p r w HP.out
    rw [ho] at this
    exact this
  have HR2 : Hid (∀ w, Calls Tryd.prog 111 #[.int .u64 p, .int .i64 r] w fun e w' => e = .returned (.tuple #[.int .u64 (turnS p r true), .int .i64 0]) ∧ Below w.heap.size w w') := Lib.hid fun w => by
    have := back_calls p r w HP.out
    rw [HB] at this
    exact this
  rw [HF.out]
  clear ho hN hT hU HB
  cases inv
  all_goals
    go_enter Tryd.func115, Tryd.ntmps115
    go_wp2_with (first
      | (go_at_call 58; refine (known_calls _ _).mono ?_; rintro e w' ⟨rfl, rfl⟩)
      | (go_at_call 62; refine (HR1.out _).mono ?_; rintro e w' ⟨rfl, hd⟩)
      | (go_at_call 111; refine (HR2.out _).mono ?_; rintro e w' ⟨rfl, hd⟩)
      | (go_at_call 73; refine (powers_calls _ _ _ _ HP.out HU.out HI.out).mono ?_; rw [HF2.out]; rintro e w3 ⟨Z, z, rfl, ho3, hb3⟩))
    go_ret2
    exact ⟨Z, z, by simp, ho3.mono hd.size, hd.trans (hb3.mono hd.size)⟩
theorem r15_points (p r : Int) (inv : Bool) (w : World) (hp : U64 p) (hr : i64 r) :
    Calls Tryd.prog 128 #[.int .u64 p, .int .i64 r, .bool inv] w fun e w' => ∃ B b,
      e = .returned (.tuple #[.slice B (ptsS p r inv).1.length b, .int .i64 (ptsS p r inv).2]) ∧ Own w' w.heap.size 22 1 B (ptsS p r inv).1.length b (nums .u64 (ptsS p r inv).1) ∧ Below w.heap.size w w' := by
  have HP := Lib.hid hp
  have HI := Lib.hid hr
  clear hp hr
  by_cases hk : knownS p = true
  case neg =>
    have HF : Hid (ptsS p r inv = ([], 2)) := Lib.hid (by rw [ptsS, if_neg hk])
    have hk2 : knownS p = false := by simpa using hk
    rw [HF.out]
    clear hk
    go_enter Tryd.func128, Tryd.ntmps128
    go_wp2_with (go_at_call 107; refine (r01_known _ _).mono ?_; rintro e w' ⟨rfl, rfl⟩)
    go_ret2
    exact ⟨none, 0, rfl, Own.nil _ _ _ _, Below.refl _ _⟩
  by_cases h2 : r < 2
  · have HF : Hid (ptsS p r inv = ([], 4)) := Lib.hid (by rw [ptsS, if_pos hk, if_neg (by omega)])
    have f0 : decide (r < 2) = true := by simpa using h2
    rw [HF.out]
    clear h2
    go_enter Tryd.func128, Tryd.ntmps128
    go_wp2_with (go_at_call 107; refine (r01_known _ _).mono ?_; rintro e w' ⟨rfl, rfl⟩)
    go_ret2
    exact ⟨none, 0, rfl, Own.nil _ _ _ _, Below.refl _ _⟩
  by_cases h5 : 5 < r
  · have HF : Hid (ptsS p r inv = ([], 4)) := Lib.hid (by rw [ptsS, if_pos hk, if_neg (by omega)])
    have f0 : decide (r < 2) = false := by simpa using h2
    have f1 : decide (5 < r) = true := by simpa using h5
    rw [HF.out]
    clear h2 h5
    go_enter Tryd.func128, Tryd.ntmps128
    go_wp2_with (go_at_call 107; refine (r01_known _ _).mono ?_; rintro e w' ⟨rfl, rfl⟩)
    go_ret2
    exact ⟨none, 0, rfl, Own.nil _ _ _ _, Below.refl _ _⟩
  have f0 : decide (r < 2) = false := by simpa using h2
  have f1 : decide (5 < r) = false := by simpa using h5
  by_cases ho : (rootS p r).2 = 0
  case neg =>
    have HF : Hid (ptsS p r inv = ([], 5)) := Lib.hid (by rw [ptsS, if_pos hk, if_pos (by omega), if_neg ho])
    rw [HF.out]
    have g0 : ((rootS p r).2 != 0) = true := by simpa using ho
    clear ho
    go_enter Tryd.func128, Tryd.ntmps128
    go_wp2_with (first
      | (go_at_call 107; refine (r01_known _ _).mono ?_; rintro e w' ⟨rfl, rfl⟩)
      | (go_at_call 85; refine (r03_root _ _ _ HP.out).mono ?_; rintro e w' ⟨rfl, hd⟩))
    go_ret2
    exact ⟨none, 0, rfl, Own.nil _ _ _ _, hd⟩
  have HF : Hid (ptsS p r inv = ((List.range r.toNat).map (powS p (turnS p r inv)), 0)) := Lib.hid (by rw [ptsS, if_pos hk, if_pos (by omega), if_pos ho])
  obtain ⟨N, hN, hT, hU⟩ := turnS_turn inv ho
  have HU := Lib.hid hU
  have HB : Hid (inv = true → (invS p (rootS p r).1).1 = turnS p r inv) := Lib.hid fun h => by
    subst h
    rw [turnS, if_pos rfl, backS, if_pos ho]
  have HU1 := Lib.hid (u64_rootS p r)
  have HR1 : Hid (∀ w, Calls Tryd.prog 85 #[.int .u64 p, .int .i64 r] w fun e w' => e = .returned (.tuple #[.int .u64 (rootS p r).1, .int .i64 0]) ∧ Below w.heap.size w w') := Lib.hid fun w => by
    have := r03_root p r w HP.out
    rw [ho] at this
    exact this
  have HTF : Hid (inv = false → turnS p r inv = (rootS p r).1) := Lib.hid fun h => by subst h; rfl
  subst hN
  rw [HF.out, Int.toNat_natCast, show (((List.range N).map (powS p (turnS p (N : Int) inv)), (0 : Int)).1) = (List.range N).map (powS p (turnS p (N : Int) inv)) from rfl, show (((List.range N).map (powS p (turnS p (N : Int) inv)), (0 : Int)).2) = 0 from rfl, show ((List.range N).map (powS p (turnS p (N : Int) inv))).length = N from by simp]
  have hn5 : N ≤ 5 := by omega
  clear ho hT hU HF h2 h5
  generalize turnS p (N : Int) inv = ω at *
  generalize (rootS p (N : Int)).1 = ρ at *
  go_enter Tryd.func128, Tryd.ntmps128
  cases inv
  all_goals
    (try (have e0 := HTF.out rfl; subst e0))
    go_wp2_with (first
      | (go_at_call 107; refine (r01_known _ _).mono ?_; rintro e w' ⟨rfl, rfl⟩)
      | (go_at_call 85; refine (HR1.out _).mono ?_; rintro e w3 ⟨rfl, hd⟩)
      | fail)
    (try (refine (r02_inv _ _ _ HP.out HU1.out).mono ?_; rw [HB.out trivial]; rintro e w4 ⟨rfl, ⟨q, rfl⟩⟩; go_wp2_with fail))

    go_loopw [10, 37] (fun o q wr => ∃ (k : Nat) (Z : Option Addr) (z : Nat), k ≤ N ∧ q = .int .i64 k ∧ o = .slice Z k z ∧ Hid (Own wr w'.heap.size 22 1 Z k z (nums .u64 ((List.range k).map (powS p ω)))) ∧ Hid (Below w'.heap.size w' wr)) (fun _ q _ => N - (intOf q).toNat)
    case atStart => exact ⟨0, none, 0, Nat.zero_le _, rfl, rfl, Lib.hid (Own.nil _ _ _ _), Lib.hid (by first | exact hd | exact below_drewN hd _)⟩
    case round =>
      obtain ⟨k, Z, z, hkN, rfl, rfl, HO2, HB2⟩ := hrel
      by_cases hlt : k < N
      · have HSR : Hid ((List.range (k + 1)).map (powS p ω) = (List.range k).map (powS p ω) ++ [powS p ω k]) := Lib.hid (by
          rw [List.range_succ, List.map_append, List.map_singleton])
        go_wp2_with fail
        refine (r02_pow p ω HP.out HU.out k _ (by omega)).mono ?_
        rintro e w5 ⟨rfl, ⟨q2, rfl⟩⟩
        generalize powS p ω k = v at *
        have HOQ := Lib.hid (HO2.out.drewN q2)
        have HBQ := Lib.hid (below_drewN HB2.out q2)
        have HSQ := Lib.hid HBQ.out.size
        generalize wr.drewN q2 = wq at *
        go_wp2_with (at_builtin; refine append_row _ Tryd.underlying41 info_u64 rfl _ _ rfl w'.heap.size k z 1 1 Z ⟨wq.heap.size, 0, none⟩ ((List.range k).map (powS p ω)) [v] rfl rfl (HOQ.out.grown ((Below.refl _ _).alloc (Nat.le_refl _) _)) (row_new wq [.int .u64 v] 22) rfl (by decide) (Nat.le_trans HSQ.out (by simp)) (by omega) (by omega) ?_; intro g cap2 w6 hown hbel hgrow hlt5)
        have HO6 : Hid (Own w6 w'.heap.size 22 1 (some ⟨g, 0, none⟩) (k + 1) cap2 (nums .u64 ((List.range (k + 1)).map (powS p ω)))) := Lib.hid (by rw [HSR.out]; exact hown)
        have HB6 : Hid (Below w'.heap.size w' w6) := Lib.hid ((HBQ.out.alloc HSQ.out _).trans (hbel.mono (Nat.le_refl _)))
        clear hown hbel hgrow hlt5
        go_roundw
        case rel => exact ⟨k + 1, some ⟨g, 0, none⟩, cap2, by omega, by go_num, rfl, HO6, HB6⟩
        case measure => simp [intOf]; omega
      · have hke : k = N := by omega
        subst hke
        go_wp2
        go_ret2
        exact ⟨Z, z, rfl, HO2.out, HB2.out⟩
end Go.Proofs.YtohcoidbncbijaaDoor.P
/- The contracts of package fly's two, three, four, five. Conditions: words of their kinds; the slices read as lists. -/
namespace Go.Proofs.YtohcoidbncbijaaDoor.P
open Go.RowKit
set_option linter.unusedVariables false
set_option linter.unusedSimpArgs false
theorem keepc {w w' : World} {a : Addr} {v : Value} (hb : Below w.heap.size w w') (h : w.cell? a = some v) : w'.cell? a = some v := (hb.cell (World.block_lt_of_cell? w a h)).trans h
theorem keepa {w : World} {o : Obj} {a : Addr} {v : Value} (h : w.cell? a = some v) : (w.alloc o).cell? a = some v := keepc ((Below.refl _ _).alloc (Nat.le_refl _) _) h
theorem keep4 {w w' : World} {a b c d : Addr} {va vb vc vd : Value} (hb : Below w.heap.size w w') (h : w.cell? a = some va ∧ w.cell? b = some vb ∧ w.cell? c = some vc ∧ w.cell? d = some vd) :
    w'.cell? a = some va ∧ w'.cell? b = some vb ∧ w'.cell? c = some vc ∧ w'.cell? d = some vd := ⟨keepc hb h.1, keepc hb h.2.1, keepc hb h.2.2.1, keepc hb h.2.2.2⟩
theorem keep5 {w w' : World} {a b c d e : Addr} {va vb vc vd ve : Value} (hb : Below w.heap.size w w') (h : w.cell? a = some va ∧ w.cell? b = some vb ∧ w.cell? c = some vc ∧ w.cell? d = some vd ∧ w.cell? e = some ve) :
    w'.cell? a = some va ∧ w'.cell? b = some vb ∧ w'.cell? c = some vc ∧ w'.cell? d = some vd ∧ w'.cell? e = some ve := ⟨keepc hb h.1, keepc hb h.2.1, keepc hb h.2.2.1, keepc hb h.2.2.2.1, keepc hb h.2.2.2.2⟩
theorem keep6 {w w' : World} {a b c d e f : Addr} {va vb vc vd ve vf : Value} (hb : Below w.heap.size w w') (h : w.cell? a = some va ∧ w.cell? b = some vb ∧ w.cell? c = some vc ∧ w.cell? d = some vd ∧ w.cell? e = some ve ∧ w.cell? f = some vf) :
    w'.cell? a = some va ∧ w'.cell? b = some vb ∧ w'.cell? c = some vc ∧ w'.cell? d = some vd ∧ w'.cell? e = some ve ∧ w'.cell? f = some vf := ⟨keepc hb h.1, keepc hb h.2.1, keepc hb h.2.2.1, keepc hb h.2.2.2.1, keepc hb h.2.2.2.2.1, keepc hb h.2.2.2.2.2⟩
theorem blA {w W : World} (h : Below w.heap.size w W) (o : Obj) : Below w.heap.size w (W.alloc o) := h.alloc h.size o
theorem blD {w W : World} (h : Below w.heap.size w W) : Below w.heap.size w W.drew := below_drewN h 1
theorem blC {w W W' : World} (h : Below w.heap.size w W) (hb : Below W.heap.size W W') : Below w.heap.size w W' := h.trans (hb.mono h.size)
theorem own_lit (w : World) (B : Nat) (E : TypeId) (vs : List Value) (n : Nat) (hB : B ≤ w.heap.size) (hn : vs.length = n) (h : n ≤ 9223372036854775807) :
    Own (w.alloc (.cells vs.toArray E)) B E 1 (some ⟨w.heap.size, 0, none⟩) n n vs :=
  ⟨by simp [hn], .inr ⟨w.heap.size, n, vs.toArray, rfl, hB, heap_alloc_new w _, Nat.le_refl _, by unfold maxLen; omega, by simp [hn], by simp [List.take_of_length_le (Nat.le_of_eq hn)]⟩⟩
theorem row_new2 (w : World) (a b : Int) (t : TypeId) : Row (w.alloc (.cells #[.int .u64 a, .int .u64 b] t)) (some ⟨w.heap.size, 0, none⟩) (nums .u64 [a, b]) := row_new w [.int .u64 a, .int .u64 b] t
theorem row_new2e (w : World) (g : Nat) (a b : Int) (t : TypeId) (h : g = w.heap.size) : Row (w.alloc (.cells #[.int .u64 a, .int .u64 b] t)) (some ⟨g, 0, none⟩) (nums .u64 [a, b]) := by
  subst h; exact row_new2 w a b t
theorem Row.alloc {w : World} {A : Option Addr} {cs : List Value} (h : Row w A cs) (o : Obj) : Row (w.alloc o) A cs := h.below ((Below.refl _ _).alloc (Nat.le_refl _) _)
theorem Row.drew {w : World} {A : Option Addr} {cs : List Value} (h : Row w A cs) : Row w.drew A cs := h
set_option maxRecDepth 100000 in
set_option maxHeartbeats 4000000 in
theorem two_calls (p : Int) (W : Option Addr) (n c : Nat) (x : Addr) (ca : Nat) (x0 x1 : Int) (w : World) (hp : U64 p) (hr : Row w (some x) (nums .u64 [x0, x1])) (h0 : U64 x0) (h1 : U64 x1) :
    Calls Tryd.prog 116 #[wing p W n c, .slice (some x) 2 ca] w fun e w' => ∃ g b,
      e = .returned (.slice (some ⟨g, 0, none⟩) 2 b) ∧ Own w' w.heap.size 22 1 (some ⟨g, 0, none⟩) 2 b (nums .u64 (two p x0 x1)) ∧ Below w.heap.size w w' := by
  have HP := Lib.hid hp
  have H0 := Lib.hid h0
  have H1 := Lib.hid h1
  have HB : Hid (Below w.heap.size w (w.alloc (.cells #[.int .u64 p, .slice W n c] 135))) := Lib.hid ((Below.refl _ _).alloc (Nat.le_refl _) _)
  have HR := Lib.hid (hr.below HB.out)
  have hN : ∀ (i : Nat) (v : Value), #[Value.int .u64 p, .slice W n c].toList[i]? = some v → (w.alloc (.cells #[.int .u64 p, .slice W n c] 135)).cell? ((⟨w.heap.size, 0, none⟩ : Addr).add i) = some v := fun i v h => (row_new w [.int .u64 p, .slice W n c] 135).cell h
  have hc0 : (w.alloc (.cells #[.int .u64 p, .slice W n c] 135)).cell? ⟨w.heap.size, 0, none⟩ = some (.int .u64 p) := hN 0 _ rfl
  have hc1 : (w.alloc (.cells #[.int .u64 p, .slice W n c] 135)).cell? ⟨w.heap.size, 1, none⟩ = some (.slice W n c) := hN 1 _ rfl
  have hx0 : (w.alloc (.cells #[.int .u64 p, .slice W n c] 135)).cell? x = some (.int .u64 x0) := HR.out.cell (i := 0) rfl
  have hx1 : (w.alloc (.cells #[.int .u64 p, .slice W n c] 135)).cell? ⟨x.block, x.off + 1, none⟩ = some (.int .u64 x1) := HR.out.cell (i := 1) rfl
  clear hN hr hp h0 h1
  unfold wing
  go_enter Tryd.func116, Tryd.ntmps116
  go_wp2
  generalize hw1 : (w.alloc (.cells #[.int .u64 p, .slice W n c] 135)) = w1 at *
  generalize hH : w.heap.size = H at *
  go_region_held3 (fun w' => w'.cell? ⟨H, 0, none⟩ = some (.int .u64 p) ∧ w'.cell? ⟨H, 1, none⟩ = some (.slice W n c) ∧ w'.cell? x = some (.int .u64 x0) ∧ w'.cell? ⟨x.block, x.off + 1, none⟩ = some (.int .u64 x1))
    (first | exact keep4 (by assumption) (by assumption) | go_keep)
    (first
      | (go_at_call 145; (with_reducible refine (wadd_n p W n c _ 2 2 [x0, x1] _ rfl HP.out ?row (by decide) ?all).mono ?_); (case row => repeat (first | with_reducible exact row_new2 _ _ _ _ | refine Row.drew ?_ | refine Row.alloc ?_ _ | refine Row.below ?_ (by assumption))); (case all => simp [H0.out, H1.out]); rintro e w' ⟨rfl, hb⟩)
      | (go_at_call 146; refine (wsub_calls p W n c _ _ _ HP.out H0.out H1.out).mono ?_; rintro e w' ⟨rfl, hb⟩))
  subst hH
  go_wp2
  go_ret
  have hl : Below w.heap.size w w' := by repeat (first | exact HB.out | refine blA ?_ _ | refine blD ?_ | refine blC ?_ (by assumption))
  exact ⟨_, _, rfl, own_lit w' _ _ (nums .u64 (two p x0 x1)) 2 hl.size rfl (by omega), blA hl _⟩
set_option maxRecDepth 100000 in
set_option maxHeartbeats 4000000 in
theorem three_calls (p : Int) (y : Addr) (c : Nat) (x : Addr) (ca : Nat) (v0 v1 v2 x0 x1 x2 : Int) (w : World) (hp : U64 p) (hy : Row w (some y) (nums .u64 [v0, v1, v2])) (hr : Row w (some x) (nums .u64 [x0, x1, x2])) (hv : U64 v1) (h0 : U64 x0) (h1 : U64 x1) (h2 : U64 x2) :
    Calls Tryd.prog 117 #[wing p (some y) 3 c, .slice (some x) 3 ca] w fun e w' => ∃ g b,
      e = .returned (.slice (some ⟨g, 0, none⟩) 3 b) ∧ Own w' w.heap.size 22 1 (some ⟨g, 0, none⟩) 3 b (nums .u64 (three p v1 x0 x1 x2)) ∧ Below w.heap.size w w' := by
  have HP := Lib.hid hp
  have HV := Lib.hid hv
  have H0 := Lib.hid h0
  have H1 := Lib.hid h1
  have H2 := Lib.hid h2
  have HB : Hid (Below w.heap.size w (w.alloc (.cells #[.int .u64 p, .slice (some y) 3 c] 135))) := Lib.hid ((Below.refl _ _).alloc (Nat.le_refl _) _)
  have HR := Lib.hid (hr.below HB.out)
  have HY := Lib.hid (hy.below HB.out)
  have hN : ∀ (i : Nat) (v : Value), #[Value.int .u64 p, .slice (some y) 3 c].toList[i]? = some v → (w.alloc (.cells #[.int .u64 p, .slice (some y) 3 c] 135)).cell? ((⟨w.heap.size, 0, none⟩ : Addr).add i) = some v := fun i v h => (row_new w [.int .u64 p, .slice (some y) 3 c] 135).cell h
  have hc0 : (w.alloc (.cells #[.int .u64 p, .slice (some y) 3 c] 135)).cell? ⟨w.heap.size, 0, none⟩ = some (.int .u64 p) := hN 0 _ rfl
  have hc1 : (w.alloc (.cells #[.int .u64 p, .slice (some y) 3 c] 135)).cell? ⟨w.heap.size, 1, none⟩ = some (.slice (some y) 3 c) := hN 1 _ rfl
  have hx0 : (w.alloc (.cells #[.int .u64 p, .slice (some y) 3 c] 135)).cell? x = some (.int .u64 x0) := HR.out.cell (i := 0) rfl
  have hx1 : (w.alloc (.cells #[.int .u64 p, .slice (some y) 3 c] 135)).cell? ⟨x.block, x.off + 1, none⟩ = some (.int .u64 x1) := HR.out.cell (i := 1) rfl
  have hx2 : (w.alloc (.cells #[.int .u64 p, .slice (some y) 3 c] 135)).cell? ⟨x.block, x.off + 2, none⟩ = some (.int .u64 x2) := HR.out.cell (i := 2) rfl
  have hy1 : (w.alloc (.cells #[.int .u64 p, .slice (some y) 3 c] 135)).cell? ⟨y.block, y.off + 1, none⟩ = some (.int .u64 v1) := HY.out.cell (i := 1) rfl
  clear hN hr hp h0 h1 h2 hv hy HY
  unfold wing
  go_enter Tryd.func117, Tryd.ntmps117
  go_wp2
  generalize hw1 : (w.alloc (.cells #[.int .u64 p, .slice (some y) 3 c] 135)) = w1 at *
  generalize hH : w.heap.size = H at *
  go_region_held3 (fun w' => w'.cell? ⟨H, 0, none⟩ = some (.int .u64 p) ∧ w'.cell? ⟨H, 1, none⟩ = some (.slice (some y) 3 c) ∧ w'.cell? ⟨x.block, x.off + 1, none⟩ = some (.int .u64 x1) ∧ w'.cell? ⟨x.block, x.off + 2, none⟩ = some (.int .u64 x2) ∧ w'.cell? ⟨y.block, y.off + 1, none⟩ = some (.int .u64 v1))
    (first | exact keep5 (by assumption) (by assumption) | go_keep)
    (first
      | (go_at_call 147; refine (wmul_calls p (some y) 3 c _ _ _ HP.out (u64_subS _ _ _) HV.out).mono ?_; rintro e w' ⟨rfl, hb⟩)
      | (go_at_call 146; refine (wsub_calls p (some y) 3 c _ _ _ HP.out H1.out H2.out).mono ?_; rintro e w' ⟨rfl, hb⟩))
  have hb2 : Below w1.heap.size w1 w' := by repeat (first | exact Below.refl _ _ | refine blA ?_ _ | refine blD ?_ | refine blC ?_ (by assumption))
  have HB2 := Lib.hid hb2
  have HR2 := Lib.hid (HR.out.below hb2)
  have hc0 := keepc hb2 hc0
  have hc1 := keepc hb2 hc1
  have hx0 := keepc hb2 hx0
  have hx1 := keepc hb2 hx1
  have hx2 := keepc hb2 hx2
  clear hb2 hb
  go_wp2
  have HT := Lib.hid (u64_mulS p (subS p x1 x2) v1)
  have HF : Hid (three p v1 x0 x1 x2 = [addL p [x0, x1, x2], addL p [subS p x0 x2, mulS p (subS p x1 x2) v1], subS p (subS p x0 x1) (mulS p (subS p x1 x2) v1)]) := Lib.hid rfl
  generalize mulS p (subS p x1 x2) v1 = t at *
  go_region_held3 (fun w' => w'.cell? ⟨H, 0, none⟩ = some (.int .u64 p) ∧ w'.cell? ⟨H, 1, none⟩ = some (.slice (some y) 3 c) ∧ w'.cell? x = some (.int .u64 x0) ∧ w'.cell? ⟨x.block, x.off + 1, none⟩ = some (.int .u64 x1) ∧ w'.cell? ⟨x.block, x.off + 2, none⟩ = some (.int .u64 x2))
    (first | exact keep5 (by assumption) (by assumption) | go_keep)
    (first
      | (go_at_call 145; (with_reducible refine (wadd_n p (some y) 3 c _ 3 ca [x0, x1, x2] _ rfl HP.out ?row (by decide) ?all).mono ?_); (case row => repeat (first | exact HR2.out | refine Row.drew ?_ | refine Row.alloc ?_ _ | refine Row.below ?_ (by assumption))); (case all => simp [H0.out, H1.out, H2.out]); rintro e w' ⟨rfl, hb⟩)
      | (go_at_call 145; (with_reducible refine (wadd_n p (some y) 3 c _ 2 2 [subS p x0 x2, t] _ rfl HP.out ?row (by decide) ?all).mono ?_); (case row => repeat (first | with_reducible exact row_new2 _ _ _ _ | refine Row.drew ?_ | refine Row.alloc ?_ _ | refine Row.below ?_ (by assumption))); (case all => simp [u64_subS, HT.out]); rintro e w' ⟨rfl, hb⟩)
      | (go_at_call 146; refine (wsub_calls p (some y) 3 c _ _ _ HP.out ?ha ?hb).mono ?_; (case ha => first | with_reducible exact H0.out | with_reducible exact u64_subS _ _ _); (case hb => first | with_reducible exact H1.out | with_reducible exact H2.out | with_reducible exact HT.out); rintro e w' ⟨rfl, hb⟩))
  subst hH
  go_wp2
  go_ret
  have hl : Below w.heap.size w w' := by repeat (first | exact HB.out.trans (HB2.out.mono HB.out.size) | refine blA ?_ _ | refine blD ?_ | refine blC ?_ (by assumption))
  exact ⟨_, _, rfl, by rw [HF.out]; exact own_lit w' _ _ (nums .u64 [addL p [x0, x1, x2], addL p [subS p x0 x2, t], subS p (subS p x0 x1) t]) 3 hl.size rfl (by omega), blA hl _⟩
end Go.Proofs.YtohcoidbncbijaaDoor.P
/- The contract of package fly's four. Conditions: words of their kinds; the slices read as lists. -/
namespace Go.Proofs.YtohcoidbncbijaaDoor.P
open Go.RowKit
set_option linter.unusedVariables false
set_option linter.unusedSimpArgs false
set_option maxRecDepth 100000 in
set_option maxHeartbeats 4000000 in
theorem four_calls (p : Int) (y : Addr) (c : Nat) (x : Addr) (ca : Nat) (v0 v1 v2 v3 x0 x1 x2 x3 : Int) (w : World) (hp : U64 p) (hy : Row w (some y) (nums .u64 [v0, v1, v2, v3])) (hr : Row w (some x) (nums .u64 [x0, x1, x2, x3])) (hv : U64 v1) (h0 : U64 x0) (h1 : U64 x1) (h2 : U64 x2) (h3 : U64 x3) :
    Calls Tryd.prog 118 #[wing p (some y) 4 c, .slice (some x) 4 ca] w fun e w' => ∃ g b,
      e = .returned (.slice (some ⟨g, 0, none⟩) 4 b) ∧ Own w' w.heap.size 22 1 (some ⟨g, 0, none⟩) 4 b (nums .u64 (four p v1 x0 x1 x2 x3)) ∧ Below w.heap.size w w' := by
  have HP := Lib.hid hp
  have HV := Lib.hid hv
  have H0 := Lib.hid h0
  have H1 := Lib.hid h1
  have H2 := Lib.hid h2
  have H3 := Lib.hid h3
  have HB : Hid (Below w.heap.size w (w.alloc (.cells #[.int .u64 p, .slice (some y) 4 c] 135))) := Lib.hid ((Below.refl _ _).alloc (Nat.le_refl _) _)
  have HR := Lib.hid (hr.below HB.out)
  have HY := Lib.hid (hy.below HB.out)
  have hN : ∀ (i : Nat) (v : Value), #[Value.int .u64 p, .slice (some y) 4 c].toList[i]? = some v → (w.alloc (.cells #[.int .u64 p, .slice (some y) 4 c] 135)).cell? ((⟨w.heap.size, 0, none⟩ : Addr).add i) = some v := fun i v h => (row_new w [.int .u64 p, .slice (some y) 4 c] 135).cell h
  have hc0 : (w.alloc (.cells #[.int .u64 p, .slice (some y) 4 c] 135)).cell? ⟨w.heap.size, 0, none⟩ = some (.int .u64 p) := hN 0 _ rfl
  have hc1 : (w.alloc (.cells #[.int .u64 p, .slice (some y) 4 c] 135)).cell? ⟨w.heap.size, 1, none⟩ = some (.slice (some y) 4 c) := hN 1 _ rfl
  have hx0 : (w.alloc (.cells #[.int .u64 p, .slice (some y) 4 c] 135)).cell? x = some (.int .u64 x0) := HR.out.cell (i := 0) rfl
  have hx1 : (w.alloc (.cells #[.int .u64 p, .slice (some y) 4 c] 135)).cell? ⟨x.block, x.off + 1, none⟩ = some (.int .u64 x1) := HR.out.cell (i := 1) rfl
  have hx2 : (w.alloc (.cells #[.int .u64 p, .slice (some y) 4 c] 135)).cell? ⟨x.block, x.off + 2, none⟩ = some (.int .u64 x2) := HR.out.cell (i := 2) rfl
  have hx3 : (w.alloc (.cells #[.int .u64 p, .slice (some y) 4 c] 135)).cell? ⟨x.block, x.off + 3, none⟩ = some (.int .u64 x3) := HR.out.cell (i := 3) rfl
  have hy1 : (w.alloc (.cells #[.int .u64 p, .slice (some y) 4 c] 135)).cell? ⟨y.block, y.off + 1, none⟩ = some (.int .u64 v1) := HY.out.cell (i := 1) rfl
  clear hN hr hp h0 h1 h2 h3 hv hy HY
  unfold wing
  go_enter Tryd.func118, Tryd.ntmps118
  go_wp2
  generalize hw1 : (w.alloc (.cells #[.int .u64 p, .slice (some y) 4 c] 135)) = w1 at *
  generalize hH : w.heap.size = H at *
  go_region_held3 (fun w' => w'.cell? ⟨H, 0, none⟩ = some (.int .u64 p) ∧ w'.cell? ⟨H, 1, none⟩ = some (.slice (some y) 4 c) ∧ w'.cell? x = some (.int .u64 x0) ∧ w'.cell? ⟨x.block, x.off + 1, none⟩ = some (.int .u64 x1) ∧ w'.cell? ⟨x.block, x.off + 2, none⟩ = some (.int .u64 x2) ∧ w'.cell? ⟨x.block, x.off + 3, none⟩ = some (.int .u64 x3))
    (first | exact keep6 (by assumption) (by assumption) | go_keep)
    (first
      | (go_at_call 116; (with_reducible refine (two_calls p (some y) 4 c _ 2 x0 x2 _ HP.out ?row H0.out H2.out).mono ?_); (case row => repeat (first | (with_reducible exact row_new2 _ _ _ _) | ((with_reducible refine row_new2e _ _ _ _ _ ?_); simp; done) | (with_reducible refine Row.drew ?_) | (with_reducible refine Row.alloc ?_ _) | (with_reducible refine Row.below ?_ (by assumption)))); rintro e w2 ⟨gE, bE, rfl, hoE, hbE⟩)
      | (go_at_call 116; (with_reducible refine (two_calls p (some y) 4 c _ 2 x1 x3 _ HP.out ?row H1.out H3.out).mono ?_); (case row => repeat (first | (with_reducible exact row_new2 _ _ _ _) | ((with_reducible refine row_new2e _ _ _ _ _ ?_); simp; done) | (with_reducible refine Row.drew ?_) | (with_reducible refine Row.alloc ?_ _) | (with_reducible refine Row.below ?_ (by assumption)))); rintro e w3 ⟨gO, bO, rfl, hoO, hbO⟩))
  all_goals
    have h23 : Below w2.heap.size w2 w3 := by repeat (first | with_reducible exact Below.refl _ _ | with_reducible refine blA ?_ _ | with_reducible refine blD ?_ | refine blC ?_ (by assumption))
    have hb2 : Below w1.heap.size w1 w3 := by
      clear h23
      repeat (first | with_reducible exact Below.refl _ _ | with_reducible refine blA ?_ _ | with_reducible refine blD ?_ | refine blC ?_ (by assumption))
    have hE := (hoE.grown h23).row
    have hO := hoO.row
    have HB2 := Lib.hid hb2
    have hc0 := keepc hb2 hc0
    have hc1 := keepc hb2 hc1
    have hy1 := keepc hb2 hy1
    have he0 : w3.cell? ⟨gE, 0, none⟩ = some (.int .u64 (addL p [x0, x2])) := hE.cell (i := 0) rfl
    have he1 : w3.cell? ⟨gE, 1, none⟩ = some (.int .u64 (subS p x0 x2)) := hE.cell (i := 1) rfl
    have ho0 : w3.cell? ⟨gO, 0, none⟩ = some (.int .u64 (addL p [x1, x3])) := hO.cell (i := 0) rfl
    have ho1 : w3.cell? ⟨gO, 1, none⟩ = some (.int .u64 (subS p x1 x3)) := hO.cell (i := 1) rfl
    clear hb2 h23 hE hO hoE hbE hoO hbO hx0 hx1 hx2 hx3
    go_wp2
    go_region_held3 (fun w' => w'.cell? ⟨H, 0, none⟩ = some (.int .u64 p) ∧ w'.cell? ⟨H, 1, none⟩ = some (.slice (some y) 4 c) ∧ w'.cell? ⟨gO, 1, none⟩ = some (.int .u64 (subS p x1 x3)) ∧ w'.cell? ⟨y.block, y.off + 1, none⟩ = some (.int .u64 v1))
      (first | exact keep4 (by assumption) (by assumption) | go_keep)
      (first
        | (go_at_call 147; refine (wmul_calls p (some y) 4 c _ _ _ HP.out (u64_subS _ _ _) HV.out).mono ?_; rintro e w4 ⟨rfl, hb4⟩))
    have hb5 : Below w3.heap.size w3 w4 := by repeat (first | with_reducible exact Below.refl _ _ | with_reducible refine blA ?_ _ | with_reducible refine blD ?_ | refine blC ?_ (by assumption))
    have HB5 : Hid (Below w1.heap.size w1 w4) := Lib.hid (blC HB2.out hb5)
    have hc0 := keepc hb5 hc0
    have hc1 := keepc hb5 hc1
    have he0 := keepc hb5 he0
    have he1 := keepc hb5 he1
    have ho0 := keepc hb5 ho0
    clear hb5 hb4 HB2 hy1 ho1
    go_wp2
    have HT := Lib.hid (u64_mulS p (subS p x1 x3) v1)
    have HF : Hid (four p v1 x0 x1 x2 x3 = [addL p [addL p [x0, x2], addL p [x1, x3]], addL p [subS p x0 x2, mulS p (subS p x1 x3) v1], subS p (addL p [x0, x2]) (addL p [x1, x3]), subS p (subS p x0 x2) (mulS p (subS p x1 x3) v1)]) := Lib.hid rfl
    have HE0 := Lib.hid (u64_addL p [x0, x2])
    have HE1 := Lib.hid (u64_subS p x0 x2)
    have HO0 := Lib.hid (u64_addL p [x1, x3])
    generalize mulS p (subS p x1 x3) v1 = t at *
    generalize addL p [x0, x2] = e0 at *
    generalize addL p [x1, x3] = o0 at *
    generalize subS p x0 x2 = e1 at *
    go_region_held3 (fun w' => w'.cell? ⟨H, 0, none⟩ = some (.int .u64 p) ∧ w'.cell? ⟨H, 1, none⟩ = some (.slice (some y) 4 c) ∧ w'.cell? ⟨gE, 0, none⟩ = some (.int .u64 e0) ∧ w'.cell? ⟨gE, 1, none⟩ = some (.int .u64 e1) ∧ w'.cell? ⟨gO, 0, none⟩ = some (.int .u64 o0))
      (first | exact keep5 (by assumption) (by assumption) | go_keep)
      (first
        | (go_at_call 145; (with_reducible refine (wadd_n p (some y) 4 c _ 2 2 [e0, o0] _ rfl HP.out ?row (by decide) ?all).mono ?_); (case row => repeat (first | (with_reducible exact row_new2 _ _ _ _) | ((with_reducible refine row_new2e _ _ _ _ _ ?_); simp; done) | (with_reducible refine Row.drew ?_) | (with_reducible refine Row.alloc ?_ _) | (with_reducible refine Row.below ?_ (by assumption)))); (case all => simp [HE0.out, HO0.out]); rintro e w5 ⟨rfl, hb5⟩)
        | (go_at_call 145; (with_reducible refine (wadd_n p (some y) 4 c _ 2 2 [e1, t] _ rfl HP.out ?row (by decide) ?all).mono ?_); (case row => repeat (first | (with_reducible exact row_new2 _ _ _ _) | ((with_reducible refine row_new2e _ _ _ _ _ ?_); simp; done) | (with_reducible refine Row.drew ?_) | (with_reducible refine Row.alloc ?_ _) | (with_reducible refine Row.below ?_ (by assumption)))); (case all => simp [HE1.out, HT.out]); rintro e w5 ⟨rfl, hb6⟩)
        | (go_at_call 146; (with_reducible refine (wsub_calls p (some y) 4 c e0 o0 _ HP.out HE0.out HO0.out).mono ?_); rintro e w5 ⟨rfl, hb7⟩)
        | (go_at_call 146; (with_reducible refine (wsub_calls p (some y) 4 c e1 t _ HP.out HE1.out HT.out).mono ?_); rintro e w6 ⟨rfl, hb8⟩))
    all_goals
      subst hH
      go_wp2
      go_ret
      have hl : Below w.heap.size w w6 := by repeat (first | with_reducible exact HB.out.trans (HB5.out.mono HB.out.size) | with_reducible refine blA ?_ _ | with_reducible refine blD ?_ | refine blC ?_ (by assumption))
      exact ⟨_, _, rfl, by rw [HF.out]; exact own_lit w6 _ _ (nums .u64 [addL p [e0, o0], addL p [e1, t], subS p e0 o0, subS p e1 t]) 4 hl.size rfl (by omega), blA hl _⟩
end Go.Proofs.YtohcoidbncbijaaDoor.P
/- The contract of package fly's five. Conditions: words of their kinds; the slices read as lists. -/
namespace Go.Proofs.YtohcoidbncbijaaDoor.P
open Go.RowKit
set_option linter.unusedVariables false
set_option linter.unusedSimpArgs false
theorem getD_of {l : List Int} {k : Nat} (h : k < l.length) (v : Int) : l.getD k v = l[k] := by
  rw [List.getD_eq_getElem?_getD, List.getElem?_eq_getElem h]; rfl
/-- What five's word u has summed at t, its first word raw. -/
def fiveG (p a : Int) (l : List Int) (u t : Nat) : Int := if t = 1 then l.getD 0 0 else fiveF p a l u t
theorem fiveG_one (p a : Int) (l : List Int) (u : Nat) : fiveG p a l u 1 = l.getD 0 0 := rfl
theorem fiveG_step {p a b : Int} (h : Turn p a b 5) (l : List Int) (u t : Nat) (ht : 1 ≤ t) : addL p [fiveG p a l u t, mulS p (l.getD t 0) (powS p a (t * u % 5))] = fiveG p a l u (t + 1) := by
  have e : ∀ s m, addL p [s, m] = addS p (redS p s) m := fun s m => by simp [addL, addS]
  have e2 : fiveG p a l u (t + 1) = fiveF p a l u (t + 1) := if_neg (by omega)
  rw [e2, e, ← fiveF_step h l u t]
  congr 1
  unfold fiveG
  split
  · rename_i h1
    subst h1
    unfold fiveF
    simp [S]
  · exact redS_redS _ _
theorem u64_fiveG {p a : Int} {l : List Int} (hl : ∀ d ∈ l, U64 d) (u t : Nat) : U64 (fiveG p a l u t) := by
  unfold fiveG
  split
  · rw [List.getD_eq_getElem?_getD]
    cases h : l[0]? with
    | none => exact (show U64 0 by decide)
    | some v => exact hl v (List.mem_of_getElem? h)
  · exact u64_redS _ _
/-- What five has told when u words are over. -/
def fiveL (p a : Int) (l : List Int) (u : Nat) : List Int := (List.range u).map (doF p a l)
theorem fiveL_one (p a : Int) (l : List Int) (h : l.length = 5) : fiveL p a l 1 = [addL p l] := by
  obtain ⟨x0, x1, x2, x3, x4, rfl⟩ : ∃ x0 x1 x2 x3 x4, l = [x0, x1, x2, x3, x4] := by
    match l, h with
    | [x0, x1, x2, x3, x4], _ => exact ⟨x0, x1, x2, x3, x4, rfl⟩
  simp [fiveL, doF, S, addL, addS, redS_add_left]
theorem fiveL_step {p a : Int} (l : List Int) (h : l.length = 5) (u : Nat) : fiveL p a l (u + 1) = fiveL p a l u ++ [fiveG p a l u 5] := by
  rw [fiveL, List.range_succ, List.map_append, List.map_singleton, fiveG, if_neg (by decide), ← h, fiveF_all]
  rfl
theorem fiveL_all (p a : Int) (l : List Int) (h : l.length = 5) : fiveL p a l 5 = doL p a l := by rw [doL, h]; rfl
set_option maxRecDepth 100000 in
set_option maxHeartbeats 4000000 in
theorem five_calls (p a b : Int) (y : Addr) (c : Nat) (x : Addr) (ca : Nat) (l : List Int) (w : World) (hp : U64 p) (hT : Turn p a b 5) (hy : Row w (some y) (nums .u64 ((List.range 5).map (powS p a)))) (hr : Row w (some x) (nums .u64 l)) (hl : l.length = 5) (hw : ∀ d ∈ l, U64 d) :
    Calls Tryd.prog 119 #[wing p (some y) 5 c, .slice (some x) 5 ca] w fun e w' => ∃ g b,
      e = .returned (.slice (some ⟨g, 0, none⟩) 5 b) ∧ Own w' w.heap.size 22 1 (some ⟨g, 0, none⟩) 5 b (nums .u64 (doL p a l)) ∧ Below w.heap.size w w' := by
  have HP := Lib.hid hp
  have HT := Lib.hid hT
  have HW := Lib.hid hw
  have HLE := Lib.hid hl
  have HB : Hid (Below w.heap.size w (w.alloc (.cells #[.int .u64 p, .slice (some y) 5 c] 135))) := Lib.hid ((Below.refl _ _).alloc (Nat.le_refl _) _)
  have HR := Lib.hid (hr.below HB.out)
  have HY := Lib.hid (hy.below HB.out)
  have hN : ∀ (i : Nat) (v : Value), #[Value.int .u64 p, .slice (some y) 5 c].toList[i]? = some v → (w.alloc (.cells #[.int .u64 p, .slice (some y) 5 c] 135)).cell? ((⟨w.heap.size, 0, none⟩ : Addr).add i) = some v := fun i v h => (row_new w [.int .u64 p, .slice (some y) 5 c] 135).cell h
  have hc0 : (w.alloc (.cells #[.int .u64 p, .slice (some y) 5 c] 135)).cell? ⟨w.heap.size, 0, none⟩ = some (.int .u64 p) := hN 0 _ rfl
  have hc1 : (w.alloc (.cells #[.int .u64 p, .slice (some y) 5 c] 135)).cell? ⟨w.heap.size, 1, none⟩ = some (.slice (some y) 5 c) := hN 1 _ rfl
  clear hN hr hp hw hy hT
  unfold wing
  go_enter Tryd.func119, Tryd.ntmps119
  go_wp2_with fail
  generalize hw1 : (w.alloc (.cells #[.int .u64 p, .slice (some y) 5 c] 135)) = w1 at *
  refine (wadd_n p (some y) 5 c _ 5 ca l _ hl HP.out HR.out (by decide) HW.out).mono ?_
  rintro e w2 ⟨rfl, hb⟩
  have HL1 := Lib.hid (fiveL_one p a l hl)
  have HX0 : Hid (Below w.heap.size w w2) := Lib.hid (blC HB.out hb)
  have HR2 := Lib.hid (HR.out.below hb)
  have HY2 := Lib.hid (HY.out.below hb)
  have HC0 := Lib.hid (keepc hb hc0)
  have HC1 := Lib.hid (keepc hb hc1)
  clear hb hc0 hc1 hl
  have hown := own_lit w2 w2.heap.size 22 (nums .u64 [addL p l]) 1 (Nat.le_refl _) rfl (by decide)
  rw [← HL1.out] at hown
  have HO1 : Hid (Own (w2.alloc (.cells #[.int .u64 (addL p l)] 22)) w2.heap.size 22 1 (some ⟨w2.heap.size, 0, none⟩) 1 1 (nums .u64 (fiveL p a l 1))) := Lib.hid (by rw [HL1.out] at hown ⊢; exact hown)
  have HB1 : Hid (Below w2.heap.size w2 (w2.alloc (.cells #[.int .u64 (addL p l)] 22))) := Lib.hid (blA (Below.refl _ _) _)
  clear hown
  go_wp2
  generalize (w2.alloc (.cells #[.int .u64 (addL p l)] 22)) = w3 at *
  go_loopw [5, 6] (fun o i wr => ∃ (u : Nat) (Z : Option Addr) (z : Nat), 1 ≤ u ∧ u ≤ 5 ∧ i = .int .i64 u ∧ o = .slice Z u z ∧ Hid (Own wr w2.heap.size 22 1 Z u z (nums .u64 (fiveL p a l u))) ∧ Hid (Below w2.heap.size w2 wr)) (fun _ i _ => 5 - (intOf i).toNat)
  case atStart => exact ⟨1, _, 1, Nat.le_refl _, by omega, rfl, rfl, HO1, HB1⟩
  case round =>
    obtain ⟨u, Z, z, hu1, hu5, rfl, rfl, HO, HBW⟩ := hrel
    by_cases hlt : u < 5
    · have hx0 : wr.cell? x = some (.int .u64 (l.getD 0 0)) := by
        have h1 := (HR2.out.below HBW.out).num (i := 0) (by have := HLE.out; omega)
        rw [getD_of (by have := HLE.out; omega)]
        simpa [Addr.add] using h1
      have HG1 := Lib.hid (fiveG_one p a l u)
      have d0 : decide (u < 5) = true := by simp; omega
      have d1 : decide ((u : Int) < 5) = true := by simp; omega
      rw [← HG1.out] at hx0
      go_wp2
      go_hide hQ
      go_loopw [7, 8] (fun s i wr => ∃ t : Nat, 1 ≤ t ∧ t ≤ 5 ∧ i = .int .i64 t ∧ s = .int .u64 (fiveG p a l u t) ∧ Hid (Own wr w2.heap.size 22 1 Z u z (nums .u64 (fiveL p a l u))) ∧ Hid (Below w2.heap.size w2 wr)) (fun _ i _ => 5 - (intOf i).toNat)
      case atStart => exact ⟨1, Nat.le_refl _, by omega, rfl, rfl, HO, HBW⟩
      case round =>
        obtain ⟨t, ht1, ht5, rfl, rfl, HO2, HBW2⟩ := hrel
        by_cases hlt2 : t < 5
        · have hlt3 : t < l.length := by have := HLE.out; omega
          have hxt : wr.cell? (x.add t) = some (.int .u64 (l.getD t 0)) := by
            rw [getD_of hlt3]
            exact (HR2.out.below HBW2.out).num hlt3
          have HD : Hid (U64 (l.getD t 0)) := Lib.hid (by rw [getD_of hlt3]; exact HW.out _ (List.getElem_mem hlt3))
          have hm5 : t * u % 5 < 5 := Nat.mod_lt _ (by decide)
          have hym : wr.cell? (y.add (t * u % 5)) = some (.int .u64 (powS p a (t * u % 5))) := by
            have h1 := (HY2.out.below HBW2.out).cell (i := t * u % 5) (u := .int .u64 (powS p a (t * u % 5))) (by
              rw [nums_get .u64 _ _ (by simpa using hm5)]
              simp)
            exact h1
          have HVP := Lib.hid (u64_powS p a (t * u % 5))
          have hMb : (t : Int) * (u : Int) ≤ 25 := by
            have : (t : Int) * (u : Int) ≤ 5 * 5 := Int.mul_le_mul (by omega) (by omega) (by omega) (by omega)
            omega
          have hM0 : 0 ≤ (t : Int) * (u : Int) := Int.mul_nonneg (by omega) (by omega)
          have hMm : (t : Int) * (u : Int) % 5 = ((t * u % 5 : Nat) : Int) := by rw [Int.natCast_emod, Int.natCast_mul]; rfl
          have HST := Lib.hid (fiveG_step HT.out l u t ht1)
          have HSU := Lib.hid (u64_fiveG (p := p) (a := a) HW.out u t)
          have hk0 := keepc HBW2.out HC0.out
          have hk1 := keepc HBW2.out HC1.out
          generalize hM : (t : Int) * (u : Int) = M at *
          generalize t * u % 5 = m at *
          generalize l.getD t 0 = d at *
          generalize powS p a m = v at *
          generalize fiveG p a l u t = s at *
          have hwM : IntKind.i64.wrap M = M := by rw [IntKind.wrap_i64]; omega
          have hmt : M.tmod 5 = (m : Int) := by rw [Int.tmod_eq_emod_of_nonneg hM0]; exact hMm
          have hwm : IntKind.i64.wrap (m : Int) = (m : Int) := by rw [IntKind.wrap_i64]; omega
          have hm0 : (0 : Int) ≤ (m : Int) := by omega
          have hm6 : (m : Int) < 5 := by omega
          have hmm : decide (5 ≤ m) = false := by simp; omega
          go_wp2
          generalize hw4 : wr = w4 at *
          go_region_held3 (fun w' => w'.cell? ⟨w.heap.size, 0, none⟩ = some (.int .u64 p) ∧ w'.cell? ⟨w.heap.size, 1, none⟩ = some (.slice (some y) 5 c) ∧ w'.cell? (x.add t) = some (.int .u64 d) ∧ w'.cell? (y.add m) = some (.int .u64 v))
            (first | exact keep4 (by assumption) (by assumption) | go_keep)
            (first
              | (go_at_call 147; (with_reducible refine (wmul_calls p (some y) 5 c d v _ HP.out HD.out HVP.out).mono ?_); rintro e w5 ⟨rfl, hb5⟩)
              | (go_at_call 145; (with_reducible refine (wadd_n p (some y) 5 c _ 2 2 [s, mulS p d v] _ rfl HP.out ?row (by decide) ?all).mono ?_); (case row => repeat (first | (with_reducible exact row_new2 _ _ _ _) | ((with_reducible refine row_new2e _ _ _ _ _ ?_); simp; done) | (with_reducible refine Row.drew ?_) | (with_reducible refine Row.alloc ?_ _) | (with_reducible refine Row.below ?_ (by assumption)))); (case all => simp [HSU.out, u64_mulS]); rintro e w6 ⟨rfl, hb6⟩))
          have hb7 : Below w4.heap.size w4 w6 := by repeat (first | with_reducible exact Below.refl _ _ | with_reducible refine blA ?_ _ | with_reducible refine blD ?_ | refine blC ?_ (by assumption))
          have HO6 := Lib.hid (HO2.out.grown hb7)
          have HB6 : Hid (Below w2.heap.size w2 w6) := Lib.hid (blC HBW2.out hb7)
          clear hb5 hb6 hb7
          go_wp2
          go_roundw
          case rel => exact ⟨t + 1, by omega, by omega, by go_num, by rw [← HST.out], HO6, HB6⟩
          case measure => simp [intOf]; omega
        · have hte : t = 5 := by omega
          subst hte
          have HLS := Lib.hid (fiveL_step (p := p) (a := a) l HLE.out u)
          have HSU := Lib.hid (u64_fiveG (p := p) (a := a) HW.out u 5)
          have HSZ := Lib.hid HBW2.out.size
          generalize fiveG p a l u 5 = s at *
          go_wp2
          subst hQ
          go_wp2_with (at_builtin; refine append_row _ Tryd.underlying41 info_u64 rfl _ _ rfl w2.heap.size u z 1 1 Z ⟨wr.heap.size, 0, none⟩ (fiveL p a l u) [s] rfl rfl (HO2.out.grown ((Below.refl _ _).alloc (Nat.le_refl _) _)) (row_new wr [.int .u64 s] 22) rfl (by decide) (Nat.le_trans HSZ.out (by simp)) (by omega) (by omega) ?_; intro g cap2 w6 hown hbel hgrow hlt5)
          have HO6 : Hid (Own w6 w2.heap.size 22 1 (some ⟨g, 0, none⟩) (u + 1) cap2 (nums .u64 (fiveL p a l (u + 1)))) := Lib.hid (by rw [HLS.out]; exact hown)
          have HB6 : Hid (Below w2.heap.size w2 w6) := Lib.hid ((HBW2.out.alloc HSZ.out _).trans (hbel.mono (Nat.le_refl _)))
          clear hown hbel hgrow hlt5
          go_roundw
          case rel => exact ⟨u + 1, some ⟨g, 0, none⟩, cap2, by omega, by omega, by go_num, rfl, HO6, HB6⟩
          case measure => simp [intOf]; omega
    · have hue : u = 5 := by omega
      subst hue
      have HLA := Lib.hid (fiveL_all p a l HLE.out)
      obtain ⟨g, cap, hzv, _, _⟩ := World.ownsRow.form HO.out (show 0 < 5 by decide)
      cases hzv
      have HOE : Hid (Own wr w.heap.size 22 1 (some ⟨g, 0, none⟩) 5 z (nums .u64 (doL p a l))) := Lib.hid (by rw [← HLA.out]; exact HO.out.mono HX0.out.size)
      have HBE : Hid (Below w.heap.size w wr) := Lib.hid (blC HX0.out HBW.out)
      go_wp2
      go_ret
      exact ⟨g, z, rfl, HOE.out, HBE.out⟩
end Go.Proofs.YtohcoidbncbijaaDoor.P
/- The contract of package fly's Do. Conditions: words of their kinds; the slice reads as a list. -/
namespace Go.Proofs.YtohcoidbncbijaaDoor.P
open Go.RowKit
set_option linter.unusedVariables false
set_option linter.unusedSimpArgs false
def doS (p : Int) (inv : Bool) (x : List Int) : List Int × Int :=
  if (ptsS p x.length inv).2 = 0 then (if inS p x = true then (doL p (turnS p x.length inv) x, 0) else ([], 7)) else ([], (ptsS p x.length inv).2)
theorem ptsS_ok {p r : Int} {inv : Bool} (h : (ptsS p r inv).2 = 0) : ∃ N : Nat, r = (N : Int) ∧ 2 ≤ N ∧ N ≤ 5 ∧ Turn p (turnS p r inv) (turnS p r (!inv)) N ∧ U64 (turnS p r inv) ∧ ptsS p r inv = ((List.range N).map (powS p (turnS p r inv)), 0) := by
  unfold ptsS at h ⊢
  by_cases hk : knownS p = true
  · rw [if_pos hk] at h ⊢
    by_cases hr : 2 ≤ r ∧ r ≤ 5
    · rw [if_pos hr] at h ⊢
      by_cases ho : (rootS p r).2 = 0
      · rw [if_pos ho]
        obtain ⟨N, rfl, hT, hU⟩ := turnS_turn inv ho
        exact ⟨N, rfl, by omega, by omega, hT, hU, by rw [Int.toNat_natCast]⟩
      · rw [if_neg ho] at h; exact absurd h (by decide)
    · rw [if_neg hr] at h; exact absurd h (by decide)
  · rw [if_neg hk] at h; exact absurd h (by decide)
theorem Turn.pow1 {p a b : Int} {n : Nat} (h : Turn p a b n) : powS p a 1 = a := by rw [powS_one, h.ra]
set_option maxRecDepth 100000 in
set_option maxHeartbeats 4000000 in
theorem do_two (p : Int) (inv : Bool) (x : Addr) (c : Nat) (x0 x1 : Int) (w : World) (hp : U64 p) (hr : Row w (some x) (nums .u64 [x0, x1])) (h0 : U64 x0) (h1 : U64 x1) (ho : (ptsS p 2 inv).2 = 0) (hin : inS p [x0, x1] = true) :
    Calls Tryd.prog 78 #[.int .u64 p, .bool inv, .slice (some x) 2 c] w fun e w' => ∃ g b,
      e = .returned (.tuple #[.slice (some ⟨g, 0, none⟩) 2 b, .int .i64 0]) ∧ Own w' w.heap.size 22 1 (some ⟨g, 0, none⟩) 2 b (nums .u64 (doL p (turnS p 2 inv) [x0, x1])) ∧ Below w.heap.size w w' := by
  obtain ⟨N, hN, _, _, hT, hU, hpts⟩ := ptsS_ok ho
  obtain rfl : N = 2 := by omega
  have HP := Lib.hid hp
  have HR := Lib.hid hr
  have HU : Hid (U64 (turnS p 2 inv)) := Lib.hid hU
  have H0 := Lib.hid h0
  have H1 := Lib.hid h1
  have HIN := Lib.hid hin
  have HPT : Hid (ptsS p 2 inv = ((List.range 2).map (powS p (turnS p 2 inv)), 0)) := Lib.hid hpts
  have HD := Lib.hid (two_is (x0 := x0) (x1 := x1) hT)
  clear hp hr h0 h1 ho hin hN hpts hT hU
  go_enter Tryd.func78, Tryd.ntmps78
  go_wp2_with fail
  refine (points_calls p 2 inv _ HP.out (by decide)).mono ?_
  rw [HPT.out]
  rintro e w2 ⟨Y, cy, rfl, ho2, hb2⟩
  have HR2 := Lib.hid (HR.out.below hb2)
  have HB2 := Lib.hid hb2
  clear ho2 hb2
  go_wp2_with fail
  refine (in_calls p _ _ [x0, x1] _ HR2.out (by simp)).mono ?_
  rw [HIN.out]
  rintro e w3 ⟨rfl, rfl⟩
  go_wp2_with fail
  refine (two_calls p _ 2 cy x c x0 x1 _ HP.out (HR2.out.alloc _) H0.out H1.out).mono ?_
  rintro e w4 ⟨g, b, rfl, ho5, hb5⟩
  have HB4 : Hid (Below w.heap.size w w4) := Lib.hid (blC (blA HB2.out _) hb5)
  rw [HD.out] at ho5; have HO5 := Lib.hid (ho5.mono (blA HB2.out _).size)
  clear ho5 hb5
  go_wp2
  go_ret2
  exact ⟨g, b, rfl, HO5.out, HB4.out⟩
set_option maxRecDepth 100000 in
set_option maxHeartbeats 4000000 in
theorem do_three (p : Int) (inv : Bool) (x : Addr) (c : Nat) (x0 x1 x2 : Int) (w : World) (hp : U64 p) (hr : Row w (some x) (nums .u64 [x0, x1, x2])) (h0 : U64 x0) (h1 : U64 x1) (h2 : U64 x2) (ho : (ptsS p 3 inv).2 = 0) (hin : inS p [x0, x1, x2] = true) :
    Calls Tryd.prog 78 #[.int .u64 p, .bool inv, .slice (some x) 3 c] w fun e w' => ∃ g b,
      e = .returned (.tuple #[.slice (some ⟨g, 0, none⟩) 3 b, .int .i64 0]) ∧ Own w' w.heap.size 22 1 (some ⟨g, 0, none⟩) 3 b (nums .u64 (doL p (turnS p 3 inv) [x0, x1, x2])) ∧ Below w.heap.size w w' := by
  obtain ⟨N, hN, _, _, hT, hU, hpts⟩ := ptsS_ok ho
  obtain rfl : N = 3 := by omega
  have HP := Lib.hid hp
  have HR := Lib.hid hr
  have HU : Hid (U64 (turnS p 3 inv)) := Lib.hid hU
  have H0 := Lib.hid h0
  have H1 := Lib.hid h1
  have H2 := Lib.hid h2
  have HIN := Lib.hid hin
  have HPT : Hid (ptsS p 3 inv = ((List.range 3).map (powS p (turnS p 3 inv)), 0)) := Lib.hid hpts
  have HYL : Hid ((List.range 3).map (powS p (turnS p 3 inv)) = [powS p (turnS p 3 inv) 0, turnS p 3 inv, powS p (turnS p 3 inv) 2]) := Lib.hid (by
    show [powS p (turnS p 3 inv) 0, powS p (turnS p 3 inv) 1, powS p (turnS p 3 inv) 2] = _
    rw [hT.pow1])
  have HD := Lib.hid (three_is (x0 := x0) (x1 := x1) (x2 := x2) hT)
  clear hp hr h0 h1 h2 ho hin hN hpts hT hU
  go_enter Tryd.func78, Tryd.ntmps78
  go_wp2_with fail
  refine (points_calls p 3 inv _ HP.out (by decide)).mono ?_
  rw [HPT.out]
  rintro e w2 ⟨Y, cy, rfl, ho2, hb2⟩
  have HR2 := Lib.hid (HR.out.below hb2)
  have HB2 := Lib.hid hb2
  have hY2 : Row w2 Y (nums .u64 [powS p (turnS p 3 inv) 0, turnS p 3 inv, powS p (turnS p 3 inv) 2]) := by
    have h1 := ho2.row
    rw [HYL.out] at h1
    exact h1
  obtain ⟨y, rfl⟩ := hY2.some_of (by simp [nums])
  have HY2 := Lib.hid hY2
  clear hY2
  clear ho2 hb2
  go_wp2_with fail
  refine (in_calls p _ _ [x0, x1, x2] _ HR2.out (by simp)).mono ?_
  rw [HIN.out]
  rintro e w3 ⟨rfl, rfl⟩
  go_wp2_with fail
  refine (three_calls p y cy x c (powS p (turnS p 3 inv) 0) (turnS p 3 inv) (powS p (turnS p 3 inv) 2) x0 x1 x2 _ HP.out (HY2.out.alloc _) (HR2.out.alloc _) HU.out H0.out H1.out H2.out).mono ?_
  rintro e w4 ⟨g, b, rfl, ho5, hb5⟩
  have HB4 : Hid (Below w.heap.size w w4) := Lib.hid (blC (blA HB2.out _) hb5)
  rw [HD.out] at ho5; have HO5 := Lib.hid (ho5.mono (blA HB2.out _).size)
  clear ho5 hb5
  go_wp2
  go_ret2
  exact ⟨g, b, rfl, HO5.out, HB4.out⟩
set_option maxRecDepth 100000 in
set_option maxHeartbeats 4000000 in
theorem do_four (p : Int) (inv : Bool) (x : Addr) (c : Nat) (x0 x1 x2 x3 : Int) (w : World) (hp : U64 p) (hr : Row w (some x) (nums .u64 [x0, x1, x2, x3])) (h0 : U64 x0) (h1 : U64 x1) (h2 : U64 x2) (h3 : U64 x3) (ho : (ptsS p 4 inv).2 = 0) (hin : inS p [x0, x1, x2, x3] = true) :
    Calls Tryd.prog 78 #[.int .u64 p, .bool inv, .slice (some x) 4 c] w fun e w' => ∃ g b,
      e = .returned (.tuple #[.slice (some ⟨g, 0, none⟩) 4 b, .int .i64 0]) ∧ Own w' w.heap.size 22 1 (some ⟨g, 0, none⟩) 4 b (nums .u64 (doL p (turnS p 4 inv) [x0, x1, x2, x3])) ∧ Below w.heap.size w w' := by
  obtain ⟨N, hN, _, _, hT, hU, hpts⟩ := ptsS_ok ho
  obtain rfl : N = 4 := by omega
  have HP := Lib.hid hp
  have HR := Lib.hid hr
  have HU : Hid (U64 (turnS p 4 inv)) := Lib.hid hU
  have H0 := Lib.hid h0
  have H1 := Lib.hid h1
  have H2 := Lib.hid h2
  have H3 := Lib.hid h3
  have HIN := Lib.hid hin
  have HPT : Hid (ptsS p 4 inv = ((List.range 4).map (powS p (turnS p 4 inv)), 0)) := Lib.hid hpts
  have HYL : Hid ((List.range 4).map (powS p (turnS p 4 inv)) = [powS p (turnS p 4 inv) 0, turnS p 4 inv, powS p (turnS p 4 inv) 2, powS p (turnS p 4 inv) 3]) := Lib.hid (by
    show [powS p (turnS p 4 inv) 0, powS p (turnS p 4 inv) 1, powS p (turnS p 4 inv) 2, powS p (turnS p 4 inv) 3] = _
    rw [hT.pow1])
  have HD := Lib.hid (four_is (x0 := x0) (x1 := x1) (x2 := x2) (x3 := x3) hT)
  clear hp hr h0 h1 h2 h3 ho hin hN hpts hT hU
  go_enter Tryd.func78, Tryd.ntmps78
  go_wp2_with fail
  refine (points_calls p 4 inv _ HP.out (by decide)).mono ?_
  rw [HPT.out]
  rintro e w2 ⟨Y, cy, rfl, ho2, hb2⟩
  have HR2 := Lib.hid (HR.out.below hb2)
  have HB2 := Lib.hid hb2
  have hY2 : Row w2 Y (nums .u64 [powS p (turnS p 4 inv) 0, turnS p 4 inv, powS p (turnS p 4 inv) 2, powS p (turnS p 4 inv) 3]) := by
    have h1 := ho2.row
    rw [HYL.out] at h1
    exact h1
  obtain ⟨y, rfl⟩ := hY2.some_of (by simp [nums])
  have HY2 := Lib.hid hY2
  clear hY2
  clear ho2 hb2
  go_wp2_with fail
  refine (in_calls p _ _ [x0, x1, x2, x3] _ HR2.out (by simp)).mono ?_
  rw [HIN.out]
  rintro e w3 ⟨rfl, rfl⟩
  go_wp2_with fail
  refine (four_calls p y cy x c (powS p (turnS p 4 inv) 0) (turnS p 4 inv) (powS p (turnS p 4 inv) 2) (powS p (turnS p 4 inv) 3) x0 x1 x2 x3 _ HP.out (HY2.out.alloc _) (HR2.out.alloc _) HU.out H0.out H1.out H2.out H3.out).mono ?_
  rintro e w4 ⟨g, b, rfl, ho5, hb5⟩
  have HB4 : Hid (Below w.heap.size w w4) := Lib.hid (blC (blA HB2.out _) hb5)
  rw [HD.out] at ho5; have HO5 := Lib.hid (ho5.mono (blA HB2.out _).size)
  clear ho5 hb5
  go_wp2
  go_ret2
  exact ⟨g, b, rfl, HO5.out, HB4.out⟩
set_option maxRecDepth 100000 in
set_option maxHeartbeats 4000000 in
theorem do_five (p : Int) (inv : Bool) (x : Addr) (c : Nat) (x0 x1 x2 x3 x4 : Int) (w : World) (hp : U64 p) (hr : Row w (some x) (nums .u64 [x0, x1, x2, x3, x4])) (h0 : U64 x0) (h1 : U64 x1) (h2 : U64 x2) (h3 : U64 x3) (h4 : U64 x4) (ho : (ptsS p 5 inv).2 = 0) (hin : inS p [x0, x1, x2, x3, x4] = true) :
    Calls Tryd.prog 78 #[.int .u64 p, .bool inv, .slice (some x) 5 c] w fun e w' => ∃ g b,
      e = .returned (.tuple #[.slice (some ⟨g, 0, none⟩) 5 b, .int .i64 0]) ∧ Own w' w.heap.size 22 1 (some ⟨g, 0, none⟩) 5 b (nums .u64 (doL p (turnS p 5 inv) [x0, x1, x2, x3, x4])) ∧ Below w.heap.size w w' := by
  obtain ⟨N, hN, _, _, hT, hU, hpts⟩ := ptsS_ok ho
  obtain rfl : N = 5 := by omega
  have HP := Lib.hid hp
  have HR := Lib.hid hr
  have HU : Hid (U64 (turnS p 5 inv)) := Lib.hid hU
  have H0 := Lib.hid h0
  have H1 := Lib.hid h1
  have H2 := Lib.hid h2
  have H3 := Lib.hid h3
  have H4 := Lib.hid h4
  have HIN := Lib.hid hin
  have HPT : Hid (ptsS p 5 inv = ((List.range 5).map (powS p (turnS p 5 inv)), 0)) := Lib.hid hpts
  have HTU := Lib.hid hT
  clear hp hr h0 h1 h2 h3 h4 ho hin hN hpts hT hU
  go_enter Tryd.func78, Tryd.ntmps78
  go_wp2_with fail
  refine (points_calls p 5 inv _ HP.out (by decide)).mono ?_
  rw [HPT.out]
  rintro e w2 ⟨Y, cy, rfl, ho2, hb2⟩
  have HR2 := Lib.hid (HR.out.below hb2)
  have HB2 := Lib.hid hb2
  have hY2 : Row w2 Y (nums .u64 ((List.range 5).map (powS p (turnS p 5 inv)))) := by
    have h1 := ho2.row
    exact h1
  obtain ⟨y, rfl⟩ := hY2.some_of (by simp [nums])
  have HY2 := Lib.hid hY2
  clear hY2
  clear ho2 hb2
  go_wp2_with fail
  refine (in_calls p _ _ [x0, x1, x2, x3, x4] _ HR2.out (by simp)).mono ?_
  rw [HIN.out]
  rintro e w3 ⟨rfl, rfl⟩
  go_wp2_with fail
  refine (five_calls p (turnS p 5 inv) (turnS p 5 (!inv)) y cy x c [x0, x1, x2, x3, x4] _ HP.out HTU.out (HY2.out.alloc _) (HR2.out.alloc _) rfl (by simp [H0.out, H1.out, H2.out, H3.out, H4.out])).mono ?_
  rintro e w4 ⟨g, b, rfl, ho5, hb5⟩
  have HB4 : Hid (Below w.heap.size w w4) := Lib.hid (blC (blA HB2.out _) hb5)
  have HO5 := Lib.hid (ho5.mono (blA HB2.out _).size)
  clear ho5 hb5
  go_wp2
  go_ret2
  exact ⟨g, b, rfl, HO5.out, HB4.out⟩
theorem list2 {l : List Int} (h : l.length = 2) : ∃ x0 x1, l = [x0, x1] := by
  match l, h with
  | [x0, x1], _ => exact ⟨x0, x1, rfl⟩
theorem list3 {l : List Int} (h : l.length = 3) : ∃ x0 x1 x2, l = [x0, x1, x2] := by
  match l, h with
  | [x0, x1, x2], _ => exact ⟨x0, x1, x2, rfl⟩
theorem list4 {l : List Int} (h : l.length = 4) : ∃ x0 x1 x2 x3, l = [x0, x1, x2, x3] := by
  match l, h with
  | [x0, x1, x2, x3], _ => exact ⟨x0, x1, x2, x3, rfl⟩
theorem list5 {l : List Int} (h : l.length = 5) : ∃ x0 x1 x2 x3 x4, l = [x0, x1, x2, x3, x4] := by
  match l, h with
  | [x0, x1, x2, x3, x4], _ => exact ⟨x0, x1, x2, x3, x4, rfl⟩
theorem doS_len (p : Int) (inv : Bool) (l : List Int) (h : (doS p inv l).2 = 0) : (ptsS p l.length inv).2 = 0 ∧ inS p l = true ∧ doS p inv l = (doL p (turnS p l.length inv) l, 0) := by
  unfold doS at h ⊢
  by_cases h1 : (ptsS p l.length inv).2 = 0
  · rw [if_pos h1] at h ⊢
    by_cases h2 : inS p l = true
    · rw [if_pos h2]; exact ⟨h1, h2, rfl⟩
    · rw [if_neg h2] at h; exact absurd h (by decide)
  · rw [if_neg h1] at h; exact absurd h h1
theorem doS_no (p : Int) (inv : Bool) (l : List Int) (h : (doS p inv l).2 ≠ 0) : (doS p inv l).1 = [] := by
  unfold doS at h ⊢
  split
  · rename_i h1
    rw [if_pos h1] at h
    split
    · rename_i h2
      rw [if_pos h2] at h; exact absurd rfl h
    · rfl
  · rfl
theorem do_calls (p : Int) (inv : Bool) (A : Option Addr) (c : Nat) (l : List Int) (w : World) (hp : U64 p) (hr : Row w A (nums .u64 l)) (hl : l.length ≤ 9223372036854775807) (hw : ∀ d ∈ l, U64 d) :
    Calls Tryd.prog 78 #[.int .u64 p, .bool inv, .slice A l.length c] w fun e w' => ∃ B b,
      e = .returned (.tuple #[.slice B (doS p inv l).1.length b, .int .i64 (doS p inv l).2]) ∧ Own w' w.heap.size 22 1 B (doS p inv l).1.length b (nums .u64 (doS p inv l).1) ∧ Below w.heap.size w w' := by
  by_cases hd : (doS p inv l).2 = 0
  · obtain ⟨ho, hin, e⟩ := doS_len p inv l hd
    obtain ⟨N, hN, h2, h5, hT, hU, _⟩ := ptsS_ok ho
    have hN2 : l.length = N := by omega
    obtain ⟨x, rfl⟩ := hr.some_of (by intro h0; have := nums_length .u64 l; rw [h0] at this; simp at this; omega)
    rw [e, show ((doL p (turnS p l.length inv) l, (0 : Int)).1) = doL p (turnS p l.length inv) l from rfl, doL_length]
    rw [hN2] at ho hN ⊢
    rcases (show N = 2 ∨ N = 3 ∨ N = 4 ∨ N = 5 by omega) with rfl | rfl | rfl | rfl
    · obtain ⟨x0, x1, rfl⟩ := list2 hN2
      clear hl
      exact (do_two p inv x c x0 x1 w hp hr (hw _ (by simp)) (hw _ (by simp)) ho hin).mono fun _ _ ⟨g, b, he, h1, h3⟩ => ⟨_, b, he, h1, h3⟩
    · obtain ⟨x0, x1, x2, rfl⟩ := list3 hN2
      clear hl
      exact (do_three p inv x c x0 x1 x2 w hp hr (hw _ (by simp)) (hw _ (by simp)) (hw _ (by simp)) ho hin).mono fun _ _ ⟨g, b, he, h1, h3⟩ => ⟨_, b, he, h1, h3⟩
    · obtain ⟨x0, x1, x2, x3, rfl⟩ := list4 hN2
      clear hl
      exact (do_four p inv x c x0 x1 x2 x3 w hp hr (hw _ (by simp)) (hw _ (by simp)) (hw _ (by simp)) (hw _ (by simp)) ho hin).mono fun _ _ ⟨g, b, he, h1, h3⟩ => ⟨_, b, he, h1, h3⟩
    · obtain ⟨x0, x1, x2, x3, x4, rfl⟩ := list5 hN2
      clear hl
      exact (do_five p inv x c x0 x1 x2 x3 x4 w hp hr (hw _ (by simp)) (hw _ (by simp)) (hw _ (by simp)) (hw _ (by simp)) (hw _ (by simp)) ho hin).mono fun _ _ ⟨g, b, he, h1, h3⟩ => ⟨_, b, he, h1, h3⟩
  · have HN := Lib.hid (doS_no p inv l hd)
    have HP := Lib.hid hp
    have HR := Lib.hid hr
    have HI : Hid (i64 (l.length : Int)) := Lib.hid ⟨by omega, by omega⟩
    have HL := Lib.hid hl
    rw [HN.out]
    by_cases ho : (ptsS p l.length inv).2 = 0
    · have hin : inS p l = false := by
        cases hh : inS p l with
        | false => rfl
        | true => exfalso; apply hd; rw [doS, if_pos ho, if_pos hh]
      have HE : Hid ((doS p inv l).2 = 7) := Lib.hid (by rw [doS, if_pos ho, hin]; rfl)
      rw [HE.out]
      have HIN := Lib.hid hin
      have HPT : Hid ((ptsS p l.length inv).2 = 0) := Lib.hid ho
      clear hp hr hw hd ho hin
      go_enter Tryd.func78, Tryd.ntmps78
      go_wp2_with fail
      refine (points_calls p l.length inv _ HP.out HI.out).mono ?_
      rw [HPT.out]
      rintro e w2 ⟨Y, cy, rfl, ho2, hb2⟩
      have HR2 := Lib.hid (HR.out.below hb2)
      have HB2 := Lib.hid hb2
      clear ho2 hb2
      go_wp2_with fail
      refine (in_calls p _ _ l _ HR2.out HL.out).mono ?_
      rw [HIN.out]
      rintro e w3 ⟨rfl, rfl⟩
      go_wp2
      go_ret2
      exact ⟨none, 0, rfl, Own.nil _ _ _ _, HB2.out⟩
    · have HE : Hid ((doS p inv l).2 = (ptsS p l.length inv).2) := Lib.hid (by rw [doS, if_neg ho])
      rw [HE.out]
      have t0 : ((ptsS p l.length inv).2 != 0) = true := by simpa using ho
      clear hp hr hw hd ho
      go_enter Tryd.func78, Tryd.ntmps78
      go_wp2_with fail
      refine (points_calls p l.length inv _ HP.out HI.out).mono ?_
      rintro e w2 ⟨Y, cy, rfl, ho2, hb2⟩
      have HB2 := Lib.hid hb2
      clear ho2 hb2
      go_wp2
      go_ret2
      exact ⟨none, 0, rfl, Own.nil _ _ _ _, HB2.out⟩
end Go.Proofs.YtohcoidbncbijaaDoor.P
/- The contract of package fly's Weigh, and the example of chapter 15. Conditions: words of their kinds; the slices read as lists. -/
namespace Go.Proofs.YtohcoidbncbijaaDoor.P
open Go.RowKit
set_option linter.unusedVariables false
set_option linter.unusedSimpArgs false
def weighS (p : Int) (inv : Bool) (x v : List Int) : Int × Int :=
  if (doS p inv x).2 = 0 then (if v.length = x.length then (if inS p v = true then (weighF p (turnS p x.length inv) x v, 0) else (0, 7)) else (0, 6)) else (0, (doS p inv x).2)
/-- Weighed so far. -/
def dotF (p : Int) (x v : List Int) (k : Nat) : Int := redS p (S k (fun u => x.getD u 0 * v.getD u 0))
theorem dotF_zero (p : Int) (x v : List Int) : dotF p x v 0 = 0 := redS_zero p
theorem dotF_step (p : Int) (x v : List Int) (k : Nat) : addS p (dotF p x v k) (mulS p (x.getD k 0) (v.getD k 0)) = dotF p x v (k + 1) := by
  unfold dotF addS mulS
  rw [redS_add_left, redS_add_right]; rfl
theorem u64_dotF (p : Int) (x v : List Int) (k : Nat) : U64 (dotF p x v k) := u64_redS _ _
theorem dotF_weigh (p a : Int) (x v : List Int) : dotF p (doL p a x) v x.length = weighF p a x v := by
  unfold dotF weighF
  congr 1
  exact S_congr fun u hu => by rw [doL_at p a x hu]
theorem doL_u64 (p a : Int) (x : List Int) : ∀ d ∈ doL p a x, U64 d := by
  intro d hd
  simp only [doL, List.mem_map] at hd
  obtain ⟨u, _, rfl⟩ := hd
  exact u64_redS _ _
theorem doL_in {p : Int} (hk : knownS p = true) (a : Int) (x : List Int) : inS p (doL p a x) = true := by
  rw [inS_all, hk]
  intro j hj
  have h1 := List.getElem_mem hj
  simp only [doL, List.mem_map] at h1
  obtain ⟨u, _, h2⟩ := h1
  rw [show (doL p a x)[j] = doF p a x u from h2.symm]
  exact redS_hi _ hk
set_option maxRecDepth 100000 in
theorem weigh_calls (p : Int) (inv : Bool) (A B : Option Addr) (ca cb : Nat) (x v : List Int) (w : World) (hp : U64 p) (hr : Row w A (nums .u64 x)) (hl : x.length ≤ 9223372036854775807) (hw : ∀ d ∈ x, U64 d) (hrv : Row w B (nums .u64 v)) (hlv : v.length ≤ 9223372036854775807) (hwv : ∀ d ∈ v, U64 d) :
    Calls Tryd.prog 95 #[.int .u64 p, .bool inv, .slice A x.length ca, .slice B v.length cb] w fun e w' =>
      e = .returned (.tuple #[.int .u64 (weighS p inv x v).1, .int .i64 (weighS p inv x v).2]) ∧ Below w.heap.size w w' := by
  have HP := Lib.hid hp
  have HR := Lib.hid hr
  have HL := Lib.hid hl
  have HW := Lib.hid hw
  have HRV := Lib.hid hrv
  have HLV := Lib.hid hlv
  have HWV := Lib.hid hwv
  clear hp hr hl hw hrv hlv hwv
  by_cases hd : (doS p inv x).2 = 0
  case neg =>
    have HF : Hid (weighS p inv x v = (0, (doS p inv x).2)) := Lib.hid (by rw [weighS, if_neg hd])
    have t0 : ((doS p inv x).2 != 0) = true := by simpa using hd
    rw [HF.out]
    clear hd
    go_enter Tryd.func95, Tryd.ntmps95
    go_wp2_with fail
    refine (do_calls p inv _ _ x _ HP.out HR.out HL.out HW.out).mono ?_
    rintro e w2 ⟨Y, cy, rfl, ho2, hb2⟩
    have HB2 := Lib.hid hb2
    clear ho2 hb2
    go_wp2
    go_ret2
    exact ⟨rfl, HB2.out⟩
  obtain ⟨ho, hin, e⟩ := doS_len p inv x hd
  obtain ⟨N, hN, h2, h5, hT, hU, _⟩ := ptsS_ok ho
  have HD : Hid (doS p inv x = (doL p (turnS p x.length inv) x, 0)) := Lib.hid e
  have HDL : Hid ((doL p (turnS p x.length inv) x).length = x.length) := Lib.hid (doL_length _ _ _)
  have HDU := Lib.hid (doL_u64 p (turnS p x.length inv) x)
  have HDW := Lib.hid (dotF_weigh p (turnS p x.length inv) x v)
  by_cases hlen : v.length = x.length
  case neg =>
    have HF : Hid (weighS p inv x v = (0, 6)) := Lib.hid (by rw [weighS, if_pos hd, if_neg hlen])
    have t0 : ((v.length : Int) != (x.length : Int)) = true := by simp; omega
    rw [HF.out]
    clear hd ho hin e hN hT hU hlen
    go_enter Tryd.func95, Tryd.ntmps95
    go_wp2_with fail
    refine (do_calls p inv _ _ x _ HP.out HR.out HL.out HW.out).mono ?_
    rw [HD.out]
    rintro e w2 ⟨Y, cy, rfl, ho2, hb2⟩
    have HB2 := Lib.hid hb2
    clear ho2 hb2
    go_wp2
    go_ret2
    exact ⟨rfl, HB2.out⟩
  have t0 : ((v.length : Int) != (x.length : Int)) = false := by simp; omega
  by_cases hv : inS p v = true
  case neg =>
    have HF : Hid (weighS p inv x v = (0, 7)) := Lib.hid (by rw [weighS, if_pos hd, if_pos hlen, if_neg hv])
    have HV : Hid (inS p v = false) := Lib.hid (by simpa using hv)
    rw [HF.out]
    clear hd ho hin e hN hT hU hv
    go_enter Tryd.func95, Tryd.ntmps95
    go_wp2_with fail
    refine (do_calls p inv _ _ x _ HP.out HR.out HL.out HW.out).mono ?_
    rw [HD.out]
    rintro e w2 ⟨Y, cy, rfl, ho2, hb2⟩
    have HB2 := Lib.hid hb2
    have HRV2 := Lib.hid (HRV.out.below hb2)
    clear ho2 hb2
    go_wp2_with fail
    have hcall := in_calls p B cb v _ HRV2.out HLV.out
    rw [HV.out, hlen] at hcall
    refine hcall.mono ?_
    clear hcall
    rintro e w3 ⟨rfl, rfl⟩
    go_wp2
    go_ret2
    exact ⟨rfl, HB2.out⟩
  have HF : Hid (weighS p inv x v = (weighF p (turnS p x.length inv) x v, 0)) := Lib.hid (by rw [weighS, if_pos hd, if_pos hlen, if_pos hv])
  have HV : Hid (inS p v = true) := Lib.hid hv
  have hx0 : 0 < x.length := by omega
  have hx5 : x.length ≤ 5 := by omega
  rw [HF.out]
  clear hd ho hin e hN hT hU hv
  go_enter Tryd.func95, Tryd.ntmps95
  go_wp2_with fail
  refine (do_calls p inv _ _ x _ HP.out HR.out HL.out HW.out).mono ?_
  rw [HD.out]
  rintro e w2 ⟨Y, cy, rfl, ho2, hb2⟩
  have HB2 := Lib.hid hb2
  have HRV2 := Lib.hid (HRV.out.below hb2)
  have hRY : Row w2 Y (nums .u64 (doL p (turnS p x.length inv) x)) := ho2.row
  rw [show ((doL p (turnS p x.length inv) x, (0 : Int)).1.length) = x.length from HDL.out]
  generalize doL p (turnS p x.length inv) x = d at *
  obtain ⟨y, rfl⟩ := hRY.some_of (by intro h0; have h1 := nums_length .u64 d; rw [h0, HDL.out] at h1; simp at h1; omega)
  obtain ⟨z, rfl⟩ := HRV2.out.some_of (by intro h0; have h1 := nums_length .u64 v; rw [h0] at h1; simp at h1; omega)
  have HRY := Lib.hid hRY
  clear ho2 hb2 hRY
  go_wp2_with fail
  have hcall := in_calls p (some z) cb v _ HRV2.out HLV.out
  rw [HV.out, hlen] at hcall
  refine hcall.mono ?_
  clear hcall
  rintro e w3 ⟨rfl, rfl⟩
  go_wp2
  go_loopw [12, 39] (fun s i wr => ∃ k : Nat, k ≤ x.length ∧ i = .int .i64 k ∧ s = .int .u64 (dotF p d v k) ∧ Hid (Below w3.heap.size w3 wr)) (fun _ i _ => x.length - (intOf i).toNat)
  case atStart => exact ⟨0, Nat.zero_le _, rfl, by rw [dotF_zero], Lib.hid (Below.refl _ _)⟩
  case round =>
    obtain ⟨k, hk, rfl, rfl, HB3⟩ := hrel
    by_cases hlt : k < x.length
    · have hltd : k < d.length := by have := HDL.out; omega
      have hltv : k < v.length := by omega
      have hc1 := (HRY.out.below HB3.out).num hltd
      have hc2 := (HRV2.out.below HB3.out).num hltv
      have HS := Lib.hid (dotF_step p d v k)
      rw [getD_of hltd, getD_of hltv] at HS
      have HU1 : Hid (U64 d[k]) := Lib.hid (HDU.out _ (List.getElem_mem hltd))
      have HU2 : Hid (U64 v[k]) := Lib.hid (HWV.out _ (List.getElem_mem hltv))
      have HU3 := Lib.hid (u64_dotF p d v k)
      generalize d[k] = a at *
      generalize v[k] = b at *
      generalize dotF p d v k = s at *
      go_wp2_with (first
        | (go_at_call 41; refine (mul_calls _ _ _ _ HP.out HU1.out HU2.out).mono ?_; rintro e w4 ⟨rfl, ⟨q, rfl⟩⟩)
        | (go_at_call 40; refine (add_calls _ _ _ _ HP.out HU3.out (u64_mulS _ _ _)).mono ?_; rintro e w5 ⟨rfl, rfl⟩))
      go_roundw
      case rel => exact ⟨k + 1, by omega, by go_num, by rw [← HS.out], Lib.hid (below_drewN HB3.out q)⟩
      case measure => simp [intOf]; omega
    · have hke : k = x.length := by omega
      subst hke
      go_wp2
      go_ret2
      exact ⟨by rw [HDW.out]; rfl, blC HB2.out HB3.out⟩
end Go.Proofs.YtohcoidbncbijaaDoor.P
/- The law FlyBack, walked. Conditions: words of their kinds; the slice reads as a list. -/
namespace Go.Proofs.YtohcoidbncbijaaDoor.P
open Go.RowKit
set_option linter.unusedVariables false
set_option linter.unusedSimpArgs false
theorem ptsS_not (p r : Int) (inv : Bool) : (ptsS p r (!inv)).2 = (ptsS p r inv).2 := by
  unfold ptsS
  split
  · split
    · split <;> rfl
    · rfl
  · rfl
theorem doS_is {p : Int} {inv : Bool} {x : List Int} (h : (ptsS p x.length inv).2 = 0) (hin : inS p x = true) : doS p inv x = (doL p (turnS p x.length inv) x, 0) := by
  rw [doS, if_pos h, if_pos hin]
theorem doS_back {p : Int} {inv : Bool} {x : List Int} (h : (doS p inv x).2 = 0) : doS p (!inv) (doL p (turnS p x.length inv) x) = (x.map (fun a => mulS p a x.length), 0) := by
  obtain ⟨ho, hin, _⟩ := doS_len p inv x h
  obtain ⟨N, hN, _, _, hT, _, _⟩ := ptsS_ok ho
  have hN2 : x.length = N := by omega
  subst hN2
  rw [doS_is (by rw [doL_length, ptsS_not]; exact ho) (doL_in hT.known _ _), doL_length]
  congr 1
  apply List.ext_getElem
  · rw [doL_length, doL_length, List.length_map]
  · intro s h1 h2
    have hs : s < x.length := by rw [List.length_map] at h2; exact h2
    rw [← getD_of h1 0, doL_at _ _ _ (by rw [doL_length]; exact hs), hT.back hs, getD_of hs, List.getElem_map]
end Go.Proofs.YtohcoidbncbijaaDoor.P
/- The contracts of package fly once more, the lengths as numbers; sums, as rows. Conditions: words of their kinds; the slices read as lists. -/
namespace Go.Proofs.YtohcoidbncbijaaDoor.P
open Go.RowKit
set_option linter.unusedVariables false
set_option linter.unusedSimpArgs false
theorem do_n (p : Int) (inv : Bool) (A : Option Addr) (n c : Nat) (l : List Int) (w : World) (hn : l.length = n) (hp : U64 p) (hr : Row w A (nums .u64 l)) (hl : n ≤ 9223372036854775807) (hw : ∀ d ∈ l, U64 d) :
    Calls Tryd.prog 78 #[.int .u64 p, .bool inv, .slice A n c] w fun e w' => ∃ B b,
      e = .returned (.tuple #[.slice B (doS p inv l).1.length b, .int .i64 (doS p inv l).2]) ∧ Own w' w.heap.size 22 1 B (doS p inv l).1.length b (nums .u64 (doS p inv l).1) ∧ Below w.heap.size w w' := by
  subst hn; exact do_calls p inv A c l w hp hr hl hw
theorem weigh_n (p : Int) (inv : Bool) (A B : Option Addr) (n ca m cb : Nat) (x v : List Int) (w : World) (hn : x.length = n) (hm : v.length = m) (hp : U64 p) (hr : Row w A (nums .u64 x)) (hl : n ≤ 9223372036854775807) (hw : ∀ d ∈ x, U64 d) (hrv : Row w B (nums .u64 v)) (hlv : m ≤ 9223372036854775807) (hwv : ∀ d ∈ v, U64 d) :
    Calls Tryd.prog 95 #[.int .u64 p, .bool inv, .slice A n ca, .slice B m cb] w fun e w' =>
      e = .returned (.tuple #[.int .u64 (weighS p inv x v).1, .int .i64 (weighS p inv x v).2]) ∧ Below w.heap.size w w' := by
  subst hn; subst hm; exact weigh_calls p inv A B ca cb x v w hp hr hl hw hrv hlv hwv
/-- What weighing comes to, either way around. -/
theorem weigh_both {p : Int} {inv : Bool} {x v : List Int} (h : v.length = x.length) :
    (∃ e, e ≠ 0 ∧ weighS p inv x v = (0, e) ∧ weighS p inv v x = (0, e)) ∨
    (∃ d, (2 ≤ x.length ∧ x.length ≤ 5) ∧ doS p inv v = (d, 0) ∧ d.length = x.length ∧ (∀ a ∈ d, U64 a) ∧ weighS p inv x v = (dotF p d x x.length, 0) ∧ weighS p inv v x = (dotF p d x x.length, 0)) := by
  have sev : ∀ {x v : List Int}, (doS p inv x).2 ≠ 0 → weighS p inv x v = (0, (doS p inv x).2) := fun h => by rw [weighS, if_neg h]
  by_cases ho : (ptsS p x.length inv).2 = 0
  · have ho2 : (ptsS p v.length inv).2 = 0 := by rw [h]; exact ho
    have word : ∀ {x : List Int}, (ptsS p x.length inv).2 = 0 → ¬ inS p x = true → doS p inv x = ([], 7) := fun h1 h2 => by rw [doS, if_pos h1, if_neg h2]
    by_cases hx : inS p x = true
    · have e1 := doS_is ho hx
      by_cases hv : inS p v = true
      · right
        have e2 := doS_is ho2 hv
        obtain ⟨N, hN, h2, h5, hT, _, _⟩ := ptsS_ok ho
        have hsym := weigh_symm p (turnS p x.length inv) x v h
        have hd := dotF_weigh p (turnS p x.length inv) v x
        refine ⟨doL p (turnS p x.length inv) v, ⟨by omega, by omega⟩, by rw [e2, h], by rw [doL_length, h], doL_u64 _ _ _, ?_, ?_⟩
        · rw [weighS, e1, if_pos rfl, if_pos h, if_pos hv, hsym, ← hd, h]
        · rw [weighS, e2, if_pos rfl, if_pos h.symm, if_pos hx, h, ← hd, h]
      · left
        have e2 := word ho2 hv
        refine ⟨7, by decide, ?_, ?_⟩
        · rw [weighS, e1, if_pos rfl, if_pos h, if_neg hv]
        · rw [sev (by rw [e2]; decide), e2]
    · left
      have e1 := word ho hx
      refine ⟨7, by decide, by rw [sev (by rw [e1]; decide), e1], ?_⟩
      by_cases hv : inS p v = true
      · rw [weighS, doS_is ho2 hv, if_pos rfl, if_pos h.symm, if_neg hx]
      · have e2 := word ho2 hv
        rw [sev (by rw [e2]; decide), e2]
  · left
    have err : ∀ {x : List Int}, ¬ (ptsS p x.length inv).2 = 0 → doS p inv x = ([], (ptsS p x.length inv).2) := fun h1 => by rw [doS, if_neg h1]
    have e1 := err ho
    have e2 := err (x := v) (by rw [h]; exact ho)
    refine ⟨(ptsS p x.length inv).2, ho, by rw [sev (by rw [e1]; exact ho), e1], by rw [sev (by rw [e2, h]; exact ho), e2, h]⟩
/-- A sum of words, and words times a number. -/
def zF (p c : Int) (x y : List Int) (t : Nat) : Int := addS p (mulS p c (x.getD t 0)) (y.getD t 0)
def zL (p c : Int) (x y : List Int) (n : Nat) : List Int := (List.range n).map (zF p c x y)
theorem zL_length (p c : Int) (x y : List Int) (n : Nat) : (zL p c x y n).length = n := by simp [zL]
theorem zL_at (p c : Int) (x y : List Int) {n t : Nat} (h : t < n) : (zL p c x y n).getD t 0 = zF p c x y t := by
  rw [List.getD_eq_getElem?_getD]; simp [zL, h]
theorem zL_succ (p c : Int) (x y : List Int) (n : Nat) : zL p c x y (n + 1) = zL p c x y n ++ [zF p c x y n] := by
  unfold zL; rw [List.range_succ, List.map_append, List.map_singleton]
theorem zL_u64 (p c : Int) (x y : List Int) (n : Nat) : ∀ d ∈ zL p c x y n, U64 d := by
  intro d hd
  simp only [zL, List.mem_map] at hd
  obtain ⟨u, _, rfl⟩ := hd
  exact u64_addS _ _ _
theorem zL_in {p : Int} (hk : knownS p = true) (c : Int) (x y : List Int) (n : Nat) : inS p (zL p c x y n) = true := by
  rw [inS_all, hk]
  intro j hj
  have h1 := List.getElem_mem hj
  simp only [zL, List.mem_map] at h1
  obtain ⟨u, _, h2⟩ := h1
  rw [show (zL p c x y n)[j] = zF p c x y u from h2.symm]
  exact redS_hi _ hk
end Go.Proofs.YtohcoidbncbijaaDoor.P
