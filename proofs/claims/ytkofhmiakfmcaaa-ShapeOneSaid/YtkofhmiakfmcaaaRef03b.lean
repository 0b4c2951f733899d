/- The contracts of brackenref03's Root, Order and Back. Conditions: words of their kinds. -/
import Derived.Test.YtkofhmiakfmcaaaRef03
namespace Go.Proofs.Ytkofhmiakfmcaaa.P
open Go.RowKit
set_option linter.unusedVariables false
set_option linter.unusedSimpArgs false
theorem r03_root (p n : Int) (w : World) (hp : U64 p) :
    Calls Try.prog 71 #[.int .u64 p, .int .i64 n] w fun e w' => e = .returned (.tuple #[.int .u64 (rootS p n).1, .int .i64 (rootS p n).2]) ∧ Below w.heap.size w w' := by
  have HP := Lib.hid hp
  by_cases hr : readyS p n = 0
  · obtain ⟨hk, n0, n1⟩ := ready_ok hr
    obtain ⟨p0, p1⟩ := known_pos hk
    have HR := Lib.hid hr
    clear hr hk hp
    by_cases hz : (p - 1) % n = 0
    · have f0 : ((p - 1) % n != 0) = false := by rw [hz]; rfl
      have hq0 : 0 ≤ (p - 1) / n := Int.ediv_nonneg (by omega) (by omega)
      have hq1 : (p - 1) / n ≤ p - 1 := Int.ediv_le_self _ (by omega)
      obtain ⟨M, hM⟩ := Int.eq_ofNat_of_zero_le hq0
      have HN : Hid (M < 18446744073709551616) := Lib.hid (by omega)
      have HF : Hid (rootS p n = (powS p (genS p) M, 0)) := Lib.hid (by rw [rootS, if_pos HR.out, if_pos hz, hM, Int.toNat_natCast])
      have HU : Hid (U64 ((p - 1) / n)) := Lib.hid ⟨hq0, by omega⟩
      have HGU : Hid (U64 (genS p)) := Lib.hid (u64_genS p)
      clear hz
      go_enter Try.func71, Try.ntmps71
      go_wp2_with (go_at_call 101; refine (r03_may _ _ _).mono ?_; rw [HR.out]; rintro e w' ⟨rfl, rfl⟩)
      have hz0 : ¬ n = 0 := by omega
      have hw1 : IntKind.u64.wrap (p - 1) = p - 1 := by rw [wrap_u64]; omega
      have hw2 : IntKind.u64.wrap n = n := by rw [wrap_u64]; omega
      have hw3 : (p - 1).tdiv n = (p - 1) / n := Int.tdiv_eq_ediv_of_nonneg (by omega)
      have hw4 : IntKind.u64.wrap ((p - 1) / n) = (p - 1) / n := by rw [wrap_u64]; omega
      rw [hM] at hw3 hw4
      clear hM
      refine wp_region_below (by kernel_rfl) (by kernel_rfl) ?_
      repeat (first
        | (refine wpQuiet_step (fun K hK => ?_); go_simp; refine ⟨_, fun _ _ => rfl, hK _ ?_⟩; clear hK K)
        | (refine wpQuiet_step (fun K hK => ?_); go_simp; apply Exists.intro; refine ⟨fun W hW => ?qc, hK _ ?_⟩
           (case qc => first
            | (go_at_call 77; exact qb_same (r03_gen _ _) hW)
            | (go_at_call 67; exact qb_drawn (r02_pow _ _ HP.out HGU.out M _ HN.out) hW))
           clear hK K))
      refine wpQuiet_nil ?_
      intro w2 hw2
      go_wp2
      go_ret2
      exact ⟨by rw [HF.out]; rfl, hw2⟩
    · have f0 : ((p - 1) % n != 0) = true := by simpa using hz
      have HF : Hid (rootS p n = (0, 5)) := Lib.hid (by rw [rootS, if_pos HR.out, if_neg hz])
      clear hz
      go_enter Try.func71, Try.ntmps71
      go_wp2_with (go_at_call 101; refine (r03_may _ _ _).mono ?_; rw [HR.out]; rintro e w' ⟨rfl, rfl⟩)
      go_ret2
      exact ⟨by rw [HF.out]; rfl, Below.refl _ _⟩
  · have HF : Hid (rootS p n = (0, readyS p n)) := Lib.hid (by rw [rootS, if_neg hr])
    have f0 : (readyS p n != 0) = true := by simpa using hr
    clear hr
    go_enter Try.func71, Try.ntmps71
    go_wp2_with (go_at_call 101; refine (r03_may _ _ _).mono ?_; rintro e w' ⟨rfl, rfl⟩)
    go_ret2
    exact ⟨by rw [HF.out]; rfl, Below.refl _ _⟩
theorem r03_back (p n : Int) (w : World) (hp : U64 p) :
    Calls Try.prog 73 #[.int .u64 p, .int .i64 n] w fun e w' => e = .returned (.tuple #[.int .u64 (backS p n).1, .int .i64 (backS p n).2]) ∧ Below w.heap.size w w' := by
  have HP := Lib.hid hp
  have HU := Lib.hid (u64_rootS p n)
  by_cases hr : (rootS p n).2 = 0
  · have HF : Hid (backS p n = invS p (rootS p n).1) := Lib.hid (by rw [backS, if_pos hr])
    have HR := Lib.hid hr
    clear hr hp
    go_enter Try.func73, Try.ntmps73
    go_wp2_with (first
      | (go_at_call 71; refine (r03_root _ _ _ HP.out).mono ?_; rw [HR.out]; rintro e w' ⟨rfl, hb⟩)
      | (go_at_call 64; refine (r02_inv _ _ _ HP.out HU.out).mono ?_; rintro e w' ⟨rfl, ⟨n1, rfl⟩⟩))
    go_ret2
    exact ⟨by rw [HF.out]; rfl, below_drewN hb _⟩
  · have HF : Hid (backS p n = (0, (rootS p n).2)) := Lib.hid (by rw [backS, if_neg hr])
    have f0 : ((rootS p n).2 != 0) = true := by simpa using hr
    clear hr hp
    go_enter Try.func73, Try.ntmps73
    go_wp2_with (go_at_call 71; refine (r03_root _ _ _ HP.out).mono ?_; rintro e w' ⟨rfl, hb⟩)
    go_ret2
    exact ⟨by rw [HF.out]; rfl, hb⟩
theorem r03_order (p a n : Int) (w : World) (hp : U64 p) (ha : U64 a) :
    Calls Try.prog 75 #[.int .u64 p, .int .u64 a, .int .i64 n] w fun e w' => e = .returned (.tuple #[.bool (orderS p a n).1, .int .i64 (orderS p a n).2]) ∧ Drawn0 w w' := by
  have HP := Lib.hid hp
  have HA := Lib.hid ha
  clear hp ha
  by_cases hr : readyS p n = 0
  · obtain ⟨hk, n0, n1⟩ := ready_ok hr
    obtain ⟨N, rfl⟩ := Int.eq_ofNat_of_zero_le (show 0 ≤ n by omega)
    have HR := Lib.hid hr
    have hN1 : 1 ≤ N := by omega
    have hN2 : N ≤ 8192 := by omega
    have HO : Hid (orderS p a N = (decide (IsOrd p a N), 0)) := Lib.hid (by rw [orderS, if_pos HR.out, Int.toNat_natCast])
    have HS : Hid (redS p a = powS p a 1) := Lib.hid (powS_one p a).symm
    clear hr hk n0 n1
    go_enter Try.func75, Try.ntmps75
    go_wp2_with (first
      | (go_at_call 101; refine (r03_may _ _ _).mono ?_; rw [HR.out]; rintro e w' ⟨rfl, rfl⟩)
      | (go_at_call 59; refine (r01_reduce _ _ _ HP.out HA.out).mono ?_; rintro e w' ⟨rfl, rfl⟩))
    rw [HS.out]
    go_loopw [9, 10] (fun x i wr => ∃ I : Nat, 1 ≤ I ∧ I ≤ N ∧ x = .int .u64 (powS p a I) ∧ i = .int .i64 I ∧ Hid (∀ k, k < I → 0 < k → powS p a k ≠ 1) ∧ Drawn0 w' wr) (fun _ i _ => N - (intOf i).toNat)
    case atStart => exact ⟨1, by omega, hN1, rfl, rfl, Lib.hid fun k h1 h2 => absurd h1 (by omega), ⟨0, rfl⟩⟩
    case round =>
      obtain ⟨I, hI1, hIN, rfl, rfl, HK, ⟨q1, rfl⟩⟩ := hrel
      by_cases hlt : I < N
      · by_cases h1 : powS p a I = 1
        · have HF : Hid (orderS p a N = (false, 0)) := Lib.hid (by rw [HO.out, decide_eq_false (fun h => h.2 I hlt (by omega) h1)])
          have f1 : (powS p a I == 1) = true := by simpa using h1
          clear h1
          go_wp2
          go_ret2
          exact ⟨by rw [HF.out]; rfl, ⟨_, rfl⟩⟩
        · have f1 : (powS p a I == 1) = false := by simpa using h1
          have HX : Hid (mulS p (powS p a I) a = powS p a (I + 1)) := Lib.hid (powS_succ _ _ _)
          have HK2 : Hid (∀ k, k < I + 1 → 0 < k → powS p a k ≠ 1) := Lib.hid fun k hk h0 => by
            by_cases e : k = I
            · subst e; exact h1
            · exact HK.out k (by omega) h0
          clear h1
          go_wp2_with (go_at_call 57; refine (r01_mul _ _ _ _ HP.out (u64_powS _ _ _) HA.out).mono ?_; rintro e w2 ⟨rfl, rfl⟩)
          go_roundw
          case rel => exact ⟨I + 1, by omega, by omega, by rw [HX.out], by go_num, HK2, ⟨_, rfl⟩⟩
          case measure => simp [intOf]; omega
      · have hI : I = N := by omega
        subst hI
        have HF : Hid (orderS p a I = (powS p a I == 1, 0)) := Lib.hid (by
          rw [HO.out]
          by_cases h1 : powS p a I = 1
          · rw [decide_eq_true (show IsOrd p a I from ⟨h1, HK.out⟩), h1]; rfl
          · rw [decide_eq_false (fun h : IsOrd p a I => h1 h.1)]
            have : (powS p a I == 1) = false := by simpa using h1
            rw [this])
        go_wp2
        go_ret2
        exact ⟨by rw [HF.out]; rfl, ⟨_, rfl⟩⟩
  · have HF : Hid (orderS p a n = (false, readyS p n)) := Lib.hid (by rw [orderS, if_neg hr])
    have f0 : (readyS p n != 0) = true := by simpa using hr
    clear hr
    go_enter Try.func75, Try.ntmps75
    go_wp2_with (go_at_call 101; refine (r03_may _ _ _).mono ?_; rintro e w' ⟨rfl, rfl⟩)
    go_ret2
    exact ⟨by rw [HF.out]; rfl, ⟨0, rfl⟩⟩
end Go.Proofs.Ytkofhmiakfmcaaa.P
