/- The contracts of package root's Order and Back. Conditions: words of their kinds. -/
import Derived.Test.YtkofhmiakfmcaaaRoot1
import Derived.Test.YtkofhmiakfmcaaaOrd
import Derived.WalkMore
namespace Go.Proofs.Ytkofhmiakfmcaaa.P
open Go.RowKit
set_option linter.unusedVariables false
set_option linter.unusedSimpArgs false
theorem ready_ok {p n : Int} (h : readyS p n = 0) : knownS p = true ∧ 1 ≤ n ∧ n ≤ 8192 := by
  by_cases hk : knownS p = true
  · rw [readyS, if_pos hk] at h
    by_cases h2 : 1 ≤ n ∧ n ≤ 8192
    · exact ⟨hk, h2.1, h2.2⟩
    · rw [if_neg h2] at h; omega
  · rw [readyS, if_neg hk] at h; omega
/-- What Order tells. -/
def orderS (p a n : Int) : Bool × Int := if readyS p n = 0 then (decide (IsOrd p a n.toNat), 0) else (false, readyS p n)
theorem order_calls (p a n : Int) (w : World) (hp : U64 p) (ha : U64 a) :
    Calls Try.prog 74 #[.int .u64 p, .int .u64 a, .int .i64 n] w fun e w' => e = .returned (.tuple #[.bool (orderS p a n).1, .int .i64 (orderS p a n).2]) ∧ Drawn0 w w' := by
  have HP := Lib.hid hp
  have HA := Lib.hid ha
  clear hp ha
  by_cases hr : readyS p n = 0
  · obtain ⟨hk, n0, n1⟩ := ready_ok hr
    obtain ⟨N, rfl⟩ := Int.eq_ofNat_of_zero_le (show 0 ≤ n by omega)
    have HN : Hid (U64 (N : Int)) := Lib.hid ⟨by omega, by omega⟩
    have H1 : Hid (redS p 1 = 1) := Lib.hid (one_red hk)
    have HR := Lib.hid hr
    have hN1 : 1 ≤ N := by omega
    have hN2 : N ≤ 8192 := by omega
    clear hr hk n0 n1
    by_cases hpn : powS p a N = 1
    · have f0 : (powS p a N != 1) = false := by simpa using hpn
      have HPN := Lib.hid hpn
      have HOT : Hid (IsOrd p a N → orderS p a N = (true, 0)) := Lib.hid fun h => by rw [orderS, if_pos HR.out, Int.toNat_natCast, decide_eq_true h]
      have HOF : Hid (¬ IsOrd p a N → orderS p a N = (false, 0)) := Lib.hid fun h => by rw [orderS, if_pos HR.out, Int.toNat_natCast, decide_eq_false h]
      clear hpn
      go_enter Try.func74, Try.ntmps74
      go_wp2_with (first
        | (go_at_call 98; refine (ready_calls _ _ _).mono ?_; rw [HR.out]; rintro e w' ⟨rfl, rfl⟩)
        | (go_at_call 47; refine (pow_calls _ _ _ _ HP.out HA.out HN.out).mono ?_; rw [Int.toNat_natCast]; rintro e w' ⟨rfl, ⟨n1, rfl⟩⟩))
      go_loopw [9, 10] (fun l q wr => ∃ L Q : Nat, l = .int .i64 L ∧ q = .int .i64 Q ∧ Q ≤ N + 1 ∧ L ≤ N ∧ Hid (Sieve p a N L Q) ∧ Drawn0 w' wr) (fun _ q _ => N + 2 - (intOf q).toNat)
      case atStart => exact ⟨N, 2, rfl, rfl, by omega, by omega, Lib.hid (Sieve.start hN1), ⟨_, rfl⟩⟩
      case round =>
        obtain ⟨L, Q, rfl, rfl, hQN, hLN, HS, ⟨n2, rfl⟩⟩ := hrel
        by_cases hl : 1 < L
        · have hQL : Q ≤ L := HS.out.le hl
          have hQ2 : 2 ≤ Q := HS.out.q2
          have hm : (L : Int).tmod (Q : Int) = ((L % Q : Nat) : Int) := by rw [Int.tmod_eq_emod_of_nonneg (by omega)]; rfl
          have hQ0 : ¬ (Q : Int) = 0 := by omega
          by_cases hd : L % Q = 0
          · have fd : decide (0 < (L : Int).tmod (Q : Int)) = false := by rw [hm, hd]; rfl
            clear hm
            go_wp2
            go_hide hQ
            go_loopw [9] (fun l wr => ∃ J L2 : Nat, l = .int .i64 L2 ∧ Hid (L = Q ^ J * L2) ∧ 1 ≤ L2 ∧ L2 ≤ N ∧ wr = w'.drewN n2) (fun l _ => (intOf l).toNat)
            case atStart => exact ⟨0, L, rfl, Lib.hid (by simp), by omega, by omega, rfl⟩
            case round =>
              obtain ⟨J, L2, rfl, HJ, h1, h2, rfl⟩ := hrel
              have hm2 : (L2 : Int) % (Q : Int) = ((L2 % Q : Nat) : Int) := rfl
              by_cases hd2 : L2 % Q = 0
              · have fd2 : ((L2 : Int) % (Q : Int) == 0) = true := by rw [hm2, hd2]; rfl
                have hq2 : (L2 : Int).tdiv (Q : Int) = ((L2 / Q : Nat) : Int) := by rw [Int.tdiv_eq_ediv_of_nonneg (by omega)]; rfl
                have hlt2 : L2 / Q < L2 := Nat.div_lt_self (by omega) (by omega)
                have hpos2 : 0 < L2 / Q := Nat.div_pos (Nat.le_of_dvd (by omega) (Nat.dvd_of_mod_eq_zero hd2)) (by omega)
                have HJ2 : Hid (L = Q ^ (J + 1) * (L2 / Q)) := Lib.hid (by
                  rw [HJ.out, Nat.pow_succ, Nat.mul_assoc, Nat.mul_div_cancel' (Nat.dvd_of_mod_eq_zero hd2)])
                clear hm2 hd2
                generalize L2 / Q = L3 at *
                go_wp2
                go_roundw
                case rel => exact ⟨J + 1, L3, by go_num, HJ2, by omega, by omega, by trivial⟩
                case measure => simp [intOf]; omega
              · have fd2 : ((L2 : Int) % (Q : Int) == 0) = false := by rw [hm2]; simp; omega
                have hq3 : (N : Int).tdiv (Q : Int) = ((N / Q : Nat) : Int) := by rw [Int.tdiv_eq_ediv_of_nonneg (by omega)]; rfl
                have hle3 : N / Q ≤ N := Nat.div_le_self _ _
                have HT := Lib.hid (fun hp => HS.out.take (l2 := L2) (j := J) hd HJ.out hd2 hp)
                have HNO := Lib.hid (fun hp => HOF.out (HS.out.no hd hN1 hp))
                have HLE : Hid (Q + 1 ≤ N + 1) := Lib.hid (by omega)
                clear hm2 hd2 fd
                generalize N / Q = M at *
                have HM : Hid (U64 (M : Int)) := Lib.hid ⟨by omega, by omega⟩
                by_cases hpm : powS p a M = 1
                · have HNO2 := HNO.out hpm
                  have f5 : (powS p a M == 1) = true := by simpa using hpm
                  clear hpm
                  go_wp2
                  subst hQ
                  go_wp2_with (go_at_call 47; refine (pow_calls _ _ _ _ HP.out HA.out HM.out).mono ?_; rw [Int.toNat_natCast]; rintro e w2 ⟨rfl, ⟨n3, rfl⟩⟩)
                  go_ret2
                  exact ⟨by rw [HNO2]; rfl, ⟨_, rfl⟩⟩
                · have HT2 := Lib.hid (HT.out hpm)
                  have f5 : (powS p a M == 1) = false := by simpa using hpm
                  clear hpm
                  go_wp2
                  subst hQ
                  go_wp2_with (go_at_call 47; refine (pow_calls _ _ _ _ HP.out HA.out HM.out).mono ?_; rw [Int.toNat_natCast]; rintro e w2 ⟨rfl, ⟨n3, rfl⟩⟩)
                  go_roundw
                  case rel => exact ⟨L2, Q + 1, rfl, by go_num, by omega, by omega, HT2, ⟨_, rfl⟩⟩
                  case measure => simp [intOf]; omega
          · have fd : decide (0 < (L : Int).tmod (Q : Int)) = true := by rw [hm]; simp; omega
            clear hm
            go_wp2
            go_roundw
            case rel => exact ⟨L, Q + 1, rfl, by go_num, by omega, by omega, Lib.hid (HS.out.skip hd), ⟨_, rfl⟩⟩
            case measure => simp [intOf]; omega
        · have HD := HOT.out (HS.out.done (by omega) H1.out hN1 HPN.out)
          go_wp2
          go_ret2
          exact ⟨by rw [HD]; rfl, ⟨_, rfl⟩⟩
    · have f0 : (powS p a N != 1) = true := by simpa using hpn
      have HF : Hid (orderS p a N = (false, 0)) := Lib.hid (by rw [orderS, if_pos HR.out, Int.toNat_natCast, decide_eq_false (fun h => hpn h.1)])
      clear hpn
      go_enter Try.func74, Try.ntmps74
      go_wp2_with (first
        | (go_at_call 98; refine (ready_calls _ _ _).mono ?_; rw [HR.out]; rintro e w' ⟨rfl, rfl⟩)
        | (go_at_call 47; refine (pow_calls _ _ _ _ HP.out HA.out HN.out).mono ?_; rw [Int.toNat_natCast]; rintro e w' ⟨rfl, ⟨n1, rfl⟩⟩))
      go_ret2
      exact ⟨by rw [HF.out]; rfl, ⟨_, rfl⟩⟩
  · have HF : Hid (orderS p a n = (false, readyS p n)) := Lib.hid (by rw [orderS, if_neg hr])
    have f0 : (readyS p n != 0) = true := by simpa using hr
    clear hr
    go_enter Try.func74, Try.ntmps74
    go_wp2_with (go_at_call 98; refine (ready_calls _ _ _).mono ?_; rintro e w' ⟨rfl, rfl⟩)
    go_ret2
    exact ⟨by rw [HF.out]; rfl, ⟨0, rfl⟩⟩
/-- What Back tells. -/
def backS (p n : Int) : Int × Int := if (rootS p n).2 = 0 then invS p (rootS p n).1 else (0, (rootS p n).2)
theorem u64_genS (p : Int) : U64 (genS p) := by unfold genS; split <;> (try split) <;> (try split) <;> decide
theorem u64_rootS (p n : Int) : U64 (rootS p n).1 := by
  unfold rootS; split <;> (try split) <;> first | exact u64_powS _ _ _ | exact (show U64 0 by decide)
theorem back_calls (p n : Int) (w : World) (hp : U64 p) :
    Calls Try.prog 72 #[.int .u64 p, .int .i64 n] w fun e w' => e = .returned (.tuple #[.int .u64 (backS p n).1, .int .i64 (backS p n).2]) ∧ Below w.heap.size w w' := by
  have HP := Lib.hid hp
  have HU := Lib.hid (u64_rootS p n)
  by_cases hr : (rootS p n).2 = 0
  · have HF : Hid (backS p n = invS p (rootS p n).1) := Lib.hid (by rw [backS, if_pos hr])
    have HR := Lib.hid hr
    clear hr hp
    go_enter Try.func72, Try.ntmps72
    go_wp2_with (first
      | (go_at_call 62; refine (root_calls _ _ _ HP.out).mono ?_; rw [HR.out]; rintro e w' ⟨rfl, hb⟩)
      | (go_at_call 48; refine (inv_calls _ _ _ HP.out HU.out).mono ?_; rintro e w' ⟨rfl, ⟨n1, rfl⟩⟩))
    go_ret2
    exact ⟨by rw [HF.out]; rfl, below_drewN hb _⟩
  · have HF : Hid (backS p n = (0, (rootS p n).2)) := Lib.hid (by rw [backS, if_neg hr])
    have f0 : ((rootS p n).2 != 0) = true := by simpa using hr
    clear hr hp
    go_enter Try.func72, Try.ntmps72
    go_wp2_with (go_at_call 62; refine (root_calls _ _ _ HP.out).mono ?_; rintro e w' ⟨rfl, hb⟩)
    go_ret2
    exact ⟨by rw [HF.out]; rfl, hb⟩
end Go.Proofs.Ytkofhmiakfmcaaa.P
