/- The contracts of package brackenref01's Mul, In and Same. Conditions: the words are words of 64 bits; slices read as lists. -/
import Derived.Test.YtkofhmiakfmcaaaRef01
namespace Go.Proofs.Ytkofhmiakfmcaaa.P
open Go.RowKit
set_option linter.unusedVariables false
set_option linter.unusedSimpArgs false
/-- What is held at the head of a round of Mul's loop: with r rounds to come. -/
def MulAt (a b0 : Int) (r : Nat) (out b bit : Int) : Prop :=
  ∃ hi : Int, b0 = hi * 2 ^ r + b ∧ 0 ≤ b ∧ b < 2 ^ r ∧ out = redS 18446744069414584321 (hi * a) ∧ bit = 2 ^ r / 2
theorem mulAt_start {a b : Int} (h0 : 0 ≤ b) (h1 : b < 18446744073709551616) : MulAt a b 64 0 b 9223372036854775808 :=
  ⟨0, by omega, h0, h1, by rw [Int.zero_mul, redS_zero], rfl⟩
theorem mulAt_end {a b0 out b bit : Int} (h : MulAt a b0 0 out b bit) : out = redS 18446744069414584321 (a * b0) := by
  obtain ⟨hi, h1, h2, h3, h4, h5⟩ := h
  have : b = 0 := by simp at h3; omega
  subst this
  rw [h4, h1, Int.mul_comm]; simp
theorem mulAt_bit {a b0 out b bit : Int} {r : Nat} (h : MulAt a b0 (r + 1) out b bit) : bit = 2 ^ r := by
  obtain ⟨hi, h1, h2, h3, h4, h5⟩ := h
  rw [h5, Int.pow_succ]; omega
theorem mulAt_out {a b0 out b bit : Int} {r : Nat} (h : MulAt a b0 r out b bit) : 0 ≤ out ∧ out < 18446744069414584321 := by
  obtain ⟨hi, h1, h2, h3, h4, h5⟩ := h
  rw [h4]; exact ⟨redS_lo _ _, redS_hi _ rfl⟩
theorem mulAt_b {a b0 out b bit : Int} {r : Nat} (h : MulAt a b0 r out b bit) : 0 ≤ b := by
  obtain ⟨hi, h1, h2, h3, h4, h5⟩ := h
  exact h2
theorem mulAt_lt {a b0 out b bit : Int} {r : Nat} (h : MulAt a b0 (r + 1) out b bit) : b < 2 * bit := by
  have e := mulAt_bit h
  obtain ⟨hi, h1, h2, h3, h4, h5⟩ := h
  rw [e]; rw [Int.pow_succ] at h3; omega
theorem mulAt_yes {a b0 out b bit : Int} {r : Nat} (h : MulAt a b0 (r + 1) out b bit) (hb : bit ≤ b) :
    MulAt a b0 r (redS 18446744069414584321 (redS 18446744069414584321 (out + out) + a)) (b - bit) (bit / 2) := by
  have e := mulAt_bit h
  obtain ⟨hi, h1, h2, h3, h4, h5⟩ := h
  subst e
  rw [Int.pow_succ] at h1 h3
  refine ⟨2 * hi + 1, ?_, by omega, by omega, ?_, rfl⟩
  · rw [Int.add_mul, h1, Int.one_mul, Int.mul_assoc 2 hi, Int.mul_comm 2, Int.mul_assoc]; omega
  · rw [redS_add_left, h4, Int.add_mul, Int.one_mul, ← redS_add_left, redS_add_left (18446744069414584321) (hi * a), redS_add_right]
    rw [redS_add_left, Int.mul_assoc 2 hi a, Int.two_mul]
theorem mulAt_no {a b0 out b bit : Int} {r : Nat} (h : MulAt a b0 (r + 1) out b bit) (hb : b < bit) :
    MulAt a b0 r (redS 18446744069414584321 (out + out)) b (bit / 2) := by
  have e := mulAt_bit h
  obtain ⟨hi, h1, h2, h3, h4, h5⟩ := h
  subst e
  rw [Int.pow_succ] at h1 h3
  refine ⟨2 * hi, ?_, by omega, by omega, ?_, rfl⟩
  · rw [h1, Int.mul_assoc 2 hi, Int.mul_comm 2, Int.mul_assoc]
  · rw [h4, redS_add_left, redS_add_right, Int.mul_assoc 2 hi a, Int.two_mul]
theorem bit_bd (r : Nat) (h : r < 64) : (2 : Int) ^ r < 18446744073709551616 ∧ (0 : Int) < 2 ^ r := by
  refine ⟨?_, Int.pow_pos (by omega)⟩
  have h1 : (2 : Nat) ^ r < 2 ^ 64 := Nat.pow_lt_pow_right (by omega) h
  have h2 : ((2 ^ r : Nat) : Int) < ((2 ^ 64 : Nat) : Int) := by exact_mod_cast h1
  simpa using h2
theorem r01_mul_P0 (a b : Int) (w : World) (ha : U64 a) (hb : U64 b) :
    Calls Try.prog 57 #[.int .u64 18446744069414584321, .int .u64 a, .int .u64 b] w fun e w' => e = .returned (.int .u64 (mulS 18446744069414584321 a b)) ∧ w' = w := by
  have HF : Hid (mulS 18446744069414584321 a b = redS 18446744069414584321 (a % 18446744069414584321 * (b % 18446744069414584321))) := Lib.hid (by
    unfold mulS
    rw [← redS_mul_left, ← redS_mul_right, show redS 18446744069414584321 a = a % 18446744069414584321 from redS_known rfl, show redS 18446744069414584321 b = b % 18446744069414584321 from redS_known rfl])
  obtain ⟨ha0, ha1⟩ := ha
  obtain ⟨hb0, hb1⟩ := hb
  have hm0 : 0 ≤ a % 18446744069414584321 := by omega
  have hm1 : a % 18446744069414584321 < 18446744069414584321 := by omega
  have HS : Hid (MulAt (a % 18446744069414584321) (b % 18446744069414584321) 64 0 (b % 18446744069414584321) 9223372036854775808) := Lib.hid (mulAt_start (by omega) (by omega))
  have HK : Hid (knownS 18446744069414584321 = true) := Lib.hid rfl
  go_enter Try.func57, Try.ntmps57
  go_wp2_with (go_at_call 52; refine (r01_known _ _).mono ?_; rintro e w' ⟨rfl, rfl⟩; rw [HK.out])
  go_loop [2, 7, 8, 25] (fun b' out bit i => ∃ (k : Nat) (B O T : Int), k ≤ 64 ∧ i = .int .i64 k ∧ b' = .int .u64 B ∧ out = .int .u64 O ∧ bit = .int .u64 T ∧ Hid (MulAt (a % 18446744069414584321) (b % 18446744069414584321) (64 - k) O B T)) (fun _ _ _ i => 64 - (intOf i).toNat)
  case atStart => exact ⟨0, _, _, _, by omega, rfl, rfl, rfl, rfl, HS⟩
  case round =>
    obtain ⟨k, B, O, T, hk, rfl, rfl, rfl, rfl, H⟩ := hrel
    by_cases hlt : k < 64
    · obtain ⟨r, hr⟩ : ∃ r, 64 - k = r + 1 := ⟨63 - k, by omega⟩
      have H1 : Hid (MulAt (a % 18446744069414584321) (b % 18446744069414584321) (r + 1) O B T) := Lib.hid (hr ▸ H.out)
      have ho := mulAt_out H1.out
      have hB := mulAt_b H1.out
      have hT := mulAt_bit H1.out
      have hB1 := mulAt_lt H1.out
      obtain ⟨t1, t0⟩ := bit_bd r (by omega)
      rw [← hT] at t1 t0
      have hr2 : 64 - (k + 1) = r := by omega
      have HR2 := Lib.hid hr2
      clear hT hr hr2 H
      obtain ⟨ho0, ho1⟩ := ho
      have hq0 := redS_lo 18446744069414584321 (O + O)
      have hq1 := redS_hi (O + O) HK.out
      by_cases hge : T ≤ B
      · have HY := Lib.hid (mulAt_yes H1.out hge)
        go_wp2_with (go_at_call 97; refine (r01_plus _ _ _ _ HK.out (by assumption) (by assumption) (by assumption) (by assumption)).mono ?_; rintro e w' ⟨rfl, rfl⟩)
        go_round
        case rel => exact ⟨k + 1, _, _, _, by omega, by go_num, rfl, rfl, rfl, Lib.hid (by rw [HR2.out]; exact HY.out)⟩
        case measure => simp [intOf]; omega
      · have HY := Lib.hid (mulAt_no H1.out (by omega))
        go_wp2_with (go_at_call 97; refine (r01_plus _ _ _ _ HK.out (by assumption) (by assumption) (by assumption) (by assumption)).mono ?_; rintro e w' ⟨rfl, rfl⟩)
        go_round
        case rel => exact ⟨k + 1, _, _, _, by omega, by go_num, rfl, rfl, rfl, Lib.hid (by rw [HR2.out]; exact HY.out)⟩
        case measure => simp [intOf]; omega
    · have hk64 : k = 64 := by omega
      subst hk64
      have HE := Lib.hid (mulAt_end H.out)
      go_wp2
      go_ret
      exact ⟨by rw [HF.out, ← HE.out]; rfl, rfl⟩
theorem r01_mul (p a b : Int) (w : World) (hp : U64 p) (ha : U64 a) (hb : U64 b) :
    Calls Try.prog 57 #[.int .u64 p, .int .u64 a, .int .u64 b] w fun e w' => e = .returned (.int .u64 (mulS p a b)) ∧ w' = w := by
  by_cases hk : knownS p = true
  · by_cases h0 : p = 18446744069414584321
    · subst h0; exact r01_mul_P0 a b w ha hb
    · have hlt : 1 < p ∧ p < 2147483648 := by rcases knownS_cases hk with h | h | h <;> omega
      have HF : Hid (mulS p a b = a % p * (b % p) % p) := Lib.hid (by unfold mulS; rw [redS_known hk, Int.mul_emod])
      have ha2 := Int.emod_nonneg a (b := p) (by omega)
      have ha3 := Int.emod_lt_of_pos a (b := p) (by omega)
      have hb2 := Int.emod_nonneg b (b := p) (by omega)
      have hb3 := Int.emod_lt_of_pos b (b := p) (by omega)
      have hm : 0 ≤ a % p * (b % p) := Int.mul_nonneg ha2 hb2
      have hm1 : a % p * (b % p) < 18446744073709551616 := by
        have h1 : a % p * (b % p) ≤ 2147483648 * 2147483648 := Int.mul_le_mul (by omega) (by omega) hb2 (by omega)
        omega
      obtain ⟨ha0, ha1⟩ := ha
      obtain ⟨hb0, hb1⟩ := hb
      obtain ⟨hl0, hl1⟩ := hlt
      have HK := Lib.hid hk
      have hz : (p == 0) = false := by simp; omega
      clear hp h0
      go_enter Try.func57, Try.ntmps57
      go_wp2_with (go_at_call 52; refine (r01_known _ _).mono ?_; rintro e w' ⟨rfl, rfl⟩)
      go_ret
      exact ⟨by rw [HF.out]; rfl, rfl⟩
  · have HR : Hid (mulS p a b = 0) := Lib.hid (redS_not hk)
    have hk' : knownS p = false := by simpa using hk
    clear hk
    go_enter Try.func57, Try.ntmps57
    go_wp2_with (go_at_call 52; refine (r01_known _ _).mono ?_; rintro e w' ⟨rfl, rfl⟩)
    go_ret
    exact ⟨by rw [HR.out]; rfl, rfl⟩
theorem r01_in_some (p : Int) (x : Addr) (c : Nat) (l : List Int) (w : World) (hr : Row w (some x) (nums .u64 l)) (hl : l.length ≤ 9223372036854775807) :
    Calls Try.prog 54 #[.int .u64 p, .slice (some x) l.length c] w fun e w' => e = .returned (.bool (inS p l)) ∧ w' = w := by
  have HR := Lib.hid hr
  clear hr
  go_enter Try.func54, Try.ntmps54
  go_wp2
  go_loop [6, 9] (fun a i => ∃ k : Nat, k ≤ l.length ∧ i = .int .i64 k ∧ Hid (∀ j, (hj : j < l.length) → j < k → l[j] < p)) (fun _ i => l.length - (intOf i).toNat)
  case atStart => exact ⟨0, Nat.zero_le _, rfl, Lib.hid fun _ _ h => absurd h (Nat.not_lt_zero _)⟩
  case round =>
    obtain ⟨k, hk, rfl, H⟩ := hrel
    by_cases hlt : k < l.length
    · have hc := HR.out.num hlt
      by_cases hge : p ≤ l[k]
      · have HF := Lib.hid (inS_false hlt hge)
        go_wp2
        go_ret
        exact ⟨by rw [HF.out]; rfl, rfl⟩
      · go_wp2
        go_round
        case rel => exact ⟨k + 1, by omega, by go_num, Lib.hid fun j hj hjk => by
          by_cases e : j = k
          · subst e; omega
          · exact H.out j hj (by omega)⟩
        case measure => simp [intOf]; omega
    · have HF := Lib.hid (inS_all (p := p) (l := l) fun j hj => H.out j hj (by omega))
      go_wp2_with (go_at_call 52; refine (r01_known _ _).mono ?_; rintro e w' ⟨rfl, rfl⟩)
      go_ret
      exact ⟨by rw [HF.out]; rfl, rfl⟩
theorem r01_in_nil (p : Int) (A : Option Addr) (c : Nat) (w : World) :
    Calls Try.prog 54 #[.int .u64 p, .slice A 0 c] w fun e w' => e = .returned (.bool (inS p [])) ∧ w' = w := by
  have HF : Hid (inS p [] = knownS p) := Lib.hid (inS_all fun j hj => absurd hj (Nat.not_lt_zero _))
  go_enter Try.func54, Try.ntmps54
  go_wp2
  refine wp_loop_once ?_
  go_wp2_with (go_at_call 52; refine (r01_known _ _).mono ?_; rintro e w' ⟨rfl, rfl⟩)
  go_ret
  exact ⟨by rw [HF.out]; rfl, rfl⟩
theorem r01_in (p : Int) (A : Option Addr) (c : Nat) (l : List Int) (w : World) (hr : Row w A (nums .u64 l)) (hl : l.length ≤ 9223372036854775807) :
    Calls Try.prog 54 #[.int .u64 p, .slice A l.length c] w fun e w' => e = .returned (.bool (inS p l)) ∧ w' = w := by
  cases l with
  | nil => exact r01_in_nil p A c w
  | cons a l =>
    obtain ⟨x, rfl⟩ := hr.some_of (by simp [nums])
    exact r01_in_some p x c _ w hr hl
end Go.Proofs.Ytkofhmiakfmcaaa.P
