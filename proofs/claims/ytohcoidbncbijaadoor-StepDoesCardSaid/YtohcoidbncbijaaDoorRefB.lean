/- Several texts as one: Ref01, Ref01b, Pow2, App, App2, Ref02, Ref03, Ref03b, LawPs, RootP, RootsP, FlyP, FlyQ. Conditions: those of each lemma. -/
import Derived.Test.YtohcoidbncbijaaDoorFieldB
import Derived.Test.YtohcoidbncbijaaDoorBaseB
import Derived.Deep.AppendLies
/- The contracts of package brackenref01's functions: they come to what the field's come to. Conditions: the words are words of 64 bits. -/
namespace Go.Proofs.YtohcoidbncbijaaDoor.P
open Go.RowKit
set_option linter.unusedVariables false
set_option linter.unusedSimpArgs false
theorem r01_known (p : Int) (w : World) :
    Calls Tryd.prog 107 #[.int .u64 p] w fun e w' => e = .returned (.bool (knownS p)) ∧ w' = w := by
  by_cases h0 : (p == 18446744069414584321) = true
  · have HK : Hid (knownS p = true) := Lib.hid (by simp [knownS, h0])
    go_enter Tryd.func107, Tryd.ntmps107
    go_wp2
    go_ret
    exact ⟨by rw [HK.out]; rfl, rfl⟩
  · replace h0 : (p == 18446744069414584321) = false := by simpa using h0
    by_cases h1 : (p == 998244353) = true
    · have HK : Hid (knownS p = true) := Lib.hid (by simp [knownS, h1])
      go_enter Tryd.func107, Tryd.ntmps107
      go_wp2
      go_ret
      exact ⟨by rw [HK.out]; rfl, rfl⟩
    · replace h1 : (p == 998244353) = false := by simpa using h1
      have HK : Hid (knownS p = (p == 2013265921)) := Lib.hid (by simp [knownS, h0, h1])
      go_enter Tryd.func107, Tryd.ntmps107
      go_wp2
      go_ret
      exact ⟨by rw [HK.out]; rfl, rfl⟩
theorem r01_reduce (p a : Int) (w : World) (hp : U64 p) (ha : U64 a) :
    Calls Tryd.prog 124 #[.int .u64 p, .int .u64 a] w fun e w' => e = .returned (.int .u64 (redS p a)) ∧ w' = w := by
  obtain ⟨hp0, hp1⟩ := hp
  obtain ⟨ha0, ha1⟩ := ha
  by_cases hk : knownS p = true
  · have HR : Hid (redS p a = a % p) := Lib.hid (redS_known hk)
    have hpp := (known_pos hk).1
    go_enter Tryd.func124, Tryd.ntmps124
    go_wp2_with (go_at_call 107; refine (r01_known _ _).mono ?_; rintro e w' ⟨rfl, rfl⟩)
    go_ret
    exact ⟨by rw [HR.out]; rfl, rfl⟩
  · have HR : Hid (redS p a = 0) := Lib.hid (redS_not hk)
    have hk' : knownS p = false := by simpa using hk
    clear hk
    go_enter Tryd.func124, Tryd.ntmps124
    go_wp2_with (go_at_call 107; refine (r01_known _ _).mono ?_; rintro e w' ⟨rfl, rfl⟩)
    go_ret
    exact ⟨by rw [HR.out]; rfl, rfl⟩
theorem sub_of {p a b : Int} (hk : knownS p = true) : subS p a b = if redS p b ≤ redS p a then redS p a - redS p b else p - (redS p b - redS p a) := by
  have hx0 := redS_lo p a
  have hx1 := redS_hi a hk
  have hy0 := redS_lo p b
  have hy1 := redS_hi b hk
  unfold subS
  rw [← redS_sub_left, ← redS_sub_right]
  split
  · exact redS_small hk (by omega) (by omega)
  · rw [redS_known hk, ← Int.add_emod_right]
    rw [show redS p a - redS p b + p = p - (redS p b - redS p a) from by omega]
    exact Int.emod_eq_of_lt (by omega) (by omega)
/-- plus, of two that are below the prime. -/
theorem r01_plus (p a b : Int) (w : World) (hk : knownS p = true) (ha0 : 0 ≤ a) (ha : a < p) (hb0 : 0 ≤ b) (hb : b < p) :
    Calls Tryd.prog 125 #[.int .u64 p, .int .u64 a, .int .u64 b] w fun e w' => e = .returned (.int .u64 (redS p (a + b))) ∧ w' = w := by
  obtain ⟨hp0, hp1⟩ := known_pos hk
  by_cases h : p ≤ a + b
  · have HC : Hid (redS p (a + b) = a - (p - b)) := Lib.hid (by
      rw [redS_known hk, ← Int.sub_emod_right, show a + b - p = a - (p - b) from by omega]; exact Int.emod_eq_of_lt (by omega) (by omega))
    clear hk
    go_enter Tryd.func125, Tryd.ntmps125
    go_wp2
    go_ret
    exact ⟨by rw [HC.out]; rfl, rfl⟩
  · have HC : Hid (redS p (a + b) = a + b) := Lib.hid (redS_small hk (by omega) (by omega))
    clear hk
    go_enter Tryd.func125, Tryd.ntmps125
    go_wp2
    go_ret
    exact ⟨by rw [HC.out]; rfl, rfl⟩
theorem r01_add (p a b : Int) (w : World) (hp : U64 p) (ha : U64 a) (hb : U64 b) :
    Calls Tryd.prog 129 #[.int .u64 p, .int .u64 a, .int .u64 b] w fun e w' => e = .returned (.int .u64 (addS p a b)) ∧ Drawn0 w w' := by
  by_cases hk : knownS p = true
  · have HK := Lib.hid hk
    have HS : Hid (addS p a b = redS p (a % p + b % p)) := Lib.hid (by unfold addS; rw [redS_known hk, redS_known hk, ← Int.add_emod])
    have hm0 := Int.emod_nonneg a (b := p) (by have := (known_pos hk).1; omega)
    have hm1 := Int.emod_lt_of_pos a (b := p) (by have := (known_pos hk).1; omega)
    have hn0 := Int.emod_nonneg b (b := p) (by have := (known_pos hk).1; omega)
    have hn1 := Int.emod_lt_of_pos b (b := p) (by have := (known_pos hk).1; omega)
    obtain ⟨hp0, hp1⟩ := known_pos hk
    obtain ⟨ha0, ha1⟩ := ha
    obtain ⟨hb0, hb1⟩ := hb
    have hz : (p == 0) = false := by simp; omega
    go_enter Tryd.func129, Tryd.ntmps129
    go_wp2_with (go_at_call 107; refine (r01_known _ _).mono ?_; rintro e w' ⟨rfl, rfl⟩)
    go_quiet ((go_at_call 125; exact Calls.quiet_of_same ((r01_plus p (a % p) (b % p) _ HK.out (by assumption) (by assumption) (by assumption) (by assumption)).mono fun e w' h => h)))
    go_wp2
    go_ret
    exact ⟨by rw [HS.out]; rfl, ⟨_, rfl⟩⟩
  · have HR : Hid (addS p a b = 0) := Lib.hid (redS_not hk)
    have hk' : knownS p = false := by simpa using hk
    clear hk
    go_enter Tryd.func129, Tryd.ntmps129
    go_wp2_with (go_at_call 107; refine (r01_known _ _).mono ?_; rintro e w' ⟨rfl, rfl⟩)
    go_ret
    exact ⟨by rw [HR.out]; rfl, ⟨0, rfl⟩⟩
end Go.Proofs.YtohcoidbncbijaaDoor.P
/- The contracts of package brackenref01's Mul, In and Same. Conditions: the words are words of 64 bits; slices read as lists. -/
namespace Go.Proofs.YtohcoidbncbijaaDoor.P
open Go.RowKit
set_option linter.unusedVariables false
set_option linter.unusedSimpArgs false
/-- What is held at the head of a round of Mul's loop: with r rounds to come. -/
def MulAt (a b0 : Int) (r : Nat) (out b bit : Int) : Prop :=
  ∃ hi : Int, b0 = hi * 2 ^ r + b ∧ 0 ≤ b ∧ b < 2 ^ r ∧ out = redS 18446744069414584321 (hi * a) ∧ bit = 2 ^ r / 2
theorem mulAt_start {a b : Int} (h0 : 0 ≤ b) (h1 : b < 18446744073709551616) : MulAt a b 64 0 b 9223372036854775808 :=
  ⟨0, by omega, h0, h1, by rw [Int.zero_mul, redS_zero], rfl⟩
theorem mulAt_end {a b0 out b bit : Int} (h : MulAt a b0 0 out b bit) : out = redS 18446744069414584321 (a * b0) := by
  obtain ⟨hi, h1, h2, h3, h4, h5⟩ := h
  have : b = 0 := by simp at h3; omega
  subst this
  rw [h4, h1, Int.mul_comm]; simp
theorem mulAt_bit {a b0 out b bit : Int} {r : Nat} (h : MulAt a b0 (r + 1) out b bit) : bit = 2 ^ r := by
  obtain ⟨hi, h1, h2, h3, h4, h5⟩ := h
  rw [h5, Int.pow_succ]; omega
theorem mulAt_out {a b0 out b bit : Int} {r : Nat} (h : MulAt a b0 r out b bit) : 0 ≤ out ∧ out < 18446744069414584321 := by
  obtain ⟨hi, h1, h2, h3, h4, h5⟩ := h
  rw [h4]; exact ⟨redS_lo _ _, redS_hi _ rfl⟩
theorem mulAt_b {a b0 out b bit : Int} {r : Nat} (h : MulAt a b0 r out b bit) : 0 ≤ b := by
  obtain ⟨hi, h1, h2, h3, h4, h5⟩ := h
  exact h2
theorem mulAt_lt {a b0 out b bit : Int} {r : Nat} (h : MulAt a b0 (r + 1) out b bit) : b < 2 * bit := by
  have e := mulAt_bit h
  obtain ⟨hi, h1, h2, h3, h4, h5⟩ := h
  rw [e]; rw [Int.pow_succ] at h3; omega
theorem mulAt_yes {a b0 out b bit : Int} {r : Nat} (h : MulAt a b0 (r + 1) out b bit) (hb : bit ≤ b) :
    MulAt a b0 r (redS 18446744069414584321 (redS 18446744069414584321 (out + out) + a)) (b - bit) (bit / 2) := by
  have e := mulAt_bit h
  obtain ⟨hi, h1, h2, h3, h4, h5⟩ := h
  subst e
  rw [Int.pow_succ] at h1 h3
  refine ⟨2 * hi + 1, ?_, by omega, by omega, ?_, rfl⟩
  · rw [Int.add_mul, h1, Int.one_mul, Int.mul_assoc 2 hi, Int.mul_comm 2, Int.mul_assoc]; omega
  · rw [redS_add_left, h4, Int.add_mul, Int.one_mul, ← redS_add_left, redS_add_left (18446744069414584321) (hi * a), redS_add_right]
    rw [redS_add_left, Int.mul_assoc 2 hi a, Int.two_mul]
theorem mulAt_no {a b0 out b bit : Int} {r : Nat} (h : MulAt a b0 (r + 1) out b bit) (hb : b < bit) :
    MulAt a b0 r (redS 18446744069414584321 (out + out)) b (bit / 2) := by
  have e := mulAt_bit h
  obtain ⟨hi, h1, h2, h3, h4, h5⟩ := h
  subst e
  rw [Int.pow_succ] at h1 h3
  refine ⟨2 * hi, ?_, by omega, by omega, ?_, rfl⟩
  · rw [h1, Int.mul_assoc 2 hi, Int.mul_comm 2, Int.mul_assoc]
  · rw [h4, redS_add_left, redS_add_right, Int.mul_assoc 2 hi a, Int.two_mul]
theorem bit_bd (r : Nat) (h : r < 64) : (2 : Int) ^ r < 18446744073709551616 ∧ (0 : Int) < 2 ^ r := by
  refine ⟨?_, Int.pow_pos (by omega)⟩
  have h1 : (2 : Nat) ^ r < 2 ^ 64 := Nat.pow_lt_pow_right (by omega) h
  have h2 : ((2 ^ r : Nat) : Int) < ((2 ^ 64 : Nat) : Int) := by exact_mod_cast h1
  simpa using h2
theorem r01_mul_P0 (a b : Int) (w : World) (ha : U64 a) (hb : U64 b) :
    Calls Tryd.prog 88 #[.int .u64 18446744069414584321, .int .u64 a, .int .u64 b] w fun e w' => e = .returned (.int .u64 (mulS 18446744069414584321 a b)) ∧ w' = w := by
  have HF : Hid (mulS 18446744069414584321 a b = redS 18446744069414584321 (a % 18446744069414584321 * (b % 18446744069414584321))) := Lib.hid (by
    unfold mulS
    rw [← redS_mul_left, ← redS_mul_right, show redS 18446744069414584321 a = a % 18446744069414584321 from redS_known rfl, show redS 18446744069414584321 b = b % 18446744069414584321 from redS_known rfl])
  obtain ⟨ha0, ha1⟩ := ha
  obtain ⟨hb0, hb1⟩ := hb
  have hm0 : 0 ≤ a % 18446744069414584321 := by omega
  have hm1 : a % 18446744069414584321 < 18446744069414584321 := by omega
  have HS : Hid (MulAt (a % 18446744069414584321) (b % 18446744069414584321) 64 0 (b % 18446744069414584321) 9223372036854775808) := Lib.hid (mulAt_start (by omega) (by omega))
  have HK : Hid (knownS 18446744069414584321 = true) := Lib.hid rfl
  go_enter Tryd.func88, Tryd.ntmps88
  go_wp2_with (go_at_call 107; refine (r01_known _ _).mono ?_; rintro e w' ⟨rfl, rfl⟩; rw [HK.out])
  go_loop [2, 7, 8, 25] (fun b' out bit i => ∃ (k : Nat) (B O T : Int), k ≤ 64 ∧ i = .int .i64 k ∧ b' = .int .u64 B ∧ out = .int .u64 O ∧ bit = .int .u64 T ∧ Hid (MulAt (a % 18446744069414584321) (b % 18446744069414584321) (64 - k) O B T)) (fun _ _ _ i => 64 - (intOf i).toNat)
  case atStart => exact ⟨0, _, _, _, by omega, rfl, rfl, rfl, rfl, HS⟩
  case round =>
    obtain ⟨k, B, O, T, hk, rfl, rfl, rfl, rfl, H⟩ := hrel
    by_cases hlt : k < 64
    · obtain ⟨r, hr⟩ : ∃ r, 64 - k = r + 1 := ⟨63 - k, by omega⟩
      have H1 : Hid (MulAt (a % 18446744069414584321) (b % 18446744069414584321) (r + 1) O B T) := Lib.hid (hr ▸ H.out)
      have ho := mulAt_out H1.out
      have hB := mulAt_b H1.out
      have hT := mulAt_bit H1.out
      have hB1 := mulAt_lt H1.out
      obtain ⟨t1, t0⟩ := bit_bd r (by omega)
      rw [← hT] at t1 t0
      have hr2 : 64 - (k + 1) = r := by omega
      have HR2 := Lib.hid hr2
      clear hT hr hr2 H
      obtain ⟨ho0, ho1⟩ := ho
      have hq0 := redS_lo 18446744069414584321 (O + O)
      have hq1 := redS_hi (O + O) HK.out
      by_cases hge : T ≤ B
      · have HY := Lib.hid (mulAt_yes H1.out hge)
        go_wp2_with (go_at_call 125; refine (r01_plus _ _ _ _ HK.out (by assumption) (by assumption) (by assumption) (by assumption)).mono ?_; rintro e w' ⟨rfl, rfl⟩)
        go_round
        case rel => exact ⟨k + 1, _, _, _, by omega, by go_num, rfl, rfl, rfl, Lib.hid (by rw [HR2.out]; exact HY.out)⟩
        case measure => simp [intOf]; omega
      · have HY := Lib.hid (mulAt_no H1.out (by omega))
        go_wp2_with (go_at_call 125; refine (r01_plus _ _ _ _ HK.out (by assumption) (by assumption) (by assumption) (by assumption)).mono ?_; rintro e w' ⟨rfl, rfl⟩)
        go_round
        case rel => exact ⟨k + 1, _, _, _, by omega, by go_num, rfl, rfl, rfl, Lib.hid (by rw [HR2.out]; exact HY.out)⟩
        case measure => simp [intOf]; omega
    · have hk64 : k = 64 := by omega
      subst hk64
      have HE := Lib.hid (mulAt_end H.out)
      go_wp2
      go_ret
      exact ⟨by rw [HF.out, ← HE.out]; rfl, rfl⟩
theorem r01_mul (p a b : Int) (w : World) (hp : U64 p) (ha : U64 a) (hb : U64 b) :
    Calls Tryd.prog 88 #[.int .u64 p, .int .u64 a, .int .u64 b] w fun e w' => e = .returned (.int .u64 (mulS p a b)) ∧ w' = w := by
  by_cases hk : knownS p = true
  · by_cases h0 : p = 18446744069414584321
    · subst h0; exact r01_mul_P0 a b w ha hb
    · have hlt : 1 < p ∧ p < 2147483648 := by rcases knownS_cases hk with h | h | h <;> omega
      have HF : Hid (mulS p a b = a % p * (b % p) % p) := Lib.hid (by unfold mulS; rw [redS_known hk, Int.mul_emod])
      have ha2 := Int.emod_nonneg a (b := p) (by omega)
      have ha3 := Int.emod_lt_of_pos a (b := p) (by omega)
      have hb2 := Int.emod_nonneg b (b := p) (by omega)
      have hb3 := Int.emod_lt_of_pos b (b := p) (by omega)
      have hm : 0 ≤ a % p * (b % p) := Int.mul_nonneg ha2 hb2
      have hm1 : a % p * (b % p) < 18446744073709551616 := by
        have h1 : a % p * (b % p) ≤ 2147483648 * 2147483648 := Int.mul_le_mul (by omega) (by omega) hb2 (by omega)
        omega
      obtain ⟨ha0, ha1⟩ := ha
      obtain ⟨hb0, hb1⟩ := hb
      obtain ⟨hl0, hl1⟩ := hlt
      have HK := Lib.hid hk
      have hz : (p == 0) = false := by simp; omega
      clear hp h0
      go_enter Tryd.func88, Tryd.ntmps88
      go_wp2_with (go_at_call 107; refine (r01_known _ _).mono ?_; rintro e w' ⟨rfl, rfl⟩)
      go_ret
      exact ⟨by rw [HF.out]; rfl, rfl⟩
  · have HR : Hid (mulS p a b = 0) := Lib.hid (redS_not hk)
    have hk' : knownS p = false := by simpa using hk
    clear hk
    go_enter Tryd.func88, Tryd.ntmps88
    go_wp2_with (go_at_call 107; refine (r01_known _ _).mono ?_; rintro e w' ⟨rfl, rfl⟩)
    go_ret
    exact ⟨by rw [HR.out]; rfl, rfl⟩
theorem r01_in_some (p : Int) (x : Addr) (c : Nat) (l : List Int) (w : World) (hr : Row w (some x) (nums .u64 l)) (hl : l.length ≤ 9223372036854775807) :
    Calls Tryd.prog 70 #[.int .u64 p, .slice (some x) l.length c] w fun e w' => e = .returned (.bool (inS p l)) ∧ w' = w := by
  have HR := Lib.hid hr
  clear hr
  go_enter Tryd.func70, Tryd.ntmps70
  go_wp2
  go_loop [6, 9] (fun a i => ∃ k : Nat, k ≤ l.length ∧ i = .int .i64 k ∧ Hid (∀ j, (hj : j < l.length) → j < k → l[j] < p)) (fun _ i => l.length - (intOf i).toNat)
  case atStart => exact ⟨0, Nat.zero_le _, rfl, Lib.hid fun _ _ h => absurd h (Nat.not_lt_zero _)⟩
  case round =>
    obtain ⟨k, hk, rfl, H⟩ := hrel
    by_cases hlt : k < l.length
    · have hc := HR.out.num hlt
      by_cases hge : p ≤ l[k]
      · have HF := Lib.hid (inS_false hlt hge)
        go_wp2
        go_ret
        exact ⟨by rw [HF.out]; rfl, rfl⟩
      · go_wp2
        go_round
        case rel => exact ⟨k + 1, by omega, by go_num, Lib.hid fun j hj hjk => by
          by_cases e : j = k
          · subst e; omega
          · exact H.out j hj (by omega)⟩
        case measure => simp [intOf]; omega
    · have HF := Lib.hid (inS_all (p := p) (l := l) fun j hj => H.out j hj (by omega))
      go_wp2_with (go_at_call 107; refine (r01_known _ _).mono ?_; rintro e w' ⟨rfl, rfl⟩)
      go_ret
      exact ⟨by rw [HF.out]; rfl, rfl⟩
theorem r01_in_nil (p : Int) (A : Option Addr) (c : Nat) (w : World) :
    Calls Tryd.prog 70 #[.int .u64 p, .slice A 0 c] w fun e w' => e = .returned (.bool (inS p [])) ∧ w' = w := by
  have HF : Hid (inS p [] = knownS p) := Lib.hid (inS_all fun j hj => absurd hj (Nat.not_lt_zero _))
  go_enter Tryd.func70, Tryd.ntmps70
  go_wp2
  refine wp_loop_once ?_
  go_wp2_with (go_at_call 107; refine (r01_known _ _).mono ?_; rintro e w' ⟨rfl, rfl⟩)
  go_ret
  exact ⟨by rw [HF.out]; rfl, rfl⟩
theorem r01_in (p : Int) (A : Option Addr) (c : Nat) (l : List Int) (w : World) (hr : Row w A (nums .u64 l)) (hl : l.length ≤ 9223372036854775807) :
    Calls Tryd.prog 70 #[.int .u64 p, .slice A l.length c] w fun e w' => e = .returned (.bool (inS p l)) ∧ w' = w := by
  cases l with
  | nil => exact r01_in_nil p A c w
  | cons a l =>
    obtain ⟨x, rfl⟩ := hr.some_of (by simp [nums])
    exact r01_in_some p x c _ w hr hl
end Go.Proofs.YtohcoidbncbijaaDoor.P
/- The contract of package power's Powers. Conditions: words of 64 bits. -/
namespace Go.Proofs.YtohcoidbncbijaaDoor.P
open Go.RowKit
set_option linter.unusedVariables false
set_option linter.unusedSimpArgs false
/-- A list that is being filled. -/
def fillL (f : Nat → Int) (n k : Nat) : List Int := (List.range n).map fun i => if i < k then f i else 0
theorem fillL_length (f : Nat → Int) (n k : Nat) : (fillL f n k).length = n := by simp [fillL]
theorem fillL_zero (f : Nat → Int) (n : Nat) : fillL f n 0 = List.replicate n 0 := by
  apply List.ext_getElem <;> simp [fillL]
theorem fillL_set (f : Nat → Int) (n k : Nat) (h : k < n) : (fillL f n k).set k (f k) = fillL f n (k + 1) := by
  apply List.ext_getElem
  · simp [fillL]
  · intro i h1 h2
    rw [List.getElem_set]
    simp only [fillL, List.getElem_map, List.getElem_range]
    split
    · rename_i e; subst e; rw [if_pos (by omega)]
    · rename_i e
      by_cases hik : i < k
      · rw [if_pos hik, if_pos (by omega)]
      · rw [if_neg hik, if_neg (by omega)]
theorem fillL_all (f : Nat → Int) (n : Nat) : fillL f n n = (List.range n).map f := by
  apply List.ext_getElem
  · simp [fillL]
  · intro i h1 h2
    simp only [fillL, List.getElem_map, List.getElem_range]
    rw [if_pos (by simpa [fillL] using h1)]
/-- What Powers tells: the list, and the error's number. -/
def powersS (p a many : Int) : List Int × Int :=
  if knownS p then (if 0 ≤ many ∧ many ≤ 65536 then ((List.range many.toNat).map (powS p a), 0) else ([], 1)) else ([], 2)
theorem info_u64 : (Tryd.prog.info? 22).map (fun i => (i.zero, i.size, i.bytes)) = some (some (.int .u64 0), 1, 8) := by kernel_rfl
theorem info_int : (Tryd.prog.info? 3).map (fun i => (i.zero, i.size, i.bytes)) = some (some (.int .i64 0), 1, 8) := by kernel_rfl
theorem make_u64 (n : Nat) (hn : n ≤ 35184372088832) (w : World) : (Instr.makeSlice 41 (.int .i64 (n : Int)) (.int .i64 (n : Int))).run Tryd.prog w =
    .ok (.slice (some ⟨w.heap.size, 0, none⟩) n n) (w.alloc (.cells (madeCells #[.int .u64 0] n) 22)) := by
  obtain ⟨i0, hi, hz⟩ := Option.map_eq_some_iff.1 info_u64
  simp only [Prod.mk.injEq] at hz
  obtain ⟨h0, h1, h2⟩ := hz
  rw [run_make w 41 22 i0 (.int .u64 0) Tryd.underlying41 hi h0 .i64 .i64 n n (by omega) (by omega) (by rw [h2]; omega) (by omega), h1]
  simp [Value.cells]
theorem powers_calls (p a many : Int) (w : World) (hp : U64 p) (ha : U64 a) (hm : i64 many) :
    Calls Tryd.prog 73 #[.int .u64 p, .int .u64 a, .int .i64 many] w fun e w' => ∃ A c,
      e = .returned (.tuple #[.slice A (powersS p a many).1.length c, .int .i64 (powersS p a many).2]) ∧ Own w' w.heap.size 22 1 A (powersS p a many).1.length c (nums .u64 (powersS p a many).1) ∧ Below w.heap.size w w' := by
  have HA := Lib.hid ha
  have HP := Lib.hid hp
  clear ha hp
  obtain ⟨m0, m1⟩ := hm
  by_cases hk : knownS p = true
  · by_cases hr : 0 ≤ many ∧ many ≤ 65536
    · obtain ⟨r0, r1⟩ := hr
      obtain ⟨n, rfl⟩ := Int.eq_ofNat_of_zero_le r0
      have HF : Hid (powersS p a n = ((List.range n).map (powS p a), 0)) := Lib.hid (by rw [powersS, if_pos hk, if_pos ⟨r0, r1⟩, Int.toNat_natCast])
      have HL : Hid (((List.range n).map (powS p a)).length = n) := Lib.hid (by simp)
      have H1 : Hid (powS p a 0 = 1) := Lib.hid (by rw [powS_zero, one_red hk])
      have hmk := make_u64 n (by omega)
      rw [HF.out, show (((List.range n).map (powS p a), (0 : Int)).1) = (List.range n).map (powS p a) from rfl, show (((List.range n).map (powS p a), (0 : Int)).2) = 0 from rfl, HL.out]
      clear m0 m1
      have hlt0 : decide ((n : Int) < 0) = false := by simp
      have hlt1 : decide (65536 < (n : Int)) = false := by simp; omega
      go_enter Tryd.func73, Tryd.ntmps73
      go_wp2_with (go_at_call 58; refine (known_calls _ _).mono ?_; rintro e w' ⟨rfl, rfl⟩)
      have hown := own_made w' w'.heap.size 22 (.int .u64 0) n (Nat.le_refl _) (by omega)
      have hbel : Below w'.heap.size w' (w'.alloc (.cells (madeCells #[.int .u64 0] n) 22)) := (Below.refl _ _).alloc (Nat.le_refl _) _
      rw [nums_replicate, ← fillL_zero (powS p a)] at hown
      generalize (w'.alloc (.cells (madeCells #[.int .u64 0] n) 22)) = W at *
      have HO := Lib.hid hown
      have HB := Lib.hid hbel
      clear hown hbel hmk
      go_loopw [9, 10, 26] (fun x _ i wr => ∃ k : Nat, k ≤ n ∧ i = .int .i64 k ∧ x = .int .u64 (powS p a k) ∧ Hid (Own wr w'.heap.size 22 1 (some ⟨w'.heap.size, 0, none⟩) n n (nums .u64 (fillL (powS p a) n k))) ∧ Hid (Below w'.heap.size w' wr)) (fun _ _ i _ => n - (intOf i).toNat)
      case atStart => exact ⟨0, Nat.zero_le _, rfl, by rw [H1.out], HO, HB⟩
      case round =>
        obtain ⟨k, hkn, rfl, rfl, HO2, HB2⟩ := hrel
        by_cases hlt : k < n
        · have hc : wr.cell? ⟨w'.heap.size, k, none⟩ = some (.int .u64 ((fillL (powS p a) n k)[k]'(by rw [fillL_length]; exact hlt))) := by
            rw [HO2.out.cellAt k hlt]; exact nums_get .u64 _ k (by rw [fillL_length]; exact hlt)
          have hf : wr.frozen? ⟨w'.heap.size, k, none⟩ = false := HO2.out.frozenAt k
          go_wp2_with (go_at_call 41; refine (mul_calls _ _ _ _ HP.out (u64_powS _ _ _) HA.out).mono ?_; rintro e w2 ⟨rfl, ⟨n2, rfl⟩⟩)
          go_roundw
          case rel => exact ⟨k + 1, by omega, by go_num, by rw [powS_succ], by
            have h1 := HO2.out.stored k (.int .u64 (powS p a k))
            rw [nums_set, fillL_set _ _ _ hlt] at h1
            exact h1.drewN n2, below_drewN (HB2.out.setCell (Nat.le_refl _) _) n2⟩
          case measure => simp [intOf]; omega
        · have hkn2 : k = n := by omega
          subst hkn2
          have HZ : Hid (fillL (powS p a) k k = (List.range k).map (powS p a)) := Lib.hid (fillL_all _ _)
          go_wp2
          go_ret2
          exact ⟨_, _, rfl, by rw [← HZ.out]; exact HO2.out, HB2.out⟩
    · have HF : Hid (powersS p a many = ([], 1)) := Lib.hid (by rw [powersS, if_pos hk, if_neg hr])
      rw [HF.out]
      by_cases h0 : many < 0
      · have hlt0 : decide (many < 0) = true := by simpa using h0
        go_enter Tryd.func73, Tryd.ntmps73
        go_wp2_with (go_at_call 58; refine (known_calls _ _).mono ?_; rintro e w' ⟨rfl, rfl⟩)
        go_ret2
        exact ⟨none, 0, rfl, Own.nil _ _ _ _, Below.refl _ _⟩
      · have hlt0 : decide (many < 0) = false := by simpa using h0
        have hlt1 : decide (65536 < many) = true := by simp; omega
        go_enter Tryd.func73, Tryd.ntmps73
        go_wp2_with (go_at_call 58; refine (known_calls _ _).mono ?_; rintro e w' ⟨rfl, rfl⟩)
        go_ret2
        exact ⟨none, 0, rfl, Own.nil _ _ _ _, Below.refl _ _⟩
  · have HF : Hid (powersS p a many = ([], 2)) := Lib.hid (by rw [powersS, if_neg hk])
    have hk2 : knownS p = false := by simpa using hk
    clear hk
    rw [HF.out]
    go_enter Tryd.func73, Tryd.ntmps73
    go_wp2_with (go_at_call 58; refine (known_calls _ _).mono ?_; rintro e w' ⟨rfl, rfl⟩)
    go_ret2
    exact ⟨none, 0, rfl, Own.nil _ _ _ _, Below.refl _ _⟩
end Go.Proofs.YtohcoidbncbijaaDoor.P
/- append onto a slice that the call owns, in this workplace's own words. Conditions: those of each lemma. -/
namespace Go.Proofs.YtohcoidbncbijaaDoor.P
open Go.RowKit
set_option linter.unusedVariables false
theorem append_row {P : Program} {ops : Array Oper} {rest : List Oper} {o : Oper} {a : Act} {Q : Exit → Act → World → Prop} (w : World) {T E : TypeId} {k : IntKind} {by' : Nat}
    (hT : P.underlying T = some (.slice E)) (hI : (P.info? E).map (fun i => (i.zero, i.size, i.bytes)) = some (some (.int k 0), 1, by')) (hgd : o.guard = none) (s x : Operand)
    (ho : o.op = .call { callee := .builtin .append, args := #[s, x], argTypes := #[T, T] }) (B n c m c2 : Nat) (A : Option Addr) (y : Addr) (xs us : List Int)
    (hs : a.eval s = .slice A n c) (hx : a.eval x = .slice (some y) m c2) (hown : Own w B E 1 A n c (nums k xs)) (hy : Row w (some y) (nums k us)) (hus : us.length = m) (hm : 0 < m) (hB : B ≤ w.heap.size)
    (h63 : n + m ≤ 9223372036854775807) (hbytes : (n + m) * by' ≤ 140737488355328)
    (h : ∀ g cap w', Own w' B E 1 (some ⟨g, 0, none⟩) (n + m) cap (nums k (xs ++ us)) → Below B w w' → w.grownBy w' (Value.slice A n c).ownBlock → g < w'.heap.size → wpList P ops Q rest (a.put o.dst (.slice (some ⟨g, 0, none⟩) (n + m) cap)) w') :
    wpList P ops Q (o :: rest) a w := by
  obtain ⟨i0, hi, hz0, hz1, hz2⟩ := info_parts hI
  refine wpList_append_lies w hgd s x T ho B E i0 (.int k 0) 1 by' hT hi hz0 hz1 hz2 rfl (by decide) _ n _ hs hown y m c2 (nums k us) hx (by rw [nums_length, hus, Nat.mul_one]) ?_ ?_ hm (by unfold maxLen; omega) hbytes hB _ rfl ?_
  · intro j u hj
    exact hy.cell hj
  · intro u hu
    simp only [nums, List.mem_map] at hu
    obtain ⟨z, _, rfl⟩ := hu
    rfl
  · intro g cap w' h1 h2 h3 h4
    refine h g cap w' ?_ ?_ h2 h4
    · rw [show nums k (xs ++ us) = nums k xs ++ nums k us from by simp [nums]]; exact h1
    · refine ⟨h2.os, h2.tape, h2.output, h2.size, fun b hb => h2.block b (Nat.lt_of_lt_of_le hb hB) ?_⟩
      intro e
      rcases hown.2 with ⟨hv, _⟩ | ⟨g2, cap2, cur, hv, hg, _⟩
      · rw [hv] at e; simp [Value.ownBlock] at e
      · rw [hv] at e
        simp [Value.ownBlock] at e
        omega
end Go.Proofs.YtohcoidbncbijaaDoor.P
/- append of nothing, and of whatever there is, onto a slice that the call owns. Conditions: those of each lemma. -/
namespace Go.Proofs.YtohcoidbncbijaaDoor.P
open Go.RowKit
set_option linter.unusedVariables false
set_option linter.unusedSimpArgs false
theorem append_zero {P : Program} {ops : Array Oper} {rest : List Oper} {o : Oper} {a : Act} {Q : Exit → Act → World → Prop} (w : World) {T E : TypeId} {k : IntKind} {by' : Nat}
    (hT : P.underlying T = some (.slice E)) (hI : (P.info? E).map (fun i => (i.zero, i.size, i.bytes)) = some (some (.int k 0), 1, by')) (hgd : o.guard = none) (s x : Operand)
    (ho : o.op = .call { callee := .builtin .append, args := #[s, x], argTypes := #[T, T] }) (n c c2 : Nat) (A Y : Option Addr)
    (hs : a.eval s = .slice A n c) (hx : a.eval x = .slice Y 0 c2) (hnc : n ≤ c)
    (h : wpList P ops Q rest (a.put o.dst (.slice A n c)) w) :
    wpList P ops Q (o :: rest) a w := by
  obtain ⟨i0, hi, hz0, hz1, hz2⟩ := info_parts hI
  refine wpList_plain hgd fun K hK => ?_
  have hrun : (Builtin.append_ #[T, T] o.type #[.slice A n c, .slice Y 0 c2]).run P w = .ok (.slice A n c) w := by
    cases Y <;> cases A <;> simp [Builtin.append_, run_underlying hT, sizeOf, typeInfo, hi, Builtin.lenOf, Builtin.firstCells, loadCells, loadCellsFrom, hnc, storeCells]
  unfold Oper.wp
  simp [execOp, ho, resolve, invoke, builtin, hs, hx, hrun, Result.andThen]
  exact hK _ _ h
theorem append_any {P : Program} {ops : Array Oper} {rest : List Oper} {o : Oper} {a : Act} {Q : Exit → Act → World → Prop} (w : World) {T E : TypeId} {k : IntKind} {by' : Nat}
    (hT : P.underlying T = some (.slice E)) (hI : (P.info? E).map (fun i => (i.zero, i.size, i.bytes)) = some (some (.int k 0), 1, by')) (hgd : o.guard = none) (s x : Operand)
    (ho : o.op = .call { callee := .builtin .append, args := #[s, x], argTypes := #[T, T] }) (B n c m c2 : Nat) (A Y : Option Addr) (xs us : List Int)
    (hs : a.eval s = .slice A n c) (hx : a.eval x = .slice Y m c2) (hown : Own w B E 1 A n c (nums k xs)) (hy : Row w Y (nums k us)) (hus : us.length = m) (hB : B ≤ w.heap.size)
    (h63 : n + m ≤ 9223372036854775807) (hbytes : (n + m) * by' ≤ 140737488355328)
    (h : ∀ A' cap w', Own w' B E 1 A' (n + m) cap (nums k (xs ++ us)) → Below B w w' → w.grownBy w' (Value.slice A n c).ownBlock → wpList P ops Q rest (a.put o.dst (.slice A' (n + m) cap)) w') :
    wpList P ops Q (o :: rest) a w := by
  rcases Nat.eq_zero_or_pos m with h0 | h0
  · subst h0
    have hu : us = [] := List.length_eq_zero_iff.1 hus
    subst hu
    refine append_zero w hT hI hgd s x ho n c c2 A Y hs hx hown.cap.1 ?_
    refine h A c w (by simpa using hown) (Below.refl _ _) ⟨rfl, rfl, rfl, Nat.le_refl _, fun _ _ _ => rfl⟩
  · obtain ⟨y, rfl⟩ := hy.some_of (by intro h1; have := nums_length k us; rw [h1] at this; simp at this; omega)
    exact append_row w hT hI hgd s x ho B n c m c2 A y xs us hs hx hown hy hus h0 hB h63 hbytes fun g cap w' h1 h2 h3 _ => h _ cap w' h1 h2 h3
/-- .. at a step of a region that draws its order. -/
theorem step_append_row {P : Program} {ops : Array Oper} {o : Oper} {a : Act} {K : Act → World → Prop} {Q : Exit → Act → World → Prop} {E' : Prop} (w : World) {T E : TypeId} {k : IntKind} {by' : Nat}
    (hT : P.underlying T = some (.slice E)) (hI : (P.info? E).map (fun i => (i.zero, i.size, i.bytes)) = some (some (.int k 0), 1, by')) (hgd : o.guard = none) (s x : Operand)
    (ho : o.op = .call { callee := .builtin .append, args := #[s, x], argTypes := #[T, T] }) (B n c m c2 : Nat) (A : Option Addr) (y : Addr) (xs us : List Int)
    (hs : a.eval s = .slice A n c) (hx : a.eval x = .slice (some y) m c2) (hown : Own w B E 1 A n c (nums k xs)) (hy : Row w (some y) (nums k us)) (hus : us.length = m) (hm : 0 < m) (hB : B ≤ w.heap.size)
    (h63 : n + m ≤ 9223372036854775807) (hbytes : (n + m) * by' ≤ 140737488355328)
    (h : ∀ g cap w', Own w' B E 1 (some ⟨g, 0, none⟩) (n + m) cap (nums k (xs ++ us)) → Below B w w' → w.grownBy w' (Value.slice A n c).ownBlock → g < w'.heap.size → K (a.put o.dst (.slice (some ⟨g, 0, none⟩) (n + m) cap)) w') :
    if Region.wanted o (yielded ops a.tmps) = true then Oper.wp P o a w K Q else E' := by
  obtain ⟨i0, hi, hz0, hz1, hz2⟩ := info_parts hI
  refine step_append_lies w hgd s x T ho B E i0 (.int k 0) 1 by' hT hi hz0 hz1 hz2 rfl (by decide) _ n _ hs hown y m c2 (nums k us) hx (by rw [nums_length, hus, Nat.mul_one]) ?_ ?_ hm (by unfold maxLen; omega) hbytes hB _ rfl ?_
  · intro j u hj
    exact hy.cell hj
  · intro u hu
    simp only [nums, List.mem_map] at hu
    obtain ⟨z, _, rfl⟩ := hu
    rfl
  · intro g cap w' h1 h2 h3 h4
    refine h g cap w' ?_ ?_ h2 h4
    · rw [show nums k (xs ++ us) = nums k xs ++ nums k us from by simp [nums]]; exact h1
    · refine ⟨h2.os, h2.tape, h2.output, h2.size, fun b hb => h2.block b (Nat.lt_of_lt_of_le hb hB) ?_⟩
      intro e
      rcases hown.2 with ⟨hv, _⟩ | ⟨g2, cap2, cur, hv, hg, _⟩
      · rw [hv] at e; simp [Value.ownBlock] at e
      · rw [hv] at e
        simp [Value.ownBlock] at e
        omega
end Go.Proofs.YtohcoidbncbijaaDoor.P
/- The contract of brackenref02's Powers. Conditions: words of their kinds. -/
namespace Go.Proofs.YtohcoidbncbijaaDoor.P
open Go.RowKit
set_option linter.unusedVariables false
set_option linter.unusedSimpArgs false
/-- What All tells. -/
def undoS (p : Int) (l : List Int) : List Int × Int :=
  if knownS p then (if l.length ≤ 65536 then (if ∀ a ∈ l, redS p a ≠ 0 then (l.map fun a => powS p a (p - 2).toNat, 0) else ([], 9)) else ([], 1)) else ([], 2)
end Go.Proofs.YtohcoidbncbijaaDoor.P
/- The contracts of brackenref02's Pow and Inv, and brackenref03's functions: they come to what the program's come to. Conditions: words of their kinds. -/
namespace Go.Proofs.YtohcoidbncbijaaDoor.P
open Go.RowKit
set_option linter.unusedVariables false
set_option linter.unusedSimpArgs false
theorem r02_pow (p a : Int) (hp : U64 p) (ha : U64 a) : ∀ (n : Nat) (w : World), n < 18446744073709551616 →
    Calls Tryd.prog 86 #[.int .u64 p, .int .u64 a, .int .u64 n] w fun e w' => e = .returned (.int .u64 (powS p a n)) ∧ Drawn0 w w' := by
  have HP := Lib.hid hp
  have HA := Lib.hid ha
  clear hp ha
  intro n
  induction n using Nat.strongRecOn with
  | ind n ih =>
    intro w hn
    by_cases h0 : n = 0
    · subst h0
      have HF : Hid (powS p a 0 = redS p 1) := Lib.hid (powS_zero _ _)
      clear ih
      rw [show ((0 : Nat) : Int) = 0 from rfl]
      go_enter Tryd.func86, Tryd.ntmps86
      go_wp2_with fail
      refine (r01_reduce _ _ _ HP.out (by decide)).mono ?_
      rintro e w' ⟨rfl, rfl⟩
      go_wp2_with fail
      go_ret
      exact ⟨by rw [HF.out]; rfl, ⟨0, rfl⟩⟩
    · have HW : Hid (IntKind.u64.wrap ((n : Int) / 2) = ((n / 2 : Nat) : Int)) := Lib.hid (by rw [wrap_u64]; omega)
      have ih2 := Lib.hid (fun w => ih (n / 2) (by omega) w (by omega))
      have f0 : ((n : Int) == 0) = false := by simpa using h0
      clear ih hn
      by_cases h1 : n % 2 = 1
      · have F1 : Hid (((n : Int) % 2 == 1) = true) := Lib.hid (by rw [beq_iff_eq]; omega)
        have HF : Hid (mulS p (mulS p (powS p a (n / 2)) (powS p a (n / 2))) a = powS p a n) := Lib.hid (by
          rw [powS_double, powS_succ]; congr 1; omega)
        clear h1
        go_enter Tryd.func86, Tryd.ntmps86
        go_wp2_with fail
        rw [HW.out]
        refine (ih2.out _).mono ?_
        rintro e w2 ⟨rfl, ⟨q, rfl⟩⟩
        go_wp2_with fail
        refine (r01_mul _ _ _ _ HP.out (u64_powS _ _ _) (u64_powS _ _ _)).mono ?_
        rintro e w2 ⟨rfl, rfl⟩
        have f1 := F1.out
        go_wp2_with fail
        refine (r01_mul _ _ _ _ HP.out (u64_mulS _ _ _) HA.out).mono ?_
        rintro e w2 ⟨rfl, rfl⟩
        rw [HF.out]
        go_wp2_with fail
        go_ret
        exact ⟨rfl, ⟨_, rfl⟩⟩
      · have F1 : Hid (((n : Int) % 2 == 1) = false) := Lib.hid (by rw [beq_eq_false_iff_ne]; omega)
        have HF : Hid (mulS p (powS p a (n / 2)) (powS p a (n / 2)) = powS p a n) := Lib.hid (by
          rw [powS_double]; congr 1; omega)
        clear h1
        go_enter Tryd.func86, Tryd.ntmps86
        go_wp2_with fail
        rw [HW.out]
        refine (ih2.out _).mono ?_
        rintro e w2 ⟨rfl, ⟨q, rfl⟩⟩
        go_wp2_with fail
        refine (r01_mul _ _ _ _ HP.out (u64_powS _ _ _) (u64_powS _ _ _)).mono ?_
        rintro e w2 ⟨rfl, rfl⟩
        rw [HF.out]
        have f1 := F1.out
        go_wp2_with fail
        go_ret
        exact ⟨rfl, ⟨_, rfl⟩⟩
theorem r02_inv (p a : Int) (w : World) (hp : U64 p) (ha : U64 a) :
    Calls Tryd.prog 87 #[.int .u64 p, .int .u64 a] w fun e w' => e = .returned (.tuple #[.int .u64 (invS p a).1, .int .i64 (invS p a).2]) ∧ Drawn0 w w' := by
  have HA := Lib.hid ha
  have HP := Lib.hid hp
  clear ha hp
  by_cases hk : knownS p = true
  · by_cases hz : redS p a = 0
    · have HF : Hid (invS p a = (0, 9)) := Lib.hid (by rw [invS, if_pos hk, if_pos hz])
      have hz2 : (redS p a == 0) = true := by simpa using hz
      clear hz
      go_enter Tryd.func87, Tryd.ntmps87
      go_wp2_with (first
        | (go_at_call 107; refine (r01_known _ _).mono ?_; rintro e w' ⟨rfl, rfl⟩)
        | (go_at_call 124; refine (r01_reduce _ _ _ HP.out HA.out).mono ?_; rintro e w' ⟨rfl, rfl⟩))
      go_ret2
      exact ⟨by rw [HF.out]; rfl, ⟨0, rfl⟩⟩
    · have HF : Hid (invS p a = (powS p a (p - 2).toNat, 0)) := Lib.hid (by rw [invS, if_pos hk, if_neg hz])
      have hz2 : (redS p a == 0) = false := by simpa using hz
      have hb : 2 ≤ p := by have := (known_pos hk).1; omega
      have hb2 : p < 18446744073709551616 := (known_pos hk).2
      obtain ⟨M, hM⟩ := Int.eq_ofNat_of_zero_le (show 0 ≤ p - 2 by omega)
      have HN : Hid (M < 18446744073709551616) := Lib.hid (by omega)
      rw [hM, Int.toNat_natCast] at HF
      have HM := Lib.hid hM
      clear hM
      clear hz
      go_enter Tryd.func87, Tryd.ntmps87
      go_wp2_with (first
        | (go_at_call 107; refine (r01_known _ _).mono ?_; rintro e w' ⟨rfl, rfl⟩)
        | (go_at_call 124; refine (r01_reduce _ _ _ HP.out HA.out).mono ?_; rintro e w' ⟨rfl, rfl⟩)
        | (go_at_call 86; try rw [HM.out]
           refine (r02_pow _ _ HP.out HA.out M _ HN.out).mono ?_; rintro e w' ⟨rfl, ⟨n, rfl⟩⟩))
      go_ret2
      exact ⟨by rw [HF.out]; rfl, ⟨_, rfl⟩⟩
  · have HF : Hid (invS p a = (0, 2)) := Lib.hid (by rw [invS, if_neg hk])
    have hk2 : knownS p = false := by simpa using hk
    clear hk
    go_enter Tryd.func87, Tryd.ntmps87
    go_wp2_with (go_at_call 107; refine (r01_known _ _).mono ?_; rintro e w' ⟨rfl, rfl⟩)
    go_ret2
    exact ⟨by rw [HF.out]; rfl, ⟨0, rfl⟩⟩
theorem r03_gen (p : Int) (w : World) :
    Calls Tryd.prog 123 #[.int .u64 p] w fun e w' => e = .returned (.int .u64 (genS p)) ∧ w' = w := by
  by_cases h0 : p = 18446744069414584321
  · subst h0
    have HF : Hid (genS 18446744069414584321 = 7) := Lib.hid rfl
    go_enter Tryd.func123, Tryd.ntmps123
    go_wp2
    go_ret
    exact ⟨by rw [HF.out]; rfl, rfl⟩
  · have f0 : (p == 18446744069414584321) = false := by simpa using h0
    by_cases h1 : p = 998244353
    · have HF : Hid (genS p = 3) := Lib.hid (by rw [genS, if_neg h0, if_pos h1])
      have f1 : (p == 998244353) = true := by simpa using h1
      clear h0 h1
      go_enter Tryd.func123, Tryd.ntmps123
      go_wp2
      go_ret
      exact ⟨by rw [HF.out]; rfl, rfl⟩
    · have f1 : (p == 998244353) = false := by simpa using h1
      by_cases h2 : p = 2013265921
      · have HF : Hid (genS p = 31) := Lib.hid (by rw [genS, if_neg h0, if_neg h1, if_pos h2])
        have f2 : (p == 2013265921) = true := by simpa using h2
        clear h0 h1 h2
        go_enter Tryd.func123, Tryd.ntmps123
        go_wp2
        go_ret
        exact ⟨by rw [HF.out]; rfl, rfl⟩
      · have HF : Hid (genS p = 0) := Lib.hid (by rw [genS, if_neg h0, if_neg h1, if_neg h2])
        have f2 : (p == 2013265921) = false := by simpa using h2
        clear h0 h1 h2
        go_enter Tryd.func123, Tryd.ntmps123
        go_wp2
        go_ret
        exact ⟨by rw [HF.out]; rfl, rfl⟩
theorem r03_may (p n : Int) (w : World) :
    Calls Tryd.prog 122 #[.int .u64 p, .int .i64 n] w fun e w' => e = .returned (.int .i64 (readyS p n)) ∧ w' = w := by
  by_cases hk : knownS p = true
  · by_cases h0 : n < 1
    · have HF : Hid (readyS p n = 1) := Lib.hid (by rw [readyS, if_pos hk, if_neg (by omega)])
      have f0 : decide (n < 1) = true := by simpa using h0
      go_enter Tryd.func122, Tryd.ntmps122
      go_wp2_with (go_at_call 107; refine (r01_known _ _).mono ?_; rintro e w' ⟨rfl, rfl⟩)
      go_ret
      exact ⟨by rw [HF.out]; rfl, rfl⟩
    · have f0 : decide (n < 1) = false := by simpa using h0
      by_cases h1 : 8192 < n
      · have HF : Hid (readyS p n = 1) := Lib.hid (by rw [readyS, if_pos hk, if_neg (by omega)])
        have f1 : decide (8192 < n) = true := by simpa using h1
        go_enter Tryd.func122, Tryd.ntmps122
        go_wp2_with (go_at_call 107; refine (r01_known _ _).mono ?_; rintro e w' ⟨rfl, rfl⟩)
        go_ret
        exact ⟨by rw [HF.out]; rfl, rfl⟩
      · have HF : Hid (readyS p n = 0) := Lib.hid (by rw [readyS, if_pos hk, if_pos (by omega)])
        have f1 : decide (8192 < n) = false := by simpa using h1
        go_enter Tryd.func122, Tryd.ntmps122
        go_wp2_with (go_at_call 107; refine (r01_known _ _).mono ?_; rintro e w' ⟨rfl, rfl⟩)
        go_ret
        exact ⟨by rw [HF.out]; rfl, rfl⟩
  · have HF : Hid (readyS p n = 2) := Lib.hid (by rw [readyS, if_neg hk])
    have hk2 : knownS p = false := by simpa using hk
    clear hk
    go_enter Tryd.func122, Tryd.ntmps122
    go_wp2_with (go_at_call 107; refine (r01_known _ _).mono ?_; rintro e w' ⟨rfl, rfl⟩)
    go_ret
    exact ⟨by rw [HF.out]; rfl, rfl⟩
end Go.Proofs.YtohcoidbncbijaaDoor.P
/- The contracts of brackenref03's Root, Order and Back. Conditions: words of their kinds. -/
namespace Go.Proofs.YtohcoidbncbijaaDoor.P
open Go.RowKit
set_option linter.unusedVariables false
set_option linter.unusedSimpArgs false
theorem r03_root (p n : Int) (w : World) (hp : U64 p) :
    Calls Tryd.prog 85 #[.int .u64 p, .int .i64 n] w fun e w' => e = .returned (.tuple #[.int .u64 (rootS p n).1, .int .i64 (rootS p n).2]) ∧ Below w.heap.size w w' := by
  have HP := Lib.hid hp
  by_cases hr : readyS p n = 0
  · obtain ⟨hk, n0, n1⟩ := ready_ok hr
    obtain ⟨p0, p1⟩ := known_pos hk
    have HR := Lib.hid hr
    clear hr hk hp
    by_cases hz : (p - 1) % n = 0
    · have f0 : ((p - 1) % n != 0) = false := by rw [hz]; rfl
      have hq0 : 0 ≤ (p - 1) / n := Int.ediv_nonneg (by omega) (by omega)
      have hq1 : (p - 1) / n ≤ p - 1 := Int.ediv_le_self _ (by omega)
      obtain ⟨M, hM⟩ := Int.eq_ofNat_of_zero_le hq0
      have HN : Hid (M < 18446744073709551616) := Lib.hid (by omega)
      have HF : Hid (rootS p n = (powS p (genS p) M, 0)) := Lib.hid (by rw [rootS, if_pos HR.out, if_pos hz, hM, Int.toNat_natCast])
      have HU : Hid (U64 ((p - 1) / n)) := Lib.hid ⟨hq0, by omega⟩
      have HGU : Hid (U64 (genS p)) := Lib.hid (u64_genS p)
      clear hz
      go_enter Tryd.func85, Tryd.ntmps85
      go_wp2_with (go_at_call 122; refine (r03_may _ _ _).mono ?_; rw [HR.out]; rintro e w' ⟨rfl, rfl⟩)
      have hz0 : ¬ n = 0 := by omega
      have hw1 : IntKind.u64.wrap (p - 1) = p - 1 := by rw [wrap_u64]; omega
      have hw2 : IntKind.u64.wrap n = n := by rw [wrap_u64]; omega
      have hw3 : (p - 1).tdiv n = (p - 1) / n := Int.tdiv_eq_ediv_of_nonneg (by omega)
      have hw4 : IntKind.u64.wrap ((p - 1) / n) = (p - 1) / n := by rw [wrap_u64]; omega
      rw [hM] at hw3 hw4
      clear hM
      refine wp_region_below (by kernel_rfl) (by kernel_rfl) ?_
      repeat (first
        | (refine wpQuiet_step (fun K hK => ?_); go_simp; refine ⟨_, fun _ _ => rfl, hK _ ?_⟩; clear hK K)
        | (refine wpQuiet_step (fun K hK => ?_); go_simp; apply Exists.intro; refine ⟨fun W hW => ?qc, hK _ ?_⟩
           (case qc => first
            | (go_at_call 123; exact qb_same (r03_gen _ _) hW)
            | (go_at_call 86; exact qb_drawn (r02_pow _ _ HP.out HGU.out M _ HN.out) hW))
           clear hK K))
      refine wpQuiet_nil ?_
      intro w2 hw2
      go_wp2
      go_ret2
      exact ⟨by rw [HF.out]; rfl, hw2⟩
    · have f0 : ((p - 1) % n != 0) = true := by simpa using hz
      have HF : Hid (rootS p n = (0, 5)) := Lib.hid (by rw [rootS, if_pos HR.out, if_neg hz])
      clear hz
      go_enter Tryd.func85, Tryd.ntmps85
      go_wp2_with (go_at_call 122; refine (r03_may _ _ _).mono ?_; rw [HR.out]; rintro e w' ⟨rfl, rfl⟩)
      go_ret2
      exact ⟨by rw [HF.out]; rfl, Below.refl _ _⟩
  · have HF : Hid (rootS p n = (0, readyS p n)) := Lib.hid (by rw [rootS, if_neg hr])
    have f0 : (readyS p n != 0) = true := by simpa using hr
    clear hr
    go_enter Tryd.func85, Tryd.ntmps85
    go_wp2_with (go_at_call 122; refine (r03_may _ _ _).mono ?_; rintro e w' ⟨rfl, rfl⟩)
    go_ret2
    exact ⟨by rw [HF.out]; rfl, Below.refl _ _⟩
end Go.Proofs.YtohcoidbncbijaaDoor.P
/- The laws PowerSums and PowerBack, walked. Conditions: words of their kinds. -/
namespace Go.Proofs.YtohcoidbncbijaaDoor.P
open Go.RowKit
set_option linter.unusedVariables false
set_option linter.unusedSimpArgs false
theorem inv_mul {p a : Int} (hk : knownS p = true) (ha : redS p a ≠ 0) : mulS p (powS p a (p - 2).toNat) a = 1 := by
  have h1 := (known_pos hk).1
  rw [powS_succ, show (p - 2).toNat + 1 = (p - 1).toNat from by omega]
  exact redS_fermat hk ha
theorem inv_ne {p a : Int} (hk : knownS p = true) (ha : redS p a ≠ 0) : redS p (powS p a (p - 2).toNat) ≠ 0 := by
  intro h
  have h1 := inv_mul hk ha
  unfold mulS at h1
  rw [← redS_mul_left, h, Int.zero_mul, redS_zero] at h1
  omega
theorem inv_inv {p a : Int} (hk : knownS p = true) (ha : redS p a ≠ 0) : powS p (powS p a (p - 2).toNat) (p - 2).toNat = redS p a := by
  have h1 := inv_mul hk ha
  have h2 := inv_mul hk (inv_ne hk ha)
  have h3 : redS p (powS p a (p - 2).toNat * powS p (powS p a (p - 2).toNat) (p - 2).toNat) = redS p (powS p a (p - 2).toNat * a) := by
    rw [Int.mul_comm]; exact h2.trans h1.symm
  have h4 := redS_cancel hk (inv_ne hk ha) h3
  rw [← h4]
  exact (redS_redS _ _).symm

end Go.Proofs.YtohcoidbncbijaaDoor.P
/- Roots, plainly: what the root of an order is. Under no condition beside those of each lemma. -/
namespace Go.Proofs.YtohcoidbncbijaaDoor.P
set_option linter.unusedVariables false
theorem known_gen2 {p : Int} (hk : knownS p = true) : ∃ P g n : Nat, p = (P : Int) ∧ genS p = (g : Int) ∧ P = n + 1 ∧ Gen P g n := by
  rcases knownS_cases hk with rfl | rfl | rfl
  · exact ⟨18446744069414584321, 7, 18446744069414584320, rfl, rfl, rfl, gen_P0⟩
  · exact ⟨998244353, 3, 998244352, rfl, rfl, rfl, gen_P1⟩
  · exact ⟨2013265921, 31, 2013265920, rfl, rfl, rfl, gen_P2⟩
theorem powS_gen {p : Int} (hk : knownS p = true) (k : Nat) : powS p (genS p) k = 1 ↔ (p - 1).toNat ∣ k := by
  obtain ⟨P, g, n, rfl, hg, hn, G⟩ := known_gen2 hk
  rw [hg]
  unfold powS
  rw [← Int.natCast_pow, redS_nat hk, show ((P : Int) - 1).toNat = n from by omega, ← G.one_iff k]
  omega
/-- The root of order n, where there is one. -/
structure IsRoot (p w : Int) (n : Nat) : Prop where
  known : knownS p = true
  n1 : 1 ≤ n
  n2 : n ≤ 8192
  dvd : n ∣ (p - 1).toNat
  is : w = powS p (genS p) ((p - 1).toNat / n)
theorem rootS_is {p n : Int} (h : (rootS p n).2 = 0) : ∃ N : Nat, n = (N : Int) ∧ IsRoot p (rootS p n).1 N := by
  by_cases hr : readyS p n = 0
  · obtain ⟨hk, n0, n1⟩ := ready_ok hr
    obtain ⟨N, rfl⟩ := Int.eq_ofNat_of_zero_le (show 0 ≤ n by omega)
    have hp := (known_pos hk).1
    obtain ⟨P, rfl⟩ := Int.eq_ofNat_of_zero_le (show 0 ≤ p by omega)
    refine ⟨N, rfl, ?_⟩
    unfold rootS at h ⊢
    rw [if_pos hr] at h ⊢
    by_cases hz : ((P : Int) - 1) % N = 0
    · rw [if_pos hz]
      have e1 : ((P : Int) - 1) = ((P - 1 : Nat) : Int) := by omega
      have e2 : ((P : Int) - 1).toNat = P - 1 := by omega
      have e3 : (((P : Int) - 1) / N).toNat = (P - 1) / N := by rw [e1]; rfl
      refine ⟨hk, by omega, by omega, ?_, by rw [e2, e3]⟩
      rw [e2]
      apply Nat.dvd_of_mod_eq_zero
      rw [e1] at hz
      exact_mod_cast hz
    · rw [if_neg hz] at h
      exact absurd h (by decide)
  · unfold rootS at h
    rw [if_neg hr] at h
    exact absurd h hr
theorem rootS_no {p n : Int} (h : (rootS p n).2 ≠ 0) : (rootS p n).1 = 0 := by
  unfold rootS at h ⊢
  split
  · rename_i h1
    rw [if_pos h1] at h
    split
    · rename_i h2
      rw [if_pos h2] at h
      exact absurd rfl h
    · rfl
  · rfl
theorem IsRoot.rootS {p w : Int} {n : Nat} (h : IsRoot p w n) : rootS p n = (w, 0) := by
  have hp := (known_pos h.known).1
  have n1 := h.n1; have n2 := h.n2
  have hr : readyS p n = 0 := by rw [readyS, if_pos h.known, if_pos ⟨by omega, by omega⟩]
  obtain ⟨M, rfl⟩ := Int.eq_ofNat_of_zero_le (show 0 ≤ p by omega)
  have e1 : ((M : Int) - 1) = ((M - 1 : Nat) : Int) := by omega
  have e2 : ((M : Int) - 1).toNat = M - 1 := by omega
  have e3 : (((M : Int) - 1) / n).toNat = (M - 1) / n := by rw [e1]; rfl
  have hd := h.dvd
  rw [e2] at hd
  have hz : ((M : Int) - 1) % n = 0 := by rw [e1, ← Int.natCast_emod, Nat.mod_eq_zero_of_dvd hd]; rfl
  have hi := h.is
  rw [e2] at hi
  unfold P.rootS
  rw [if_pos hr, if_pos hz, e3, ← hi]
/-- A root's power is 1 just where its order divides. -/
theorem IsRoot.one_iff {p w : Int} {n : Nat} (h : IsRoot p w n) (k : Nat) : powS p w k = 1 ↔ n ∣ k := by
  have n1 := h.n1
  rw [h.is, ← powS_mul, powS_gen h.known]
  obtain ⟨m, hm⟩ := h.dvd
  have hp := (known_pos h.known).1
  have hm0 : 0 < m := by
    rcases Nat.eq_zero_or_pos m with h0 | h0
    · subst h0; omega
    · exact h0
  rw [hm, Nat.mul_div_cancel_left _ (by omega), Nat.mul_comm n m]
  exact Nat.mul_dvd_mul_iff_left hm0
theorem IsRoot.small {p w : Int} {n : Nat} (h : IsRoot p w n) : redS p w = w := by
  rw [h.is]; unfold powS; exact redS_redS _ _
theorem IsRoot.ne {p w : Int} {n : Nat} (h : IsRoot p w n) : redS p w ≠ 0 := by
  intro h0
  have h1 := (h.one_iff n).2 (Nat.dvd_refl n)
  have n1 := h.n1
  rw [← powS_red, h0, show n = (n - 1) + 1 from by omega, ← powS_succ] at h1
  unfold mulS at h1
  rw [Int.mul_zero, redS_zero] at h1
  omega
/-- What undoes a root. -/
theorem IsRoot.back {p w : Int} {n : Nat} (h : IsRoot p w n) : backS p n = (powS p w (p - 2).toNat, 0) := by
  rw [backS, h.rootS, if_pos rfl, invS, if_pos h.known, if_neg h.ne]
theorem IsRoot.mul_back {p w : Int} {n : Nat} (h : IsRoot p w n) : mulS p w (powS p w (p - 2).toNat) = 1 := by
  have := inv_mul h.known h.ne
  unfold mulS at *
  rw [Int.mul_comm]; exact this
theorem IsRoot.back_iff {p w : Int} {n : Nat} (h : IsRoot p w n) (k : Nat) : powS p (powS p w (p - 2).toNat) k = 1 ↔ n ∣ k := by
  have h1 : mulS p (powS p w k) (powS p (powS p w (p - 2).toNat) k) = 1 := by
    rw [← powS_base, h.mul_back]
    unfold powS
    rw [Int.one_pow]; exact one_red h.known
  rw [← h.one_iff k]
  constructor
  · intro h2
    rw [h2] at h1
    unfold mulS at h1
    rw [Int.mul_one] at h1
    unfold powS at h1 ⊢
    rwa [redS_redS] at h1
  · intro h2
    rw [h2] at h1
    unfold mulS at h1
    rw [Int.one_mul] at h1
    unfold powS at h1 ⊢
    rwa [redS_redS] at h1
theorem ord_of_iff {p a : Int} {n : Nat} (hn : 1 ≤ n) (h : ∀ k, powS p a k = 1 ↔ n ∣ k) (m : Nat) (hm : 1 ≤ m) : IsOrd p a m ↔ m = n := by
  constructor
  · intro ⟨h1, h2⟩
    have hd := (h m).1 h1
    have hle := Nat.le_of_dvd (by omega) hd
    rcases Nat.lt_or_ge n m with hlt | hge
    · exact absurd ((h n).2 (Nat.dvd_refl n)) (h2 n hlt (by omega))
    · omega
  · rintro rfl
    refine ⟨(h m).2 (Nat.dvd_refl m), fun k hk h0 hk1 => ?_⟩
    have := Nat.le_of_dvd h0 ((h k).1 hk1)
    omega
theorem IsRoot.order {p w : Int} {n : Nat} (h : IsRoot p w n) {m : Int} (hm : (orderS p w m).2 = 0) : (orderS p w m).1 = decide (m = (n : Int)) := by
  unfold orderS at hm ⊢
  by_cases hr : readyS p m = 0
  · rw [if_pos hr] at hm ⊢
    obtain ⟨hk, m0, m1⟩ := ready_ok hr
    have := ord_of_iff h.n1 h.one_iff m.toNat (by omega)
    have e : (m.toNat = n) ↔ (m = (n : Int)) := by omega
    exact decide_eq_decide.2 (this.trans e)
  · rw [if_neg hr] at hm
    exact absurd hm hr
theorem IsRoot.orderS {p w : Int} {n : Nat} (h : IsRoot p w n) : orderS p w n = (true, 0) := by
  have n1 := h.n1; have n2 := h.n2
  have hr : readyS p n = 0 := by rw [readyS, if_pos h.known, if_pos ⟨by omega, by omega⟩]
  rw [P.orderS, if_pos hr, Int.toNat_natCast, decide_eq_true ((ord_of_iff h.n1 h.one_iff n h.n1).2 rfl)]
theorem IsRoot.order_back {p w : Int} {n : Nat} (h : IsRoot p w n) : P.orderS p (powS p w (p - 2).toNat) n = (true, 0) := by
  have n1 := h.n1; have n2 := h.n2
  have hr : readyS p n = 0 := by rw [readyS, if_pos h.known, if_pos ⟨by omega, by omega⟩]
  rw [P.orderS, if_pos hr, Int.toNat_natCast, decide_eq_true ((ord_of_iff h.n1 h.back_iff n h.n1).2 rfl)]
/-- A root's power is a root. -/
theorem IsRoot.part {p w : Int} {n m : Nat} (h : IsRoot p w (n * m)) : IsRoot p (powS p w m) n := by
  have h1 := h.n1; have h2 := h.n2
  have hn : 0 < n := by
    rcases Nat.eq_zero_or_pos n with h0 | h0
    · subst h0; simp at h1
    · exact h0
  have hm : 0 < m := by
    rcases Nat.eq_zero_or_pos m with h0 | h0
    · subst h0; simp at h1
    · exact h0
  have hle : n ≤ n * m := Nat.le_mul_of_pos_right n hm
  refine ⟨h.known, hn, by omega, Nat.dvd_trans ⟨m, rfl⟩ h.dvd, ?_⟩
  rw [h.is, ← powS_mul]
  congr 1
  obtain ⟨q, hq⟩ := h.dvd
  rw [hq, Nat.mul_div_cancel_left _ (by omega), Nat.mul_assoc, Nat.mul_div_cancel_left _ hn, Nat.mul_comm]
/-- The sum of a number's first powers. -/
def geoS (p x : Int) : Nat → Int
  | 0 => 0
  | k + 1 => addS p (geoS p x k) (powS p x k)
theorem u64_geoS (p x : Int) : ∀ k, U64 (geoS p x k)
  | 0 => (show U64 0 by decide)
  | k + 1 => u64_redS _ _
theorem geoS_mul (p x : Int) : ∀ k, redS p (geoS p x k * (x - 1)) = redS p (x ^ k - 1)
  | 0 => by simp [geoS]
  | k + 1 => by
    unfold geoS addS powS
    rw [redS_mul_left, Int.add_mul, ← redS_add_left, geoS_mul p x k, redS_add_left, ← redS_add_right, redS_mul_left, redS_add_right, Int.pow_succ]
    congr 1
    rw [Int.mul_sub, Int.mul_one]; omega
theorem geoS_one {p : Int} (hk : knownS p = true) : ∀ k : Nat, (k : Int) < p → geoS p 1 k = k
  | 0, _ => rfl
  | k + 1, h => by
    unfold geoS
    rw [geoS_one hk k (by omega)]
    unfold addS powS
    rw [Int.one_pow, redS_add_right, redS_small hk (by omega) (by omega)]
    omega
theorem geoS_red (p x : Int) : ∀ k, redS p (geoS p x k) = geoS p x k
  | 0 => redS_zero p
  | k + 1 => redS_redS _ _
theorem IsRoot.sum {p w : Int} {n k : Nat} (h : IsRoot p w n) (hx : powS p w k ≠ 1) : geoS p (powS p w k) n = 0 ∧ powS p (powS p w k) n = 1 := by
  have h1 : powS p (powS p w k) n = 1 := by rw [← powS_mul, h.one_iff]; exact ⟨k, Nat.mul_comm _ _⟩
  refine ⟨?_, h1⟩
  have h2 := geoS_mul p (powS p w k) n
  have h3 : redS p (powS p w k ^ n - 1) = 0 := by
    unfold powS at h1 ⊢
    rw [← redS_sub_left, h1, Int.sub_self, redS_zero]
  rw [h3, Int.mul_comm] at h2
  rcases redS_mul_zero h.known h2 with h4 | h4
  · exfalso; apply hx
    have h5 : redS p (powS p w k) = redS p 1 := (redS_eq_iff h.known).2 (by
      have := (redS_eq_iff (a := powS p w k - 1) (b := 0) h.known).1 (by rw [h4, redS_zero])
      rwa [Int.sub_zero] at this)
    rw [one_red h.known] at h5
    unfold powS at h5 ⊢
    rwa [redS_redS] at h5
  · rwa [geoS_red] at h4
end Go.Proofs.YtohcoidbncbijaaDoor.P
/- Of how many seeds a sum of powers is nothing, plainly. Under no condition beside those of each lemma. -/
namespace Go.Proofs.YtohcoidbncbijaaDoor.P
set_option linter.unusedVariables false
/-- A sum of powers. -/
def ev (r : Int) : List Int → Int
  | [] => 0
  | a :: l => ev r l * r + a
/-- What is left of it without a seed. -/
def quo (r : Int) : List Int → List Int
  | [] => []
  | a :: l => ev r (a :: l) :: quo r l
theorem quo_length (r : Int) : ∀ l, (quo r l).length = l.length
  | [] => rfl
  | a :: l => by rw [quo, List.length_cons, List.length_cons, quo_length r l]
theorem ev_quo (r s : Int) : ∀ (a : Int) (l : List Int), ev r (a :: l) - ev s (a :: l) = (r - s) * ev r (quo s l)
  | a, [] => by simp [ev, quo]
  | a, b :: l => by
    have ih := ev_quo r s b l
    have e1 : ev r (a :: b :: l) = ev r (b :: l) * r + a := rfl
    have e2 : ev s (a :: b :: l) = ev s (b :: l) * s + a := rfl
    have e3 : ev r (quo s (b :: l)) = ev r (quo s l) * r + ev s (b :: l) := rfl
    rw [e1, e2, e3]
    generalize ev r (b :: l) = x at *
    generalize ev s (b :: l) = y at *
    generalize ev r (quo s l) = q at *
    have e4 : x = (r - s) * q + y := by omega
    rw [e4]
    grind
theorem quo_zero {p s : Int} : ∀ {l : List Int}, (∀ q ∈ quo s l, redS p q = 0) → (∀ a ∈ l, redS p a = 0) ∧ redS p (ev s l) = 0
  | [], _ => And.intro (fun _ h => by cases h) (redS_zero p)
  | a :: l, h => by
    have ih := quo_zero (l := l) fun q hq => h q (by rw [quo]; exact List.mem_cons_of_mem _ hq)
    have h0 : redS p (ev s (a :: l)) = 0 := h _ (by rw [quo]; exact List.mem_cons_self)
    refine ⟨fun b hb => ?_, h0⟩
    rcases List.mem_cons.1 hb with rfl | hb
    · have e : ev s (b :: l) = ev s l * s + b := rfl
      rw [e, ← redS_add_left, ← redS_mul_left, ih.2, Int.zero_mul, redS_zero, Int.zero_add] at h0
      exact h0
    · exact ih.1 b hb
/-- Fewer seeds than numbers. -/
theorem few_seeds {p : Int} (hk : knownS p = true) : ∀ (l R : List Int), R.Nodup → (∀ r ∈ R, 0 ≤ r ∧ r < p) → (∀ r ∈ R, redS p (ev r l) = 0) → ¬ (∀ a ∈ l, redS p a = 0) → R.length < l.length
  | [], R, _, _, _, hn => absurd (fun _ h => by cases h) hn
  | a :: l, [], _, _, _, _ => by simp
  | a :: l, s :: R, hnd, hb, hz, hn => by
    rw [List.nodup_cons] at hnd
    have hs0 := hz s List.mem_cons_self
    have hq : ¬ ∀ q ∈ quo s l, redS p q = 0 := fun hq => hn fun b hbm => by
      have h1 := quo_zero hq
      rcases List.mem_cons.1 hbm with rfl | hbm
      · have e : ev s (b :: l) = ev s l * s + b := rfl
        rw [e, ← redS_add_left, ← redS_mul_left, h1.2, Int.zero_mul, redS_zero, Int.zero_add] at hs0
        exact hs0
      · exact h1.1 b hbm
    have ih := few_seeds hk (quo s l) R hnd.2 (fun r hr => hb r (List.mem_cons_of_mem _ hr)) (fun r hr => ?_) hq
    · rw [quo_length] at ih
      simpa using ih
    · have h1 : redS p ((r - s) * ev r (quo s l)) = 0 := by
        rw [← ev_quo, ← redS_sub_left, ← redS_sub_right, hz r (List.mem_cons_of_mem _ hr), hs0, Int.sub_self, redS_zero]
      rcases redS_mul_zero hk h1 with h2 | h2
      · exfalso
        have h3 : redS p r = redS p s := (redS_eq_iff hk).2 (by
          have := (redS_eq_iff (a := r - s) (b := 0) hk).1 (by rw [h2, redS_zero])
          rwa [Int.sub_zero] at this)
        have b1 := hb r (List.mem_cons_of_mem _ hr)
        have b2 := hb s List.mem_cons_self
        rw [redS_small hk b1.1 b1.2, redS_small hk b2.1 b2.2] at h3
        subst h3
        exact hnd.1 hr
      · exact h2
  termination_by l => l.length
  decreasing_by rw [quo_length]; simp
end Go.Proofs.YtohcoidbncbijaaDoor.P
/- Transforms of few words, plainly. Under no condition beside those of each lemma. -/
namespace Go.Proofs.YtohcoidbncbijaaDoor.P
set_option linter.unusedVariables false
theorem red_add {p a b a' b' : Int} (h : redS p a = redS p a') (h2 : redS p b = redS p b') : redS p (a + b) = redS p (a' + b') := by
  rw [← redS_add_left, ← redS_add_right, h, h2, redS_add_right, redS_add_left]
theorem red_mul {p a b a' b' : Int} (h : redS p a = redS p a') (h2 : redS p b = redS p b') : redS p (a * b) = redS p (a' * b') := by
  rw [← redS_mul_left, ← redS_mul_right, h, h2, redS_mul_right, redS_mul_left]
theorem red_sub {p a b a' b' : Int} (h : redS p a = redS p a') (h2 : redS p b = redS p b') : redS p (a - b) = redS p (a' - b') := by
  rw [← redS_sub_left, ← redS_sub_right, h, h2, redS_sub_right, redS_sub_left]
theorem red_pow {p a b : Int} (h : redS p a = redS p b) (k : Nat) : redS p (a ^ k) = redS p (b ^ k) := by
  have h1 := powS_red p a k
  have h2 := powS_red p b k
  rw [h] at h1
  exact h1.symm.trans h2
/-- Sums. -/
def S : Nat → (Nat → Int) → Int
  | 0, _ => 0
  | n + 1, f => S n f + f n
theorem S_congr {f g : Nat → Int} : ∀ {n : Nat}, (∀ i, i < n → f i = g i) → S n f = S n g
  | 0, _ => rfl
  | n + 1, h => by rw [S, S, S_congr (fun i hi => h i (by omega)), h n (by omega)]
theorem S_add (f g : Nat → Int) : ∀ n, S n (fun i => f i + g i) = S n f + S n g
  | 0 => by simp [S]
  | n + 1 => by rw [S, S, S, S_add f g n]; omega
theorem S_mul (c : Int) (f : Nat → Int) : ∀ n, S n (fun i => c * f i) = c * S n f
  | 0 => by simp [S]
  | n + 1 => by rw [S, S, S_mul c f n, Int.mul_add]
theorem S_mulr (c : Int) (f : Nat → Int) (n : Nat) : S n (fun i => f i * c) = S n f * c := by
  rw [Int.mul_comm, ← S_mul]; exact S_congr fun i _ => Int.mul_comm _ _
theorem S_zero : ∀ n, S n (fun _ => 0) = 0
  | 0 => rfl
  | n + 1 => by rw [S, S_zero n]; rfl
theorem S_const (c : Int) : ∀ n : Nat, S n (fun _ => c) = n * c
  | 0 => by simp [S]
  | n + 1 => by rw [S, S_const c n]; rw [show ((n + 1 : Nat) : Int) = (n : Int) + 1 from by omega, Int.add_mul, Int.one_mul]
theorem S_comm (f : Nat → Nat → Int) (m : Nat) : ∀ n, S n (fun i => S m (fun j => f i j)) = S m (fun j => S n (fun i => f i j))
  | 0 => by simp only [S]; exact (S_zero m).symm
  | n + 1 => by
    simp only [S]
    rw [S_comm f m n, ← S_add]
theorem S_head (f : Nat → Int) : ∀ n, S (n + 1) f = f 0 + S n (fun i => f (i + 1))
  | 0 => by simp [S]
  | n + 1 => by
    rw [S, S_head f n, S]; omega
theorem S_one {n k : Nat} (hk : k < n) {f : Nat → Int} (h : ∀ i, i < n → i ≠ k → f i = 0) : S n f = f k := by
  induction n with
  | zero => omega
  | succ n ih =>
    rw [S]
    by_cases e : k = n
    · subst e
      rw [S_congr (g := fun _ => 0) (fun i hi => h i (by omega) (by omega)), S_zero, Int.zero_add]
    · rw [ih (by omega) (fun i hi hik => h i (by omega) hik), h n (by omega) (by omega), Int.add_zero]
theorem red_S {p : Int} {f g : Nat → Int} : ∀ {n : Nat}, (∀ i, i < n → redS p (f i) = redS p (g i)) → redS p (S n f) = redS p (S n g)
  | 0, _ => rfl
  | n + 1, h => by rw [S, S]; exact red_add (red_S fun i hi => h i (by omega)) (h n (by omega))
theorem S_geo (x : Int) : ∀ n, (x - 1) * S n (fun u => x ^ u) = x ^ n - 1
  | 0 => by simp [S]
  | n + 1 => by rw [S, Int.mul_add, S_geo x n, Int.pow_succ, Int.sub_mul, Int.one_mul, Int.mul_comm x]; omega
theorem red_geo {p x : Int} {n : Nat} (hk : knownS p = true) (hn : redS p (x ^ n) = 1) (hx : redS p x ≠ 1) : redS p (S n (fun u => x ^ u)) = 0 := by
  have h1 : redS p ((x - 1) * S n (fun u => x ^ u)) = 0 := by
    rw [S_geo, ← redS_sub_left, hn, Int.sub_self, redS_zero]
  rcases redS_mul_zero hk h1 with h2 | h2
  · exfalso; apply hx
    have : redS p ((x - 1) + 1) = redS p (0 + 1) := red_add (by rw [h2, redS_zero]) rfl
    rw [show x - 1 + 1 = x from by omega, Int.zero_add, one_red hk] at this
    exact this
  · exact h2
/-- Two numbers of an order that undo each other. -/
structure Turn (p a b : Int) (n : Nat) : Prop where
  known : knownS p = true
  n1 : 1 ≤ n
  n2 : n ≤ 8192
  ab : redS p (a * b) = 1
  ia : ∀ k, powS p a k = 1 ↔ n ∣ k
  ib : ∀ k, powS p b k = 1 ↔ n ∣ k
  ra : redS p a = a
  rb : redS p b = b
theorem Turn.symm {p a b : Int} {n : Nat} (h : Turn p a b n) : Turn p b a n :=
  ⟨h.known, h.n1, h.n2, by rw [Int.mul_comm]; exact h.ab, h.ib, h.ia, h.rb, h.ra⟩
theorem IsRoot.turn {p w : Int} {n : Nat} (h : IsRoot p w n) : Turn p w (powS p w (p - 2).toNat) n :=
  ⟨h.known, h.n1, h.n2, h.mul_back, h.one_iff, h.back_iff, h.small, by unfold powS; exact redS_redS _ _⟩
theorem Turn.pow_mul {p a b : Int} {n : Nat} (h : Turn p a b n) (k : Nat) : redS p (a ^ (n * k)) = 1 := (h.ia (n * k)).2 ⟨k, rfl⟩
theorem Turn.abk {p a b : Int} {n : Nat} (h : Turn p a b n) (k : Nat) : redS p (a ^ k * b ^ k) = 1 := by
  rw [← Int.mul_pow]
  have h1 : redS p (a * b) = redS p 1 := by rw [h.ab, one_red h.known]
  rw [red_pow h1 k, Int.one_pow, one_red h.known]
theorem Turn.apart {p a b : Int} {n : Nat} (h : Turn p a b n) {t s : Nat} (ht : t < n) (hs : s < n) (hne : t ≠ s) : redS p (a ^ t * b ^ s) ≠ 1 := by
  have hlt : ∀ {a b : Int} (h : Turn p a b n) (t s : Nat), t < n → s < t → redS p (a ^ t * b ^ s) ≠ 1 := fun {a b} h t s ht hst => by
    have e : a ^ t * b ^ s = a ^ (t - s) * (a ^ s * b ^ s) := by
      rw [← Int.mul_assoc, ← Int.pow_add, show t - s + s = t from by omega]
    rw [e, ← redS_mul_right, h.abk s, Int.mul_one]
    intro h1
    have h2 := (h.ia (t - s)).1 h1
    have := Nat.le_of_dvd (by omega) h2
    omega
  rcases Nat.lt_or_gt_of_ne hne with h1 | h1
  · rw [Int.mul_comm]; exact hlt h.symm s t hs h1
  · exact hlt h t s ht h1
/-- All together: nought, but where both are one place. -/
theorem Turn.all {p a b : Int} {n : Nat} (h : Turn p a b n) {t s : Nat} (ht : t < n) (hs : s < n) :
    redS p (S n (fun u => (a ^ t * b ^ s) ^ u)) = if t = s then redS p n else 0 := by
  by_cases e : t = s
  · subst e
    rw [if_pos rfl, red_S (g := fun _ => 1) (fun i _ => ?_), S_const, Int.mul_one]
    rw [red_pow (b := 1) (by rw [h.abk, one_red h.known]), Int.one_pow]
  · rw [if_neg e]
    refine red_geo h.known ?_ (h.apart ht hs e)
    rw [Int.mul_pow, ← Int.pow_mul, ← Int.pow_mul, Nat.mul_comm t n, Nat.mul_comm s n, ← redS_mul_left, h.pow_mul, Int.one_mul, h.symm.pow_mul]
/-- A word of a transform. -/
def doF (p a : Int) (x : List Int) (u : Nat) : Int := redS p (S x.length (fun t => x.getD t 0 * a ^ (t * u)))
def doL (p a : Int) (x : List Int) : List Int := (List.range x.length).map (doF p a x)
theorem doL_length (p a : Int) (x : List Int) : (doL p a x).length = x.length := by simp [doL]
theorem doL_at (p a : Int) (x : List Int) {u : Nat} (h : u < x.length) (d : Int) : (doL p a x).getD u d = doF p a x u := by
  rw [List.getD_eq_getElem?_getD]; simp [doL, h]
theorem doF_red (p a : Int) (x : List Int) (u : Nat) : redS p (doF p a x u) = doF p a x u := redS_redS _ _
/-- There and back. -/
theorem Turn.back {p a b : Int} {x : List Int} (h : Turn p a b x.length) {s : Nat} (hs : s < x.length) : doF p b (doL p a x) s = mulS p (x.getD s 0) x.length := by
  unfold doF
  rw [doL_length]
  have e1 : redS p (S x.length (fun u => (doL p a x).getD u 0 * b ^ (u * s))) = redS p (S x.length (fun u => S x.length (fun t => x.getD t 0 * a ^ (t * u)) * b ^ (u * s))) := by
    refine red_S fun u hu => ?_
    rw [doL_at p a x hu]
    exact red_mul (redS_redS _ _) rfl
  rw [e1]
  have e2 : S x.length (fun u => S x.length (fun t => x.getD t 0 * a ^ (t * u)) * b ^ (u * s)) = S x.length (fun t => x.getD t 0 * S x.length (fun u => (a ^ t * b ^ s) ^ u)) := by
    rw [show (fun u => S x.length (fun t => x.getD t 0 * a ^ (t * u)) * b ^ (u * s)) = fun u => S x.length (fun t => x.getD t 0 * (a ^ t * b ^ s) ^ u) from by
      funext u
      rw [← S_mulr]
      refine S_congr fun t _ => ?_
      rw [Int.mul_assoc, Int.mul_pow, ← Int.pow_mul, ← Int.pow_mul, Nat.mul_comm s u]]
    rw [S_comm]
    exact S_congr fun t _ => S_mul _ _ _
  rw [e2]
  have e3 : redS p (S x.length (fun t => x.getD t 0 * S x.length (fun u => (a ^ t * b ^ s) ^ u))) = redS p (S x.length (fun t => if t = s then x.getD s 0 * x.length else 0)) := by
    refine red_S fun t ht => ?_
    rw [← redS_mul_right, h.all ht hs]
    by_cases e : t = s
    · subst e; rw [if_pos rfl, if_pos rfl, redS_mul_right]
    · rw [if_neg e, if_neg e, Int.mul_zero]
  rw [e3, S_one hs (fun i _ hi => if_neg hi), if_pos rfl]
  rfl
/-- All words of a transform together. -/
theorem Turn.total {p a b : Int} {x : List Int} (h : Turn p a b x.length) : redS p (S x.length (fun u => doF p a x u)) = mulS p x.length (x.getD 0 0) := by
  have hn := h.n1
  have h1 := h.back (s := 0) (by omega)
  unfold doF at h1
  rw [doL_length] at h1
  have e : S x.length (fun t => (doL p a x).getD t 0 * b ^ (t * 0)) = S x.length (fun u => doF p a x u) := by
    refine S_congr fun t ht => ?_
    rw [doL_at p a x ht, Nat.mul_zero, Int.pow_zero, Int.mul_one]
  rw [e] at h1
  rw [h1]
  unfold mulS
  rw [Int.mul_comm]
/-- Words turned around by one place. -/
theorem Turn.turned {p a b : Int} {x : List Int} (h : Turn p a b x.length) (u : Nat) :
    doF p a (x.getD (x.length - 1) 0 :: x.take (x.length - 1)) u = mulS p (doF p a x u) (powS p a u) := by
  have hn := h.n1
  obtain ⟨m, hm⟩ : ∃ m, x.length = m + 1 := ⟨x.length - 1, by omega⟩
  have hl : (x.getD (x.length - 1) 0 :: x.take (x.length - 1)).length = m + 1 := by simp; omega
  unfold doF
  rw [hl, hm, show m + 1 - 1 = m from by omega]
  have e1 : S (m + 1) (fun t => (x.getD m 0 :: x.take m).getD t 0 * a ^ (t * u)) = x.getD m 0 + S m (fun t => x.getD t 0 * a ^ ((t + 1) * u)) := by
    rw [S_head]
    congr 1
    · simp
    · refine S_congr fun t ht => ?_
      rw [List.getD_cons_succ, List.getD_eq_getElem?_getD, List.getD_eq_getElem?_getD, List.getElem?_take, if_pos ht]
  rw [e1]
  unfold mulS powS
  rw [redS_mul_left, redS_mul_right]
  have e2 : S (m + 1) (fun t => x.getD t 0 * a ^ (t * u)) * a ^ u = S m (fun t => x.getD t 0 * a ^ ((t + 1) * u)) + x.getD m 0 * a ^ ((m + 1) * u) := by
    rw [← S_mulr]
    rw [show (fun i => x.getD i 0 * a ^ (i * u) * a ^ u) = fun i => x.getD i 0 * a ^ ((i + 1) * u) from by
      funext i; rw [Int.mul_assoc, ← Int.pow_add, Nat.add_mul, Nat.one_mul]]
    rfl
  rw [e2, Int.add_comm]
  refine red_add rfl ?_
  have h3 := h.pow_mul u
  rw [hm] at h3
  rw [← redS_mul_right, h3, Int.mul_one]
/-- Sums, and words times a number. -/
theorem doF_sums (p a c : Int) (x y z : List Int) (hy : y.length = x.length) (hz : z.length = x.length) (h : ∀ t, t < x.length → z.getD t 0 = addS p (mulS p c (x.getD t 0)) (y.getD t 0)) (u : Nat) :
    doF p a z u = addS p (mulS p c (doF p a x u)) (doF p a y u) := by
  unfold doF
  rw [hy, hz]
  unfold addS mulS at *
  rw [redS_add_left, redS_add_right, ← redS_add_left, redS_mul_right, redS_add_left, ← S_mul, ← S_add]
  refine red_S fun t ht => ?_
  rw [h t ht, redS_add_left, redS_mul_left]
  congr 1
  rw [Int.add_mul, Int.mul_assoc]
/-- Weighed. -/
def weighF (p a : Int) (x w : List Int) : Int := redS p (S x.length (fun u => doF p a x u * w.getD u 0))
theorem weigh_symm (p a : Int) (x w : List Int) (h : w.length = x.length) : weighF p a x w = weighF p a w x := by
  unfold weighF doF
  rw [h]
  have e : ∀ x w : List Int, redS p (S x.length (fun u => redS p (S x.length (fun t => x.getD t 0 * a ^ (t * u))) * w.getD u 0)) = redS p (S x.length (fun u => S x.length (fun t => x.getD t 0 * (a ^ (t * u) * w.getD u 0)))) := fun x w => by
    refine red_S fun u _ => ?_
    rw [redS_mul_left, ← S_mulr]
    congr 1
    exact S_congr fun t _ => Int.mul_assoc _ _ _
  rw [e x w]
  have e2 := e w x
  rw [h] at e2
  rw [e2, S_comm]
  congr 1
  refine S_congr fun t _ => S_congr fun u _ => ?_
  rw [Nat.mul_comm u t]
  generalize a ^ (t * u) = z
  generalize w.getD u 0 = y
  generalize x.getD t 0 = v
  grind
end Go.Proofs.YtohcoidbncbijaaDoor.P
/- Transforms of few words, done at once, plainly. Under no condition beside those of each lemma. -/
namespace Go.Proofs.YtohcoidbncbijaaDoor.P
set_option linter.unusedVariables false
set_option linter.unusedSimpArgs false
theorem red_off {p K A B : Int} (c : Int) (hK : redS p K = 0) (h : A = B + c * K) : redS p A = redS p B := by
  rw [h, ← redS_add_right, ← redS_mul_right, hK, Int.mul_zero, redS_zero, Int.add_zero]
theorem Turn.mod {p a b : Int} {n : Nat} (h : Turn p a b n) (k : Nat) : redS p (a ^ k) = redS p (a ^ (k % n)) := by
  have e : k = n * (k / n) + k % n := (Nat.div_add_mod k n).symm
  rw [e, Int.pow_add, ← redS_mul_left, h.pow_mul, Int.one_mul]
  congr 2
  rw [Nat.mul_add_mod, Nat.mod_mod]
theorem Turn.nought {p a b : Int} {n : Nat} (h : Turn p a b n) (h2 : 2 ≤ n) : redS p (S n (fun u => a ^ u)) = 0 := by
  refine red_geo h.known ?_ ?_
  · have := h.pow_mul 1
    rwa [Nat.mul_one] at this
  · intro h1
    have h3 := (h.ia 1).1 (by unfold powS; rw [Int.pow_succ, Int.pow_zero, Int.one_mul]; exact h1)
    have := Nat.le_of_dvd (by omega) h3
    omega
theorem Turn.half {p a b : Int} (h : Turn p a b 4) : redS p (a ^ 2 + 1) = 0 := by
  have h1 : redS p ((a ^ 2 - 1) * (a ^ 2 + 1)) = 0 := by
    have e : (a ^ 2 - 1) * (a ^ 2 + 1) = a ^ (4 * 1) - 1 := by grind
    rw [e, ← redS_sub_left, h.pow_mul 1, Int.sub_self, redS_zero]
  rcases redS_mul_zero h.known h1 with h2 | h2
  · exfalso
    have h3 : redS p ((a ^ 2 - 1) + 1) = redS p (0 + 1) := red_add (by rw [h2, redS_zero]) rfl
    rw [show a ^ 2 - 1 + 1 = a ^ 2 from by omega, Int.zero_add, one_red h.known] at h3
    have h4 := (h.ia 2).1 h3
    omega
  · exact h2
/-- A sum of words, counted by a prime. -/
def addL (p : Int) (l : List Int) : Int := l.foldl (addS p) 0
theorem u64_addL (p : Int) (l : List Int) : U64 (addL p l) := by
  rcases List.eq_nil_or_concat l with h | ⟨q, x, h⟩
  · subst h; exact (show U64 0 by decide)
  · rw [h, addL, List.concat_eq_append, List.foldl_append]; exact u64_addS _ _ _
def two (p x0 x1 : Int) : List Int := [addL p [x0, x1], subS p x0 x1]
def three (p w1 x0 x1 x2 : Int) : List Int :=
  [addL p [x0, x1, x2], addL p [subS p x0 x2, mulS p (subS p x1 x2) w1], subS p (subS p x0 x1) (mulS p (subS p x1 x2) w1)]
def four (p w1 x0 x1 x2 x3 : Int) : List Int :=
  [addL p [addL p [x0, x2], addL p [x1, x3]], addL p [subS p x0 x2, mulS p (subS p x1 x3) w1], subS p (addL p [x0, x2]) (addL p [x1, x3]), subS p (subS p x0 x2) (mulS p (subS p x1 x3) w1)]
theorem two_is {p a b x0 x1 : Int} (h : Turn p a b 2) : two p x0 x1 = doL p a [x0, x1] := by
  have hK := h.nought (by omega)
  simp only [S, Int.zero_add, Int.pow_zero] at hK
  simp only [two, doL, doF, addL, List.foldl, List.length_cons, List.length_nil, Nat.zero_add, Nat.reduceAdd, show List.range 2 = [0, 1] from rfl, List.map, S, List.getD_cons_zero, List.getD_cons_succ, addS, subS, mulS, redS_add_left, redS_sub_left, Int.zero_add, Nat.zero_mul, Nat.mul_zero, Nat.one_mul, Int.pow_zero, Int.mul_one]
  refine List.cons_eq_cons.2 ⟨rfl, List.cons_eq_cons.2 ⟨?_, rfl⟩⟩
  exact red_off (-x1) hK (by grind)
theorem three_is {p a b x0 x1 x2 : Int} (h : Turn p a b 3) : three p a x0 x1 x2 = doL p a [x0, x1, x2] := by
  have hK := h.nought (by omega)
  simp only [S, Int.zero_add, Int.pow_zero] at hK
  simp only [three, doL, doF, addL, List.foldl, List.length_cons, List.length_nil, Nat.zero_add, Nat.reduceAdd, show List.range 3 = [0, 1, 2] from rfl, List.map, S, List.getD_cons_zero, List.getD_cons_succ, addS, subS, mulS, redS_add_left, redS_add_right, redS_sub_left, redS_sub_right, redS_mul_left, redS_mul_right, Int.zero_add, Nat.zero_mul, Nat.mul_zero, Nat.one_mul, Nat.mul_one, Nat.reduceMul, Int.pow_zero, Int.mul_one]
  refine List.cons_eq_cons.2 ⟨rfl, List.cons_eq_cons.2 ⟨?_, List.cons_eq_cons.2 ⟨?_, rfl⟩⟩⟩
  · exact red_off (-x2) hK (by grind)
  · exact red_off (-x1 - x2 * (a ^ 2 - a)) hK (by grind)
theorem four_is {p a b x0 x1 x2 x3 : Int} (h : Turn p a b 4) : four p a x0 x1 x2 x3 = doL p a [x0, x1, x2, x3] := by
  have hK := h.half
  simp only [four, doL, doF, addL, List.foldl, List.length_cons, List.length_nil, Nat.zero_add, Nat.reduceAdd, show List.range 4 = [0, 1, 2, 3] from rfl, List.map, S, List.getD_cons_zero, List.getD_cons_succ, addS, subS, mulS, redS_add_left, redS_add_right, redS_sub_left, redS_sub_right, redS_mul_left, redS_mul_right, Int.zero_add, Nat.zero_mul, Nat.mul_zero, Nat.one_mul, Nat.mul_one, Nat.reduceMul, Int.pow_zero, Int.mul_one]
  refine List.cons_eq_cons.2 ⟨?_, List.cons_eq_cons.2 ⟨?_, List.cons_eq_cons.2 ⟨?_, List.cons_eq_cons.2 ⟨?_, rfl⟩⟩⟩⟩
  · congr 1; grind
  · exact red_off (-x2 - x3 * a) hK (by grind)
  · exact red_off (-x1 - x2 * (a ^ 2 - 1) - x3 * (a ^ 4 - a ^ 2 + 1)) hK (by grind)
  · exact red_off (-x1 * a - x2 * (a ^ 4 - a ^ 2 + 1) - x3 * (a ^ 7 - a ^ 5 + a ^ 3 - a)) hK (by grind)
/-- What five has summed at t of the word u. -/
def fiveF (p a : Int) (x : List Int) (u t : Nat) : Int := redS p (S t (fun i => x.getD i 0 * a ^ (i * u)))
theorem fiveF_all (p a : Int) (x : List Int) (u : Nat) : fiveF p a x u x.length = doF p a x u := rfl
theorem fiveF_step {p a b : Int} {n : Nat} (h : Turn p a b n) (x : List Int) (u t : Nat) : addS p (fiveF p a x u t) (mulS p (x.getD t 0) (powS p a (t * u % n))) = fiveF p a x u (t + 1) := by
  unfold fiveF addS mulS powS
  rw [redS_add_left, redS_add_right, S]
  refine red_add rfl ?_
  rw [redS_mul_right]
  exact red_mul rfl (h.mod _).symm
end Go.Proofs.YtohcoidbncbijaaDoor.P
