/- Several texts as one: Lib0, Prime, Prime2, Pow0, Mem, Mem2, FacP. Conditions: those of each lemma. -/
import Derived.RowKit
import Derived.Lib.BitFns
import Derived.Below
import Derived.Deep.Draws
import Derived.Lib.Hide
import Derived.Deep.OwnRows
import Derived.Deep.AppendLies
import Derived.OwnWalk
import Derived.Laws.OwnMore
import Derived.Laws.MakeOwn
import Derived.Lib.TrailingZeros
import Derived.KernelRfl
/- The numbers of a prime, as whole numbers: what the field's functions tell, and that sums and products hang on no order. Under no condition beside those of each lemma. -/
namespace Go.Proofs.YtohcoidbncbijaaDoor.P
open Go.RowKit

/-- A word of 64 bits without a sign. -/
def U64 (a : Int) : Prop := 0 ≤ a ∧ a < 18446744073709551616
instance (a : Int) : Decidable (U64 a) := by unfold U64; exact inferInstance
/-- An int. -/
def i64 (a : Int) : Prop := -9223372036854775808 ≤ a ∧ a < 9223372036854775808
instance (a : Int) : Decidable (i64 a) := by unfold i64; exact inferInstance
theorem u64_wf {a : Int} (h : (Lit.int .u64 a).wf = true) : U64 a := by
  simp only [Lit.wf, IntKind.min, IntKind.max, IntKind.signed, IntKind.bits, Bool.and_eq_true] at h
  unfold U64
  have := h.1; have := h.2
  simp at *
  omega
theorem i64_wf {a : Int} (h : (Lit.int .i64 a).wf = true) : i64 a := by
  simp only [Lit.wf, IntKind.min, IntKind.max, IntKind.signed, IntKind.bits, Bool.and_eq_true, decide_eq_true_eq] at h
  unfold i64
  have := h.1; have := h.2
  simp at *
  omega
theorem wrap64_id {x : Int} (h : i64 x) : wrap64 x = x := by unfold i64 at h; unfold wrap64; omega

def knownS (p : Int) : Bool := p == 18446744069414584321 || p == 998244353 || p == 2013265921
theorem knownS_cases {p : Int} (h : knownS p = true) : p = 18446744069414584321 ∨ p = 998244353 ∨ p = 2013265921 := by
  simp only [knownS, Bool.or_eq_true, beq_iff_eq] at h; omega
theorem known_pos {p : Int} (h : knownS p = true) : 1 < p ∧ p < 18446744073709551616 := by
  rcases knownS_cases h with rfl | rfl | rfl <;> omega

/-- What a whole number is, counted by p; 0 where p is no prime that is known. -/
def redS (p a : Int) : Int := if knownS p then a % p else 0
theorem redS_known {p a : Int} (h : knownS p = true) : redS p a = a % p := by rw [redS, if_pos h]
theorem redS_not {p a : Int} (h : ¬ knownS p = true) : redS p a = 0 := by rw [redS, if_neg h]
theorem redS_lo (p a : Int) : 0 ≤ redS p a := by
  unfold redS; split
  · rename_i h; have := known_pos h; exact Int.emod_nonneg _ (by omega)
  · exact Int.le_refl _
theorem redS_hi {p : Int} (a : Int) (h : knownS p = true) : redS p a < p := by
  rw [redS_known h]; have := known_pos h; exact Int.emod_lt_of_pos _ (by omega)
theorem u64_redS (p a : Int) : U64 (redS p a) := by
  refine ⟨redS_lo p a, ?_⟩
  by_cases h : knownS p = true
  · have := redS_hi a h; have := known_pos h; omega
  · rw [redS_not h]; omega
theorem redS_redS (p a : Int) : redS p (redS p a) = redS p a := by
  unfold redS; split
  · exact Int.emod_emod_of_dvd _ (Int.dvd_refl p)
  · rfl
theorem redS_zero (p : Int) : redS p 0 = 0 := by unfold redS; split <;> simp
theorem redS_add_left (p a b : Int) : redS p (redS p a + b) = redS p (a + b) := by
  unfold redS; split
  · exact Int.emod_add_emod ..
  · rfl
theorem redS_add_right (p a b : Int) : redS p (a + redS p b) = redS p (a + b) := by
  rw [Int.add_comm, redS_add_left, Int.add_comm]
theorem redS_mul_left (p a b : Int) : redS p (redS p a * b) = redS p (a * b) := by
  unfold redS; split
  · rw [Int.mul_emod, Int.emod_emod_of_dvd _ (Int.dvd_refl p), ← Int.mul_emod]
  · rfl
theorem redS_mul_right (p a b : Int) : redS p (a * redS p b) = redS p (a * b) := by
  rw [Int.mul_comm, redS_mul_left, Int.mul_comm]
theorem redS_neg (p a : Int) : redS p (-(redS p a)) = redS p (-a) := by
  have h := redS_mul_right p (-1) a
  rwa [Int.neg_one_mul, Int.neg_one_mul] at h
theorem redS_sub_left (p a b : Int) : redS p (redS p a - b) = redS p (a - b) := by
  rw [Int.sub_eq_add_neg, redS_add_left, ← Int.sub_eq_add_neg]
theorem redS_sub_right (p a b : Int) : redS p (a - redS p b) = redS p (a - b) := by
  rw [Int.sub_eq_add_neg, ← redS_add_right, redS_neg, redS_add_right, ← Int.sub_eq_add_neg]
theorem redS_small {p a : Int} (h : knownS p = true) (h0 : 0 ≤ a) (h1 : a < p) : redS p a = a := by
  rw [redS_known h, Int.emod_eq_of_lt h0 h1]
/-- Two are the same by p just if p divides what lies between them. -/
theorem redS_eq_iff {p a b : Int} (h : knownS p = true) : redS p a = redS p b ↔ p ∣ a - b := by
  rw [redS_known h, redS_known h]; exact Int.emod_eq_emod_iff_emod_sub_eq_zero.trans (Int.dvd_iff_emod_eq_zero).symm
def addS (p a b : Int) : Int := redS p (a + b)
def subS (p a b : Int) : Int := redS p (a - b)
def negS (p a : Int) : Int := redS p (-a)
def mulS (p a b : Int) : Int := redS p (a * b)
theorem u64_addS (p a b : Int) : U64 (addS p a b) := u64_redS _ _
theorem u64_subS (p a b : Int) : U64 (subS p a b) := u64_redS _ _
theorem u64_negS (p a : Int) : U64 (negS p a) := u64_redS _ _
theorem u64_mulS (p a b : Int) : U64 (mulS p a b) := u64_redS _ _
end Go.Proofs.YtohcoidbncbijaaDoor.P
/- The three primes are primes: each has a number whose powers are all numbers but 0. Plain arithmetic, under no condition beside those of each lemma. -/
namespace Go.Proofs.YtohcoidbncbijaaDoor.P

/-- An injective map of what lies below n into itself meets all of it. -/
theorem pigeon : ∀ (n : Nat) (f : Nat → Nat), (∀ i, i < n → f i < n) → (∀ i j, i < n → j < n → f i = f j → i = j) → ∀ a, a < n → ∃ i, i < n ∧ f i = a
  | 0, _, _, _, a, ha => absurd ha (Nat.not_lt_zero a)
  | n + 1, f, hf, inj, a, ha => by
    by_cases hn : f n = n
    · by_cases e : a = n
      · exact ⟨n, by omega, by omega⟩
      · obtain ⟨i, hi, hia⟩ := pigeon n f (fun i hi => by
            have h1 := hf i (by omega)
            have h2 : f i ≠ n := fun h => by have := inj i n (by omega) (by omega) (h.trans hn.symm); omega
            omega) (fun i j hi hj h => inj i j (by omega) (by omega) h) a (by omega)
        exact ⟨i, by omega, hia⟩
    · have hm := hf n (by omega)
      obtain ⟨g, hg⟩ : ∃ g : Nat → Nat, ∀ j, g j = if f j = n then f n else f j := ⟨_, fun _ => rfl⟩
      have key := pigeon n g (fun i hi => by
          have h1 := hf i (by omega)
          rw [hg]; split <;> omega) (fun i j hi hj h => by
          rw [hg, hg] at h
          have h3 : ∀ k, k < n → f k ≠ f n := fun k hk h => by have := inj k n (by omega) (by omega) h; omega
          split at h <;> split at h
          · rename_i e1 e2; exact inj i j (by omega) (by omega) (e1.trans e2.symm)
          · exact absurd h.symm (h3 j hj)
          · exact absurd h (h3 i hi)
          · exact inj i j (by omega) (by omega) h)
      by_cases e : a = n
      · obtain ⟨i, hi, hia⟩ := key (f n) (by omega)
        rw [hg] at hia
        split at hia
        · rename_i e1; exact ⟨i, by omega, by omega⟩
        · have := inj i n (by omega) (by omega) hia; omega
      · obtain ⟨i, hi, hia⟩ := key a (by omega)
        rw [hg] at hia
        split at hia
        · exact ⟨n, by omega, hia⟩
        · exact ⟨i, by omega, hia⟩

/-- A power counted by m, quickly. -/
def pm (m : Nat) : Nat → Nat → Nat → Nat
  | 0, _, _ => 1 % m
  | f + 1, b, e => if e % 2 = 1 then b * pm m f (b * b % m) (e / 2) % m else pm m f (b * b % m) (e / 2)
theorem pm_eq (m : Nat) : ∀ (f b e : Nat), e < 2 ^ f → pm m f b e = b ^ e % m
  | 0, b, e, h => by
    have : e = 0 := by simpa using h
    subst this; simp [pm]
  | f + 1, b, e, h => by
    have ih := pm_eq m f (b * b % m) (e / 2) (by rw [Nat.pow_succ] at h; omega)
    have h1 : (b * b % m) ^ (e / 2) % m = b ^ (2 * (e / 2)) % m := by
      rw [← Nat.pow_mod, Nat.pow_mul, Nat.pow_two]
    rw [pm, ih, h1]
    split
    · rename_i ho
      have he : e = 2 * (e / 2) + 1 := by omega
      conv => rhs; rw [he, Nat.pow_succ]
      rw [Nat.mul_mod, Nat.mod_mod, ← Nat.mul_mod, Nat.mul_comm]
    · have he : e = 2 * (e / 2) := by omega
      conv => rhs; rw [he]

theorem prime_of_sqrt (q s : Nat) (hs : q < s * s) (h : ∀ d, d < s → 2 ≤ d → q % d ≠ 0) (hq : 0 < q) : ∀ d, d ∣ q → d = 1 ∨ d = q := by
  intro d ⟨e, he⟩
  have hd0 : d ≠ 0 := fun h0 => by subst h0; omega
  have he0 : e ≠ 0 := fun h0 => by subst h0; omega
  by_cases hd : d < s
  · by_cases h2 : 2 ≤ d
    · exact absurd (by rw [he]; exact Nat.mul_mod_right d e) (h d hd h2)
    · left; omega
  · by_cases hes : e < s
    · by_cases h2 : 2 ≤ e
      · exact absurd (by rw [he]; exact Nat.mul_mod_left d e) (h e hes h2)
      · have : e = 1 := by omega
        subst this; right; omega
    · have := Nat.mul_le_mul (Nat.le_of_not_lt hd) (Nat.le_of_not_lt hes); omega

/-- g's powers below n are all others than 1, and its power n is 1, counted by n + 1. -/
structure Gen (p g n : Nat) : Prop where
  p_is : p = n + 1
  n_pos : 0 < n
  one : g ^ n % p = 1
  no : ∀ k, 0 < k → k < n → g ^ k % p ≠ 1

theorem pow_mod_mul {p g a b : Nat} (h : g ^ a % p = 1) : g ^ (a * b) % p = 1 % p := by
  rw [Nat.pow_mul, Nat.pow_mod, h, Nat.one_pow]
theorem gen_of (p g n : Nat) (qs : List Nat) (hp : p = n + 1) (hn : 0 < n) (h1 : g ^ n % p = 1) (hq : ∀ q ∈ qs, 0 < q ∧ g ^ (n / q) % p ≠ 1)
    (hf : ∀ m, m ∣ n → 1 < m → ∃ q ∈ qs, q ∣ m) : Gen p g n := by
  refine ⟨hp, hn, h1, ?_⟩
  have h1p : 1 % p = 1 := Nat.mod_eq_of_lt (by omega)
  -- the least one
  intro k hk hkn hg
  obtain ⟨d, ⟨hd0, hdn, hdg⟩, hmin⟩ : ∃ d, (0 < d ∧ d < n ∧ g ^ d % p = 1) ∧ ∀ e, 0 < e → e < d → g ^ e % p ≠ 1 := by
    induction k using Nat.strongRecOn with
    | ind k ih =>
      by_cases hx : ∃ e, 0 < e ∧ e < k ∧ g ^ e % p = 1
      · obtain ⟨e, he0, hek, heg⟩ := hx
        exact ih e hek he0 (by omega) heg
      · exact ⟨k, ⟨hk, hkn, hg⟩, fun e he0 hek h => hx ⟨e, he0, hek, h⟩⟩
  have hdvd : d ∣ n := by
    have e : n = d * (n / d) + n % d := (Nat.div_add_mod n d).symm
    have h2 : g ^ (n % d) % p = 1 := by
      rw [e, Nat.pow_add, Nat.mul_mod, pow_mod_mul hdg, h1p, Nat.one_mul, Nat.mod_mod] at h1
      exact h1
    by_cases hz : n % d = 0
    · exact Nat.dvd_of_mod_eq_zero hz
    · exact absurd h2 (hmin _ (by omega) (Nat.mod_lt _ hd0))
  obtain ⟨m, hm⟩ := hdvd
  have hm1 : 1 < m := by
    rcases Nat.lt_or_ge 1 m with h | h
    · exact h
    · have : d * m ≤ d * 1 := Nat.mul_le_mul_left d h
      omega
  obtain ⟨q, hqs, r, hr⟩ := hf m ⟨d, by rw [hm, Nat.mul_comm]⟩ hm1
  obtain ⟨hq0, hq1⟩ := hq q hqs
  apply hq1
  have : n / q = d * r := by rw [hm, hr, Nat.mul_left_comm, Nat.mul_div_cancel_left _ hq0]
  rw [this, pow_mod_mul hdg, h1p]

theorem Gen.gt {p g n : Nat} (h : Gen p g n) : 1 < p := by have := h.p_is; have := h.n_pos; omega
theorem Gen.mod {p g n : Nat} (h : Gen p g n) (k : Nat) : g ^ k % p = g ^ (k % n) % p := by
  have h1p : 1 % p = 1 := Nat.mod_eq_of_lt h.gt
  conv => lhs; rw [← Nat.div_add_mod k n, Nat.pow_add, Nat.mul_mod, pow_mod_mul h.one, h1p, Nat.one_mul, Nat.mod_mod]
theorem Gen.one_iff {p g n : Nat} (h : Gen p g n) (k : Nat) : g ^ k % p = 1 ↔ n ∣ k := by
  constructor
  · intro hk
    rw [h.mod] at hk
    by_cases hz : k % n = 0
    · exact Nat.dvd_of_mod_eq_zero hz
    · exact absurd hk (h.no _ (by omega) (Nat.mod_lt _ h.n_pos))
  · rintro ⟨r, rfl⟩
    rw [pow_mod_mul h.one]; exact Nat.mod_eq_of_lt h.gt
/-- Each power has one that undoes it. -/
theorem Gen.undo {p g n : Nat} (h : Gen p g n) (i : Nat) : ∃ j, g ^ i * g ^ j % p = 1 := by
  have := h.n_pos
  refine ⟨n - i % n, ?_⟩
  rw [← Nat.pow_add, h.one_iff]
  refine ⟨i / n + 1, ?_⟩
  have h1 := Nat.div_add_mod i n
  have h2 := Nat.mod_lt i h.n_pos
  rw [Nat.mul_add, Nat.mul_one]; omega
theorem Gen.inj {p g n : Nat} (h : Gen p g n) : ∀ i j, i < n → j < n → g ^ i % p = g ^ j % p → i = j := by
  have key : ∀ i j, i ≤ j → i < n → j < n → g ^ i % p = g ^ j % p → i = j := by
    intro i j hij hi hj he
    obtain ⟨k, hk⟩ := h.undo i
    have h1 : g ^ (j - i) % p = 1 := by
      have h2 : g ^ j * g ^ k % p = 1 := by rw [Nat.mul_mod, ← he, ← Nat.mul_mod]; exact hk
      rw [show g ^ j = g ^ (j - i) * g ^ i from by rw [← Nat.pow_add]; congr 1; omega, Nat.mul_assoc, Nat.mul_mod, hk, Nat.mul_one, Nat.mod_mod] at h2
      exact h2
    rw [h.one_iff] at h1
    obtain ⟨r, hr⟩ := h1
    rcases Nat.eq_zero_or_pos r with h0 | h0
    · subst h0; omega
    · have := Nat.le_mul_of_pos_right n h0; omega
  intro i j hi hj he
  rcases Nat.le_total i j with h1 | h1
  · exact key i j h1 hi hj he
  · exact (key j i h1 hj hi he.symm).symm
theorem Gen.pos {p g n : Nat} (h : Gen p g n) (i : Nat) : g ^ i % p ≠ 0 := by
  intro h0
  obtain ⟨j, hj⟩ := h.undo i
  rw [Nat.mul_mod, h0, Nat.zero_mul, Nat.zero_mod] at hj
  omega
/-- All numbers but 0 are powers. -/
theorem Gen.all {p g n : Nat} (h : Gen p g n) (a : Nat) (ha : a % p ≠ 0) : ∃ i, i < n ∧ g ^ i % p = a % p := by
  have hp := h.p_is
  have hlt := Nat.mod_lt a (show 0 < p by have := h.gt; omega)
  obtain ⟨i, hi, he⟩ := pigeon n (fun i => g ^ i % p - 1) (fun i hi => by
      have h1 := Nat.mod_lt (g ^ i) (show 0 < p by have := h.gt; omega)
      have h2 := h.pos i
      show g ^ i % p - 1 < n
      omega) (fun i j hi hj he => h.inj i j hi hj (by
      have h1 := h.pos i
      have h2 := h.pos j
      have he' : g ^ i % p - 1 = g ^ j % p - 1 := he
      omega)) (a % p - 1) (by omega)
  have h1 := h.pos i
  have he' : g ^ i % p - 1 = a % p - 1 := he
  exact ⟨i, hi, by omega⟩
theorem Gen.inv {p g n : Nat} (h : Gen p g n) (a : Nat) (ha : a % p ≠ 0) : ∃ b, a * b % p = 1 := by
  obtain ⟨i, _, hi⟩ := h.all a ha
  obtain ⟨j, hj⟩ := h.undo i
  exact ⟨g ^ j, by rw [Nat.mul_mod, ← hi, ← Nat.mul_mod]; exact hj⟩
theorem Gen.zero {p g n : Nat} (h : Gen p g n) (a b : Nat) (hab : a * b % p = 0) : a % p = 0 ∨ b % p = 0 := by
  by_cases ha : a % p = 0
  · exact .inl ha
  · right
    obtain ⟨c, hc⟩ := h.inv a ha
    have h1 : a * b * c % p = 0 := by rw [Nat.mul_mod, hab, Nat.zero_mul, Nat.zero_mod]
    rw [show a * b * c = a * c * b from by rw [Nat.mul_assoc, Nat.mul_comm b c, ← Nat.mul_assoc], Nat.mul_mod, hc, Nat.one_mul, Nat.mod_mod] at h1
    exact h1
theorem Gen.fermat {p g n : Nat} (h : Gen p g n) (a : Nat) (ha : a % p ≠ 0) : a ^ n % p = 1 := by
  obtain ⟨i, _, hi⟩ := h.all a ha
  rw [Nat.pow_mod, ← hi, ← Nat.pow_mod, ← Nat.pow_mul, h.one_iff]
  exact ⟨i, Nat.mul_comm _ _⟩
theorem factors_of (n : Nat) (qs : List Nat) (hq : ∀ q ∈ qs, ∀ d, d ∣ q → d = 1 ∨ d = q) (hn : ∀ m, (∀ q ∈ qs, Nat.Coprime m q) → Nat.Coprime m n) : ∀ m, m ∣ n → 1 < m → ∃ q ∈ qs, q ∣ m := by
  intro m hm h1
  apply Classical.byContradiction
  intro hno
  have hc : ∀ q ∈ qs, Nat.Coprime m q := by
    intro q hqs
    rcases hq q hqs (Nat.gcd m q) (Nat.gcd_dvd_right m q) with h | h
    · exact h
    · exact absurd ⟨q, hqs, by rw [← h]; exact Nat.gcd_dvd_left m q⟩ hno
  have h2 := Nat.Coprime.eq_one_of_dvd (hn m hc) hm
  omega
theorem small_prime {q s : Nat} (h : (decide (q < s * s) && (List.range s).all (fun d => decide (d < 2) || decide (q % d ≠ 0)) && decide (0 < q)) = true) : ∀ d, d ∣ q → d = 1 ∨ d = q := by
  simp only [Bool.and_eq_true, decide_eq_true_eq, List.all_eq_true, List.mem_range, Bool.or_eq_true] at h
  obtain ⟨⟨h1, h2⟩, h3⟩ := h
  exact prime_of_sqrt q s h1 (fun d hd h => by rcases h2 d hd with h' | h' <;> omega) h3
theorem cop_pow {m q : Nat} (h : Nat.Coprime m q) (k : Nat) : Nat.Coprime m (q ^ k) := Nat.Coprime.pow_right k h

theorem gen_of_pm (p g n : Nat) (qs : List Nat) (hp : p = n + 1) (hn : 0 < n) (hb : n < 2 ^ 64) (h1 : pm p 64 g n = 1) (hq : ∀ q ∈ qs, 0 < q ∧ pm p 64 g (n / q) ≠ 1)
    (hf : ∀ m, m ∣ n → 1 < m → ∃ q ∈ qs, q ∣ m) : Gen p g n :=
  gen_of p g n qs hp hn (by rw [← pm_eq p 64 g n hb]; exact h1) (fun q h => ⟨(hq q h).1, by rw [← pm_eq p 64 g (n / q) (Nat.lt_of_le_of_lt (Nat.div_le_self _ _) hb)]; exact (hq q h).2⟩) hf

theorem gen_P0 : Gen 18446744069414584321 7 18446744069414584320 := by
  refine gen_of_pm _ _ _ [2, 3, 5, 17, 257, 65537] rfl (by decide) (by decide) ?_ ?_ (factors_of _ _ ?_ ?_)
  · decide +kernel
  · intro q hq
    simp only [List.mem_cons, List.mem_nil_iff, or_false] at hq
    rcases hq with rfl | rfl | rfl | rfl | rfl | rfl <;> exact ⟨by decide, by decide +kernel⟩
  · intro q hq
    simp only [List.mem_cons, List.mem_nil_iff, or_false] at hq
    rcases hq with rfl | rfl | rfl | rfl | rfl | rfl
    · exact small_prime (s := 2) (by decide +kernel)
    · exact small_prime (s := 2) (by decide +kernel)
    · exact small_prime (s := 3) (by decide +kernel)
    · exact small_prime (s := 5) (by decide +kernel)
    · exact small_prime (s := 17) (by decide +kernel)
    · exact small_prime (s := 257) (by decide +kernel)
  · intro m h
    have e : 18446744069414584320 = 2 ^ 32 * 3 * 5 * 17 * 257 * 65537 := by decide
    rw [e]
    exact Nat.Coprime.mul_right (Nat.Coprime.mul_right (Nat.Coprime.mul_right (Nat.Coprime.mul_right (Nat.Coprime.mul_right (cop_pow (h 2 (by simp)) 32) (h 3 (by simp))) (h 5 (by simp))) (h 17 (by simp))) (h 257 (by simp))) (h 65537 (by simp))
theorem gen_P1 : Gen 998244353 3 998244352 := by
  refine gen_of_pm _ _ _ [2, 7, 17] rfl (by decide) (by decide) ?_ ?_ (factors_of _ _ ?_ ?_)
  · decide +kernel
  · intro q hq
    simp only [List.mem_cons, List.mem_nil_iff, or_false] at hq
    rcases hq with rfl | rfl | rfl <;> exact ⟨by decide, by decide +kernel⟩
  · intro q hq
    simp only [List.mem_cons, List.mem_nil_iff, or_false] at hq
    rcases hq with rfl | rfl | rfl
    · exact small_prime (s := 2) (by decide +kernel)
    · exact small_prime (s := 3) (by decide +kernel)
    · exact small_prime (s := 5) (by decide +kernel)
  · intro m h
    have e : 998244352 = 2 ^ 23 * 7 * 17 := by decide
    rw [e]
    exact Nat.Coprime.mul_right (Nat.Coprime.mul_right (cop_pow (h 2 (by simp)) 23) (h 7 (by simp))) (h 17 (by simp))
theorem gen_P2 : Gen 2013265921 31 2013265920 := by
  refine gen_of_pm _ _ _ [2, 3, 5] rfl (by decide) (by decide) ?_ ?_ (factors_of _ _ ?_ ?_)
  · decide +kernel
  · intro q hq
    simp only [List.mem_cons, List.mem_nil_iff, or_false] at hq
    rcases hq with rfl | rfl | rfl <;> exact ⟨by decide, by decide +kernel⟩
  · intro q hq
    simp only [List.mem_cons, List.mem_nil_iff, or_false] at hq
    rcases hq with rfl | rfl | rfl
    · exact small_prime (s := 2) (by decide +kernel)
    · exact small_prime (s := 2) (by decide +kernel)
    · exact small_prime (s := 3) (by decide +kernel)
  · intro m h
    have e : 2013265920 = 2 ^ 27 * 3 * 5 := by decide
    rw [e]
    exact Nat.Coprime.mul_right (Nat.Coprime.mul_right (cop_pow (h 2 (by simp)) 27) (h 3 (by simp))) (h 5 (by simp))
end Go.Proofs.YtohcoidbncbijaaDoor.P
/- What follows for numbers counted by a prime: no two that are not 0 have the product 0; each that is not 0 is undone; the power p less 1 is 1. -/
namespace Go.Proofs.YtohcoidbncbijaaDoor.P
theorem known_gen {p : Int} (hk : knownS p = true) : ∃ P g n : Nat, p = (P : Int) ∧ Gen P g n := by
  rcases knownS_cases hk with rfl | rfl | rfl
  · exact ⟨18446744069414584321, 7, 18446744069414584320, rfl, gen_P0⟩
  · exact ⟨998244353, 3, 998244352, rfl, gen_P1⟩
  · exact ⟨2013265921, 31, 2013265920, rfl, gen_P2⟩
/-- A number counted by p, as a natural number. -/
def nat (p a : Int) : Nat := (redS p a).toNat
theorem nat_eq (p a : Int) : ((nat p a : Nat) : Int) = redS p a := Int.toNat_of_nonneg (redS_lo p a)
theorem redS_nat {P : Nat} (hk : knownS (P : Int) = true) (x : Nat) : redS (P : Int) (x : Int) = ((x % P : Nat) : Int) := by rw [redS_known hk]; rfl
theorem redS_mul_zero {p a b : Int} (hk : knownS p = true) (h : redS p (a * b) = 0) : redS p a = 0 ∨ redS p b = 0 := by
  obtain ⟨P, g, n, rfl, G⟩ := known_gen hk
  rw [← redS_mul_left, ← redS_mul_right, ← nat_eq P a, ← nat_eq P b, ← Int.natCast_mul, redS_nat hk] at h
  have h1 := G.zero (nat P a) (nat P b) (by exact_mod_cast h)
  have e : ∀ x, redS (P : Int) x = ((nat P x % P : Nat) : Int) := fun x => by rw [← redS_nat hk, nat_eq, redS_redS]
  rw [e a, e b]
  rcases h1 with h1 | h1
  · left; rw [h1]; rfl
  · right; rw [h1]; rfl
theorem redS_cancel {p a b c : Int} (hk : knownS p = true) (ha : redS p a ≠ 0) (h : redS p (a * b) = redS p (a * c)) : redS p b = redS p c := by
  rw [redS_eq_iff hk]
  have h1 : redS p (a * (b - c)) = 0 := by
    rw [redS_eq_iff hk] at h
    rw [← redS_zero p, redS_eq_iff hk, Int.mul_sub, Int.sub_zero]
    exact h
  rcases redS_mul_zero hk h1 with h2 | h2
  · exact absurd h2 ha
  · rw [← redS_zero p, redS_eq_iff hk, Int.sub_zero] at h2
    exact h2
theorem redS_fermat {p a : Int} (hk : knownS p = true) (ha : redS p a ≠ 0) : redS p (a ^ (p - 1).toNat) = 1 := by
  obtain ⟨P, g, n, rfl, G⟩ := known_gen hk
  have hn : ((P : Int) - 1).toNat = n := by have := G.p_is; omega
  have hpow : ∀ k : Nat, redS (P : Int) (a ^ k) = redS P ((redS P a) ^ k) := by
    intro k
    induction k with
    | zero => rw [Int.pow_zero, Int.pow_zero]
    | succ k ih => rw [Int.pow_succ, Int.pow_succ, ← redS_mul_left, ih, redS_mul_left, redS_mul_right]
  rw [hn, hpow, ← nat_eq P a, ← Int.natCast_pow, redS_nat hk, G.fermat]
  · rfl
  · intro h0
    apply ha
    rw [← redS_redS, ← nat_eq P a, redS_nat hk, h0]; rfl
theorem one_red {p : Int} (hk : knownS p = true) : redS p 1 = 1 := redS_small hk (by omega) (known_pos hk).1
end Go.Proofs.YtohcoidbncbijaaDoor.P
/- Powers, plainly: what Pow's loop holds. Under no condition beside those of each lemma. -/
namespace Go.Proofs.YtohcoidbncbijaaDoor.P
open Go.RowKit
theorem bitLenAux_lt : ∀ (f x : Nat), x < 2 ^ f → x < 2 ^ Lib.bitLenAux f x ∧ Lib.bitLenAux f x ≤ f
  | 0, x, h => by simpa [Lib.bitLenAux] using h
  | f + 1, x, h => by
    unfold Lib.bitLenAux
    split
    · rename_i h0; subst h0; simp
    · have ih := bitLenAux_lt f (x / 2) (by rw [Nat.pow_succ] at h; omega)
      refine ⟨?_, by omega⟩
      rw [Nat.add_comm, Nat.pow_succ]
      omega
theorem bitLen_lt (x : Nat) (h : x < 2 ^ 64) : x < 2 ^ Lib.bitLen x ∧ Lib.bitLen x ≤ 64 := bitLenAux_lt 64 x h
/-- A power, counted by p. -/
def powS (p a : Int) (n : Nat) : Int := redS p (a ^ n)
theorem u64_powS (p a : Int) (n : Nat) : U64 (powS p a n) := u64_redS _ _
theorem powS_zero (p a : Int) : powS p a 0 = redS p 1 := by rw [powS, Int.pow_zero]
theorem powS_add (p a : Int) (n m : Nat) : powS p a (n + m) = mulS p (powS p a n) (powS p a m) := by
  unfold powS mulS; rw [Int.pow_add, redS_mul_left, redS_mul_right]
theorem powS_one (p a : Int) : powS p a 1 = redS p a := by unfold powS; rw [Int.pow_succ, Int.pow_zero, Int.one_mul]
theorem powS_double (p a : Int) (n : Nat) : mulS p (powS p a n) (powS p a n) = powS p a (2 * n) := by rw [Nat.two_mul, powS_add]
theorem powS_succ (p a : Int) (n : Nat) : mulS p (powS p a n) a = powS p a (n + 1) := by
  unfold powS mulS; rw [Int.pow_succ, redS_mul_left]
theorem powS_red (p a : Int) (n : Nat) : powS p (redS p a) n = powS p a n := by
  induction n with
  | zero => rw [powS_zero, powS_zero]
  | succ n ih => rw [← powS_succ, ← powS_succ, ih]; unfold mulS; rw [redS_mul_right]
theorem powS_mul (p a : Int) (n m : Nat) : powS p a (n * m) = powS p (powS p a n) m := by
  unfold powS
  rw [Int.pow_mul]
  exact (powS_red p (a ^ n) m).symm
theorem powS_base (p a b : Int) (n : Nat) : powS p (mulS p a b) n = mulS p (powS p a n) (powS p b n) := by
  unfold mulS
  rw [powS_red]
  unfold powS
  rw [Int.mul_pow, redS_mul_left, redS_mul_right]
theorem powS_pm {P a n : Nat} (hk : knownS (P : Int) = true) (h : n < 2 ^ 64) : powS (P : Int) (a : Int) n = ((pm P 64 a n : Nat) : Int) := by
  unfold powS
  rw [← Int.natCast_pow, redS_nat hk, pm_eq P 64 a n h]
/-- One round of Pow's loop: the bit k of n. -/
theorem bit_of (n k : Nat) : (n / 2 ^ k) = 2 * (n / 2 ^ (k + 1)) + (n / 2 ^ k) % 2 := by
  rw [Nat.pow_succ, ← Nat.div_div_eq_div_mul]; omega
end Go.Proofs.YtohcoidbncbijaaDoor.P
/- Slices as lists: what the cells of a slice hold, and that it stays so. Under no condition beside those of each lemma. -/
namespace Go.Proofs.YtohcoidbncbijaaDoor.P
open Go.RowKit

/-- The cells of whole numbers. -/
def nums (k : IntKind) (xs : List Int) : List Value := xs.map (Value.int k)
theorem nums_length (k : IntKind) (xs : List Int) : (nums k xs).length = xs.length := by simp [nums]
theorem nums_get (k : IntKind) (xs : List Int) (i : Nat) (h : i < xs.length) : (nums k xs)[i]? = some (.int k xs[i]) := by simp [nums, h]

/-- From the address on the cells hold these values. -/
def Row (w : World) (A : Option Addr) (cs : List Value) : Prop := cs = [] ∨ ∃ x, A = some x ∧ ∀ i u, cs[i]? = some u → w.cell? (x.add i) = some u
theorem Row.nil (w : World) (A : Option Addr) : Row w A [] := .inl rfl
theorem Row.cell {w : World} {x : Addr} {cs : List Value} (h : Row w (some x) cs) {i : Nat} {u : Value} (hi : cs[i]? = some u) : w.cell? (x.add i) = some u := by
  rcases h with rfl | ⟨y, hy, hc⟩
  · simp at hi
  · cases hy; exact hc i u hi
theorem Row.num {w : World} {x : Addr} {k : IntKind} {l : List Int} (h : Row w (some x) (nums k l)) {i : Nat} (hi : i < l.length) : w.cell? (x.add i) = some (.int k l[i]) :=
  h.cell (nums_get k l i hi)
theorem Row.of_same {w w' : World} {A : Option Addr} {cs : List Value} (h : Row w A cs) (hs : ∀ p v, w.cell? p = some v → w'.cell? p = some v) : Row w' A cs := by
  rcases h with h | ⟨x, hx, hc⟩
  · exact .inl h
  · exact .inr ⟨x, hx, fun i u hi => hs _ _ (hc i u hi)⟩
theorem Row.below {w w' : World} {A : Option Addr} {cs : List Value} (h : Row w A cs) (hb : Below w.heap.size w w') : Row w' A cs :=
  h.of_same fun p _ hp => (hb.cell (World.block_lt_of_cell? w p hp)).trans hp
theorem Row.drewN {w : World} {A : Option Addr} {cs : List Value} (h : Row w A cs) (n : Nat) : Row (w.drewN n) A cs := h
theorem Row.some_of {w : World} {A : Option Addr} {cs : List Value} (h : Row w A cs) (hne : cs ≠ []) : ∃ x, A = some x := by
  rcases h with h | ⟨x, hx, _⟩
  · exact absurd h hne
  · exact ⟨x, hx⟩
/-- Nothing but draws. -/
def Drawn0 (w w' : World) : Prop := ∃ n, w' = w.drewN n
theorem Drawn0.below {w w' : World} (h : Drawn0 w w') (B : Nat) : Below B w w' := by obtain ⟨n, rfl⟩ := h; exact ⟨rfl, rfl, rfl, Nat.le_refl _, fun _ _ => rfl⟩
theorem below_drewN {B : Nat} {w w' : World} (h : Below B w w') (n : Nat) : Below B w (w'.drewN n) := h.trans ⟨rfl, rfl, rfl, Nat.le_refl _, fun _ _ => rfl⟩
/-- A new block reads as what it was made of. -/
theorem row_new (w : World) (vs : List Value) (t : TypeId) : Row (w.alloc (.cells vs.toArray t)) (some ⟨w.heap.size, 0, none⟩) vs :=
  .inr ⟨_, rfl, fun i u hi => World.news_of_block (cs := vs.toArray) (t := t) (fr := (0, 0)) (heap_alloc_new w (.cells vs.toArray t)) i u (by simpa using hi)⟩
theorem cell_new1 (w : World) (v : Value) (t : TypeId) : (w.alloc (.cells #[v] t)).cell? ⟨w.heap.size, 0, none⟩ = some v :=
  World.news_of_block (cs := #[v]) (t := t) (fr := (0, 0)) (heap_alloc_new w (.cells #[v] t)) 0 v rfl
end Go.Proofs.YtohcoidbncbijaaDoor.P
/- Slices that a call has made: they read as lists, and stay so. Under no condition beside those of each lemma. -/
namespace Go.Proofs.YtohcoidbncbijaaDoor.P
open Go.RowKit

/-- A slice value whose row is the call's own (from block B on), with these cells; E: the element's type, s: its cells. -/
def Own (w : World) (B : Nat) (E : TypeId) (s : Nat) (A : Option Addr) (n c : Nat) (cs : List Value) : Prop := w.ownsRow B E s (.slice A n c) n cs
theorem Own.nil (w : World) (B : Nat) (E : TypeId) (s : Nat) : Own w B E s none 0 0 [] := World.ownsRow_nil w B E s
theorem Own.row {w : World} {B : Nat} {E : TypeId} {s : Nat} {A : Option Addr} {n c : Nat} {cs : List Value} (h : Own w B E s A n c cs) : Row w A cs := by
  cases cs with
  | nil => exact .inl rfl
  | cons v cs =>
    have h1 := h.1
    have hn : 0 < n := by
      rcases Nat.eq_zero_or_pos n with h0 | h0
      · subst h0; simp at h1
      · exact h0
    obtain ⟨g, cap, hv, _, _⟩ := World.ownsRow.form h hn
    cases hv
    exact .inr ⟨_, rfl, World.ownsRow.cells h rfl⟩
theorem Own.len {w : World} {B : Nat} {E : TypeId} {s : Nat} {A : Option Addr} {n c : Nat} {cs : List Value} (h : Own w B E s A n c cs) : cs.length = n * s := h.1
theorem Own.grown {w w' : World} {B : Nat} {E : TypeId} {s : Nat} {A : Option Addr} {n c : Nat} {cs : List Value} (h : Own w B E s A n c cs) (hb : Below w.heap.size w w') : Own w' B E s A n c cs := by
  refine World.ownsRow.kept (row := none) h ⟨hb.os, hb.tape, hb.output, hb.size, fun k hk _ => hb.block k hk⟩ ?_
  cases A with
  | none => exact .inl rfl
  | some a => exact .inr (by simp [Value.ownBlock])
theorem Own.drewN {w : World} {B : Nat} {E : TypeId} {s : Nat} {A : Option Addr} {n c : Nat} {cs : List Value} (h : Own w B E s A n c cs) (k : Nat) : Own (w.drewN k) B E s A n c cs := h
theorem Own.mono {w : World} {B B' : Nat} {E : TypeId} {s : Nat} {A : Option Addr} {n c : Nat} {cs : List Value} (h : Own w B E s A n c cs) (hB : B' ≤ B) : Own w B' E s A n c cs := by
  refine ⟨h.1, ?_⟩
  rcases h.2 with h2 | ⟨g, cap, cur, hv, hg, r⟩
  · exact .inl h2
  · exact .inr ⟨g, cap, cur, hv, Nat.le_trans hB hg, r⟩
theorem Own.cap {w : World} {B : Nat} {E : TypeId} {s : Nat} {A : Option Addr} {n c : Nat} {cs : List Value} (h : Own w B E s A n c cs) : n ≤ c ∧ c ≤ 9223372036854775807 := by
  rcases h.2 with ⟨hv, hn⟩ | ⟨g, cap, cur, hv, hg, hh, h1, h2, _⟩
  · cases hv; exact ⟨Nat.le_refl _, by omega⟩
  · cases hv; exact ⟨h1, by unfold maxLen at h2; omega⟩
/-- The zeros of a make. -/
theorem madeCells_one (v : Value) (n : Nat) : (madeCells #[v] n).toList = List.replicate n v := by
  apply List.ext_getElem
  · simp [madeCells]
  · intro i h1 h2; simp [madeCells, Nat.mod_one]
theorem own_made (w : World) (B : Nat) (E : TypeId) (v : Value) (n : Nat) (hB : B ≤ w.heap.size) (hn : n ≤ 9223372036854775807) :
    Own (w.alloc (.cells (madeCells #[v] n) E)) B E 1 (some ⟨w.heap.size, 0, none⟩) n n (List.replicate n v) := by
  refine ⟨by simp, .inr ⟨w.heap.size, n, madeCells #[v] n, rfl, hB, heap_alloc_new w _, Nat.le_refl _, by unfold maxLen; omega, by simp [madeCells], ?_⟩⟩
  rw [madeCells_one]; simp
theorem Own.cellAt {w : World} {B : Nat} {E : TypeId} {g n c : Nat} {cs : List Value} (h : Own w B E 1 (some ⟨g, 0, none⟩) n c cs) (j : Nat) (hj : j < n) : w.cell? ⟨g, j, none⟩ = cs[j]? :=
  World.ownsRow.cellAt h j (by omega)
theorem Own.frozenAt {w : World} {B : Nat} {E : TypeId} {s g n c : Nat} {cs : List Value} (h : Own w B E s (some ⟨g, 0, none⟩) n c cs) (j : Nat) : w.frozen? ⟨g, j, none⟩ = false :=
  World.ownsRow.frozenAt h j
theorem Own.stored {w : World} {B : Nat} {E : TypeId} {s g n c : Nat} {cs : List Value} (h : Own w B E s (some ⟨g, 0, none⟩) n c cs) (j : Nat) (u : Value) :
    Own (w.setCell ⟨g, j, none⟩ u) B E s (some ⟨g, 0, none⟩) n c (cs.set j u) := (World.ownsRow.stored h j u).1
theorem Own.base {w : World} {B : Nat} {E : TypeId} {s g n c : Nat} {cs : List Value} (h : Own w B E s (some ⟨g, 0, none⟩) n c cs) : B ≤ g ∧ g < w.heap.size := World.ownsRow.lt h g rfl
theorem nums_replicate (k : IntKind) (n : Nat) (v : Int) : List.replicate n (Value.int k v) = nums k (List.replicate n v) := by simp [nums]
theorem nums_set (k : IntKind) (l : List Int) (j : Nat) (v : Int) : (nums k l).set j (.int k v) = nums k (l.set j v) := by simp [nums, List.map_set]
/-- Draws ahead of a call don't matter to what the call leaves. -/
theorem below_pre {w w1 : World} {n : Nat} (h : Below (w.drewN n).heap.size (w.drewN n) w1) : Below w.heap.size w w1 :=
  ⟨h.os, h.tape, h.output, h.size, h.block⟩
end Go.Proofs.YtohcoidbncbijaaDoor.P
/- The radices of a size, plainly. Conditions: sizes up to 4096, each held against the definition by the kernel. -/
namespace Go.Proofs.YtohcoidbncbijaaDoor.P
set_option linter.unusedVariables false
/-- How often r divides n, up to f times. -/
def cnt : Nat → Nat → Nat → Nat
  | 0, _, _ => 0
  | f + 1, n, r => if n % r = 0 then cnt f (n / r) r + 1 else 0
def cn (n r : Nat) : Nat := cnt 12 n r
def leftN (n r : Nat) : Nat := n / r ^ cn n r
def lastL (e : Nat) : List Int := if 1 < e then [(e : Int)] else []
/-- What is still to be told at radix number i: 3, 5, what is left. -/
def tailI : Nat → Nat → List Int
  | 0, m => List.replicate (cn m 3) 3 ++ (List.replicate (cn (leftN m 3) 5) 5 ++ lastL (leftN (leftN m 3) 5))
  | 1, m => List.replicate (cn m 5) 5 ++ lastL (leftN m 5)
  | _, m => lastL m
theorem tail0 (m : Nat) : tailI 0 m = List.replicate (cn m 3) 3 ++ (List.replicate (cn (leftN m 3) 5) 5 ++ lastL (leftN (leftN m 3) 5)) := rfl
theorem tail1 (m : Nat) : tailI 1 m = List.replicate (cn m 5) 5 ++ lastL (leftN m 5) := rfl
theorem tail2 (m : Nat) : tailI 2 m = lastL m := rfl
def radI (i : Nat) : Nat := if i = 0 then 3 else 5
def twoL (t : Nat) : List Int := if t % 2 = 1 then [2] else []
def radL (n : Nat) : List Int := List.replicate (cn n 2 / 2) 4 ++ (twoL (cn n 2) ++ tailI 0 (n / 2 ^ cn n 2))
theorem cn_no {n r : Nat} (h : n % r ≠ 0) : cn n r = 0 := by unfold cn; rw [cnt, if_neg h]
theorem leftN_no {n r : Nat} (h : n % r ≠ 0) : leftN n r = n := by unfold leftN; rw [cn_no h]; simp
def upB (k : Nat) (f : Nat → Bool) : Bool := (List.range k).all f
theorem upB_spec {k : Nat} {f : Nat → Bool} (h : upB k f = true) {n : Nat} (hn : n < k) : f n = true := (List.all_eq_true.1 h) n (List.mem_range.2 hn)
theorem fac_tz_all : upB 4097 (fun n => n == 0 || Lib.ctz 64 n == cn n 2) = true := by decide +kernel
theorem fac_tz {n : Nat} (h0 : 0 < n) (h : n ≤ 4096) : Lib.ctz 64 n = cn n 2 := by
  have h1 := upB_spec fac_tz_all (n := n) (by omega)
  simp only [Bool.or_eq_true, beq_iff_eq] at h1
  rcases h1 with h1 | h1
  · omega
  · exact h1
theorem fac_div_all : upB 4097 (fun n => n == 0 || ((n % 3 != 0 || (cn n 3 == cn (n / 3) 3 + 1 && leftN n 3 == leftN (n / 3) 3)) && (n % 5 != 0 || (cn n 5 == cn (n / 5) 5 + 1 && leftN n 5 == leftN (n / 5) 5)))) = true := by decide +kernel
theorem fac_div {n : Nat} (h0 : 0 < n) (h : n ≤ 4096) : (n % 3 = 0 → cn n 3 = cn (n / 3) 3 + 1 ∧ leftN n 3 = leftN (n / 3) 3) ∧ (n % 5 = 0 → cn n 5 = cn (n / 5) 5 + 1 ∧ leftN n 5 = leftN (n / 5) 5) := by
  have h1 := upB_spec fac_div_all (n := n) (by omega)
  simp only [Bool.or_eq_true, Bool.and_eq_true, beq_iff_eq, bne_iff_ne, ne_eq] at h1
  rcases h1 with h1 | ⟨h1, h2⟩
  · omega
  · exact ⟨fun e => h1.resolve_left (fun c => c e), fun e => h2.resolve_left (fun c => c e)⟩
theorem tailI_yes {i m : Nat} (hi : i < 2) (h0 : 0 < m) (h : m ≤ 4096) (hd : m % radI i = 0) : tailI i m = (radI i : Int) :: tailI i (m / radI i) := by
  have hf := fac_div h0 h
  match i, hi with
  | 0, _ =>
    obtain ⟨e1, e2⟩ := hf.1 hd
    show tailI 0 m = 3 :: tailI 0 (m / 3)
    rw [tail0, tail0, e1, e2]; rfl
  | 1, _ =>
    obtain ⟨e1, e2⟩ := hf.2 hd
    show tailI 1 m = 5 :: tailI 1 (m / 5)
    rw [tail1, tail1, e1, e2]; rfl
theorem tailI_no {i m : Nat} (hi : i < 2) (hd : m % radI i ≠ 0) : tailI i m = tailI (i + 1) m := by
  match i, hi with
  | 0, _ => rw [tail0, cn_no (r := 3) hd, leftN_no (r := 3) hd]; rfl
  | 1, _ => rw [tail1, cn_no (r := 5) hd, leftN_no (r := 5) hd]; rfl
theorem fac_pos {i m : Nat} (h0 : 0 < m) (h : m ≤ 4096) (hd : m % radI i = 0) : 0 < m / radI i ∧ m / radI i ≤ 4096 ∧ m / radI i < m := by
  have h2 : 2 ≤ radI i := by unfold radI; split <;> omega
  have h1 := Nat.div_add_mod m (radI i)
  rw [hd] at h1
  have h3 : m / radI i < m := Nat.div_lt_self h0 h2
  refine ⟨?_, by omega, h3⟩
  rcases Nat.eq_zero_or_pos (m / radI i) with h4 | h4
  · rw [h4] at h1; omega
  · exact h4
theorem fac_odd_all : upB 4097 (fun n => n == 0 || (cn n 2 ≤ 12 && 0 < n / 2 ^ cn n 2 && n / 2 ^ cn n 2 ≤ 4096 && (radL n).length ≤ 12)) = true := by decide +kernel
theorem fac_odd {n : Nat} (h0 : 0 < n) (h : n ≤ 4096) : cn n 2 ≤ 12 ∧ 0 < n / 2 ^ cn n 2 ∧ n / 2 ^ cn n 2 ≤ 4096 ∧ (radL n).length ≤ 12 := by
  have h1 := upB_spec fac_odd_all (n := n) (by omega)
  simp only [Bool.or_eq_true, Bool.and_eq_true, beq_iff_eq, decide_eq_true_eq] at h1
  rcases h1 with h1 | h1
  · omega
  · exact ⟨h1.1.1.1, h1.1.1.2, h1.1.2, h1.2⟩
/-- What Radices tells: the list, and the error's number. -/
def facS (n : Int) : List Int × Int := if 1 ≤ n ∧ n ≤ 4096 then (if ∀ r ∈ radL n.toNat, r ≤ 5 then (radL n.toNat, 0) else ([], 4)) else ([], 4)
def smoothS (n : Int) : Bool := (facS n).2 == 0
end Go.Proofs.YtohcoidbncbijaaDoor.P
