/- The three primes are primes: each has a number whose powers are all numbers but 0. Plain arithmetic, under no condition beside those of each lemma. -/
import Derived.Test.YtkofhmiakfmcaaaLib0
namespace Go.Proofs.Ytkofhmiakfmcaaa.P

/-- An injective map of what lies below n into itself meets all of it. -/
theorem pigeon : ∀ (n : Nat) (f : Nat → Nat), (∀ i, i < n → f i < n) → (∀ i j, i < n → j < n → f i = f j → i = j) → ∀ a, a < n → ∃ i, i < n ∧ f i = a
  | 0, _, _, _, a, ha => absurd ha (Nat.not_lt_zero a)
  | n + 1, f, hf, inj, a, ha => by
    by_cases hn : f n = n
    · by_cases e : a = n
      · exact ⟨n, by omega, by omega⟩
      · obtain ⟨i, hi, hia⟩ := pigeon n f (fun i hi => by
            have h1 := hf i (by omega)
            have h2 : f i ≠ n := fun h => by have := inj i n (by omega) (by omega) (h.trans hn.symm); omega
            omega) (fun i j hi hj h => inj i j (by omega) (by omega) h) a (by omega)
        exact ⟨i, by omega, hia⟩
    · have hm := hf n (by omega)
      obtain ⟨g, hg⟩ : ∃ g : Nat → Nat, ∀ j, g j = if f j = n then f n else f j := ⟨_, fun _ => rfl⟩
      have key := pigeon n g (fun i hi => by
          have h1 := hf i (by omega)
          rw [hg]; split <;> omega) (fun i j hi hj h => by
          rw [hg, hg] at h
          have h3 : ∀ k, k < n → f k ≠ f n := fun k hk h => by have := inj k n (by omega) (by omega) h; omega
          split at h <;> split at h
          · rename_i e1 e2; exact inj i j (by omega) (by omega) (e1.trans e2.symm)
          · exact absurd h.symm (h3 j hj)
          · exact absurd h (h3 i hi)
          · exact inj i j (by omega) (by omega) h)
      by_cases e : a = n
      · obtain ⟨i, hi, hia⟩ := key (f n) (by omega)
        rw [hg] at hia
        split at hia
        · rename_i e1; exact ⟨i, by omega, by omega⟩
        · have := inj i n (by omega) (by omega) hia; omega
      · obtain ⟨i, hi, hia⟩ := key a (by omega)
        rw [hg] at hia
        split at hia
        · exact ⟨n, by omega, hia⟩
        · exact ⟨i, by omega, hia⟩

/-- A power counted by m, quickly. -/
def pm (m : Nat) : Nat → Nat → Nat → Nat
  | 0, _, _ => 1 % m
  | f + 1, b, e => if e % 2 = 1 then b * pm m f (b * b % m) (e / 2) % m else pm m f (b * b % m) (e / 2)
theorem pm_eq (m : Nat) : ∀ (f b e : Nat), e < 2 ^ f → pm m f b e = b ^ e % m
  | 0, b, e, h => by
    have : e = 0 := by simpa using h
    subst this; simp [pm]
  | f + 1, b, e, h => by
    have ih := pm_eq m f (b * b % m) (e / 2) (by rw [Nat.pow_succ] at h; omega)
    have h1 : (b * b % m) ^ (e / 2) % m = b ^ (2 * (e / 2)) % m := by
      rw [← Nat.pow_mod, Nat.pow_mul, Nat.pow_two]
    rw [pm, ih, h1]
    split
    · rename_i ho
      have he : e = 2 * (e / 2) + 1 := by omega
      conv => rhs; rw [he, Nat.pow_succ]
      rw [Nat.mul_mod, Nat.mod_mod, ← Nat.mul_mod, Nat.mul_comm]
    · have he : e = 2 * (e / 2) := by omega
      conv => rhs; rw [he]

theorem prime_of_sqrt (q s : Nat) (hs : q < s * s) (h : ∀ d, d < s → 2 ≤ d → q % d ≠ 0) (hq : 0 < q) : ∀ d, d ∣ q → d = 1 ∨ d = q := by
  intro d ⟨e, he⟩
  have hd0 : d ≠ 0 := fun h0 => by subst h0; omega
  have he0 : e ≠ 0 := fun h0 => by subst h0; omega
  by_cases hd : d < s
  · by_cases h2 : 2 ≤ d
    · exact absurd (by rw [he]; exact Nat.mul_mod_right d e) (h d hd h2)
    · left; omega
  · by_cases hes : e < s
    · by_cases h2 : 2 ≤ e
      · exact absurd (by rw [he]; exact Nat.mul_mod_left d e) (h e hes h2)
      · have : e = 1 := by omega
        subst this; right; omega
    · have := Nat.mul_le_mul (Nat.le_of_not_lt hd) (Nat.le_of_not_lt hes); omega

/-- g's powers below n are all others than 1, and its power n is 1, counted by n + 1. -/
structure Gen (p g n : Nat) : Prop where
  p_is : p = n + 1
  n_pos : 0 < n
  one : g ^ n % p = 1
  no : ∀ k, 0 < k → k < n → g ^ k % p ≠ 1

theorem pow_mod_mul {p g a b : Nat} (h : g ^ a % p = 1) : g ^ (a * b) % p = 1 % p := by
  rw [Nat.pow_mul, Nat.pow_mod, h, Nat.one_pow]
theorem gen_of (p g n : Nat) (qs : List Nat) (hp : p = n + 1) (hn : 0 < n) (h1 : g ^ n % p = 1) (hq : ∀ q ∈ qs, 0 < q ∧ g ^ (n / q) % p ≠ 1)
    (hf : ∀ m, m ∣ n → 1 < m → ∃ q ∈ qs, q ∣ m) : Gen p g n := by
  refine ⟨hp, hn, h1, ?_⟩
  have h1p : 1 % p = 1 := Nat.mod_eq_of_lt (by omega)
  -- the least one
  intro k hk hkn hg
  obtain ⟨d, ⟨hd0, hdn, hdg⟩, hmin⟩ : ∃ d, (0 < d ∧ d < n ∧ g ^ d % p = 1) ∧ ∀ e, 0 < e → e < d → g ^ e % p ≠ 1 := by
    induction k using Nat.strongRecOn with
    | ind k ih =>
      by_cases hx : ∃ e, 0 < e ∧ e < k ∧ g ^ e % p = 1
      · obtain ⟨e, he0, hek, heg⟩ := hx
        exact ih e hek he0 (by omega) heg
      · exact ⟨k, ⟨hk, hkn, hg⟩, fun e he0 hek h => hx ⟨e, he0, hek, h⟩⟩
  have hdvd : d ∣ n := by
    have e : n = d * (n / d) + n % d := (Nat.div_add_mod n d).symm
    have h2 : g ^ (n % d) % p = 1 := by
      rw [e, Nat.pow_add, Nat.mul_mod, pow_mod_mul hdg, h1p, Nat.one_mul, Nat.mod_mod] at h1
      exact h1
    by_cases hz : n % d = 0
    · exact Nat.dvd_of_mod_eq_zero hz
    · exact absurd h2 (hmin _ (by omega) (Nat.mod_lt _ hd0))
  obtain ⟨m, hm⟩ := hdvd
  have hm1 : 1 < m := by
    rcases Nat.lt_or_ge 1 m with h | h
    · exact h
    · have : d * m ≤ d * 1 := Nat.mul_le_mul_left d h
      omega
  obtain ⟨q, hqs, r, hr⟩ := hf m ⟨d, by rw [hm, Nat.mul_comm]⟩ hm1
  obtain ⟨hq0, hq1⟩ := hq q hqs
  apply hq1
  have : n / q = d * r := by rw [hm, hr, Nat.mul_left_comm, Nat.mul_div_cancel_left _ hq0]
  rw [this, pow_mod_mul hdg, h1p]

theorem Gen.gt {p g n : Nat} (h : Gen p g n) : 1 < p := by have := h.p_is; have := h.n_pos; omega
theorem Gen.mod {p g n : Nat} (h : Gen p g n) (k : Nat) : g ^ k % p = g ^ (k % n) % p := by
  have h1p : 1 % p = 1 := Nat.mod_eq_of_lt h.gt
  conv => lhs; rw [← Nat.div_add_mod k n, Nat.pow_add, Nat.mul_mod, pow_mod_mul h.one, h1p, Nat.one_mul, Nat.mod_mod]
theorem Gen.one_iff {p g n : Nat} (h : Gen p g n) (k : Nat) : g ^ k % p = 1 ↔ n ∣ k := by
  constructor
  · intro hk
    rw [h.mod] at hk
    by_cases hz : k % n = 0
    · exact Nat.dvd_of_mod_eq_zero hz
    · exact absurd hk (h.no _ (by omega) (Nat.mod_lt _ h.n_pos))
  · rintro ⟨r, rfl⟩
    rw [pow_mod_mul h.one]; exact Nat.mod_eq_of_lt h.gt
/-- Each power has one that undoes it. -/
theorem Gen.undo {p g n : Nat} (h : Gen p g n) (i : Nat) : ∃ j, g ^ i * g ^ j % p = 1 := by
  have := h.n_pos
  refine ⟨n - i % n, ?_⟩
  rw [← Nat.pow_add, h.one_iff]
  refine ⟨i / n + 1, ?_⟩
  have h1 := Nat.div_add_mod i n
  have h2 := Nat.mod_lt i h.n_pos
  rw [Nat.mul_add, Nat.mul_one]; omega
theorem Gen.inj {p g n : Nat} (h : Gen p g n) : ∀ i j, i < n → j < n → g ^ i % p = g ^ j % p → i = j := by
  have key : ∀ i j, i ≤ j → i < n → j < n → g ^ i % p = g ^ j % p → i = j := by
    intro i j hij hi hj he
    obtain ⟨k, hk⟩ := h.undo i
    have h1 : g ^ (j - i) % p = 1 := by
      have h2 : g ^ j * g ^ k % p = 1 := by rw [Nat.mul_mod, ← he, ← Nat.mul_mod]; exact hk
      rw [show g ^ j = g ^ (j - i) * g ^ i from by rw [← Nat.pow_add]; congr 1; omega, Nat.mul_assoc, Nat.mul_mod, hk, Nat.mul_one, Nat.mod_mod] at h2
      exact h2
    rw [h.one_iff] at h1
    obtain ⟨r, hr⟩ := h1
    rcases Nat.eq_zero_or_pos r with h0 | h0
    · subst h0; omega
    · have := Nat.le_mul_of_pos_right n h0; omega
  intro i j hi hj he
  rcases Nat.le_total i j with h1 | h1
  · exact key i j h1 hi hj he
  · exact (key j i h1 hj hi he.symm).symm
theorem Gen.pos {p g n : Nat} (h : Gen p g n) (i : Nat) : g ^ i % p ≠ 0 := by
  intro h0
  obtain ⟨j, hj⟩ := h.undo i
  rw [Nat.mul_mod, h0, Nat.zero_mul, Nat.zero_mod] at hj
  omega
/-- All numbers but 0 are powers. -/
theorem Gen.all {p g n : Nat} (h : Gen p g n) (a : Nat) (ha : a % p ≠ 0) : ∃ i, i < n ∧ g ^ i % p = a % p := by
  have hp := h.p_is
  have hlt := Nat.mod_lt a (show 0 < p by have := h.gt; omega)
  obtain ⟨i, hi, he⟩ := pigeon n (fun i => g ^ i % p - 1) (fun i hi => by
      have h1 := Nat.mod_lt (g ^ i) (show 0 < p by have := h.gt; omega)
      have h2 := h.pos i
      show g ^ i % p - 1 < n
      omega) (fun i j hi hj he => h.inj i j hi hj (by
      have h1 := h.pos i
      have h2 := h.pos j
      have he' : g ^ i % p - 1 = g ^ j % p - 1 := he
      omega)) (a % p - 1) (by omega)
  have h1 := h.pos i
  have he' : g ^ i % p - 1 = a % p - 1 := he
  exact ⟨i, hi, by omega⟩
theorem Gen.inv {p g n : Nat} (h : Gen p g n) (a : Nat) (ha : a % p ≠ 0) : ∃ b, a * b % p = 1 := by
  obtain ⟨i, _, hi⟩ := h.all a ha
  obtain ⟨j, hj⟩ := h.undo i
  exact ⟨g ^ j, by rw [Nat.mul_mod, ← hi, ← Nat.mul_mod]; exact hj⟩
theorem Gen.zero {p g n : Nat} (h : Gen p g n) (a b : Nat) (hab : a * b % p = 0) : a % p = 0 ∨ b % p = 0 := by
  by_cases ha : a % p = 0
  · exact .inl ha
  · right
    obtain ⟨c, hc⟩ := h.inv a ha
    have h1 : a * b * c % p = 0 := by rw [Nat.mul_mod, hab, Nat.zero_mul, Nat.zero_mod]
    rw [show a * b * c = a * c * b from by rw [Nat.mul_assoc, Nat.mul_comm b c, ← Nat.mul_assoc], Nat.mul_mod, hc, Nat.one_mul, Nat.mod_mod] at h1
    exact h1
theorem Gen.fermat {p g n : Nat} (h : Gen p g n) (a : Nat) (ha : a % p ≠ 0) : a ^ n % p = 1 := by
  obtain ⟨i, _, hi⟩ := h.all a ha
  rw [Nat.pow_mod, ← hi, ← Nat.pow_mod, ← Nat.pow_mul, h.one_iff]
  exact ⟨i, Nat.mul_comm _ _⟩
theorem factors_of (n : Nat) (qs : List Nat) (hq : ∀ q ∈ qs, ∀ d, d ∣ q → d = 1 ∨ d = q) (hn : ∀ m, (∀ q ∈ qs, Nat.Coprime m q) → Nat.Coprime m n) : ∀ m, m ∣ n → 1 < m → ∃ q ∈ qs, q ∣ m := by
  intro m hm h1
  apply Classical.byContradiction
  intro hno
  have hc : ∀ q ∈ qs, Nat.Coprime m q := by
    intro q hqs
    rcases hq q hqs (Nat.gcd m q) (Nat.gcd_dvd_right m q) with h | h
    · exact h
    · exact absurd ⟨q, hqs, by rw [← h]; exact Nat.gcd_dvd_left m q⟩ hno
  have h2 := Nat.Coprime.eq_one_of_dvd (hn m hc) hm
  omega
theorem small_prime {q s : Nat} (h : (decide (q < s * s) && (List.range s).all (fun d => decide (d < 2) || decide (q % d ≠ 0)) && decide (0 < q)) = true) : ∀ d, d ∣ q → d = 1 ∨ d = q := by
  simp only [Bool.and_eq_true, decide_eq_true_eq, List.all_eq_true, List.mem_range, Bool.or_eq_true] at h
  obtain ⟨⟨h1, h2⟩, h3⟩ := h
  exact prime_of_sqrt q s h1 (fun d hd h => by rcases h2 d hd with h' | h' <;> omega) h3
theorem cop_pow {m q : Nat} (h : Nat.Coprime m q) (k : Nat) : Nat.Coprime m (q ^ k) := Nat.Coprime.pow_right k h

theorem gen_of_pm (p g n : Nat) (qs : List Nat) (hp : p = n + 1) (hn : 0 < n) (hb : n < 2 ^ 64) (h1 : pm p 64 g n = 1) (hq : ∀ q ∈ qs, 0 < q ∧ pm p 64 g (n / q) ≠ 1)
    (hf : ∀ m, m ∣ n → 1 < m → ∃ q ∈ qs, q ∣ m) : Gen p g n :=
  gen_of p g n qs hp hn (by rw [← pm_eq p 64 g n hb]; exact h1) (fun q h => ⟨(hq q h).1, by rw [← pm_eq p 64 g (n / q) (Nat.lt_of_le_of_lt (Nat.div_le_self _ _) hb)]; exact (hq q h).2⟩) hf

theorem gen_P0 : Gen 18446744069414584321 7 18446744069414584320 := by
  refine gen_of_pm _ _ _ [2, 3, 5, 17, 257, 65537] rfl (by decide) (by decide) ?_ ?_ (factors_of _ _ ?_ ?_)
  · decide +kernel
  · intro q hq
    simp only [List.mem_cons, List.mem_nil_iff, or_false] at hq
    rcases hq with rfl | rfl | rfl | rfl | rfl | rfl <;> exact ⟨by decide, by decide +kernel⟩
  · intro q hq
    simp only [List.mem_cons, List.mem_nil_iff, or_false] at hq
    rcases hq with rfl | rfl | rfl | rfl | rfl | rfl
    · exact small_prime (s := 2) (by decide +kernel)
    · exact small_prime (s := 2) (by decide +kernel)
    · exact small_prime (s := 3) (by decide +kernel)
    · exact small_prime (s := 5) (by decide +kernel)
    · exact small_prime (s := 17) (by decide +kernel)
    · exact small_prime (s := 257) (by decide +kernel)
  · intro m h
    have e : 18446744069414584320 = 2 ^ 32 * 3 * 5 * 17 * 257 * 65537 := by decide
    rw [e]
    exact Nat.Coprime.mul_right (Nat.Coprime.mul_right (Nat.Coprime.mul_right (Nat.Coprime.mul_right (Nat.Coprime.mul_right (cop_pow (h 2 (by simp)) 32) (h 3 (by simp))) (h 5 (by simp))) (h 17 (by simp))) (h 257 (by simp))) (h 65537 (by simp))
theorem gen_P1 : Gen 998244353 3 998244352 := by
  refine gen_of_pm _ _ _ [2, 7, 17] rfl (by decide) (by decide) ?_ ?_ (factors_of _ _ ?_ ?_)
  · decide +kernel
  · intro q hq
    simp only [List.mem_cons, List.mem_nil_iff, or_false] at hq
    rcases hq with rfl | rfl | rfl <;> exact ⟨by decide, by decide +kernel⟩
  · intro q hq
    simp only [List.mem_cons, List.mem_nil_iff, or_false] at hq
    rcases hq with rfl | rfl | rfl
    · exact small_prime (s := 2) (by decide +kernel)
    · exact small_prime (s := 3) (by decide +kernel)
    · exact small_prime (s := 5) (by decide +kernel)
  · intro m h
    have e : 998244352 = 2 ^ 23 * 7 * 17 := by decide
    rw [e]
    exact Nat.Coprime.mul_right (Nat.Coprime.mul_right (cop_pow (h 2 (by simp)) 23) (h 7 (by simp))) (h 17 (by simp))
theorem gen_P2 : Gen 2013265921 31 2013265920 := by
  refine gen_of_pm _ _ _ [2, 3, 5] rfl (by decide) (by decide) ?_ ?_ (factors_of _ _ ?_ ?_)
  · decide +kernel
  · intro q hq
    simp only [List.mem_cons, List.mem_nil_iff, or_false] at hq
    rcases hq with rfl | rfl | rfl <;> exact ⟨by decide, by decide +kernel⟩
  · intro q hq
    simp only [List.mem_cons, List.mem_nil_iff, or_false] at hq
    rcases hq with rfl | rfl | rfl
    · exact small_prime (s := 2) (by decide +kernel)
    · exact small_prime (s := 2) (by decide +kernel)
    · exact small_prime (s := 3) (by decide +kernel)
  · intro m h
    have e : 2013265920 = 2 ^ 27 * 3 * 5 := by decide
    rw [e]
    exact Nat.Coprime.mul_right (Nat.Coprime.mul_right (cop_pow (h 2 (by simp)) 27) (h 3 (by simp))) (h 5 (by simp))
end Go.Proofs.Ytkofhmiakfmcaaa.P
