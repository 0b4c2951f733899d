/- Orders, plainly: what package root's Order looks for. Under no condition beside those of each lemma. -/
import Derived.Test.YtkofhmiakfmcaaaPow0
namespace Go.Proofs.Ytkofhmiakfmcaaa.P
set_option linter.unusedVariables false
/-- a's power n is 1, and none ahead of it. -/
def IsOrd (p a : Int) (n : Nat) : Prop := powS p a n = 1 ∧ ∀ k, k < n → 0 < k → powS p a k ≠ 1
instance (p a : Int) (n : Nat) : Decidable (IsOrd p a n) := by unfold IsOrd; exact inferInstance
/-- What Order's loop holds: what is left, and the next number that is tried. -/
structure Sieve (p a : Int) (n left q : Nat) : Prop where
  q2 : 2 ≤ q
  l1 : 1 ≤ left
  dvd : left ∣ n
  few : ∀ d, 2 ≤ d → d < q → ¬ d ∣ left
  met : ∀ m, m ∣ n → 1 < m → (∃ d, 1 < d ∧ d ∣ m ∧ d ∣ left) ∨ (∃ d, 1 < d ∧ d ∣ m ∧ powS p a (n / d) ≠ 1)
theorem Sieve.start {p a : Int} {n : Nat} (hn : 1 ≤ n) : Sieve p a n n 2 :=
  ⟨Nat.le_refl _, hn, Nat.dvd_refl _, fun d h1 h2 => absurd h2 (by omega), fun m hm h1 => .inl ⟨m, h1, Nat.dvd_refl _, hm⟩⟩
theorem Sieve.le {p a : Int} {n left q : Nat} (h : Sieve p a n left q) (hl : 1 < left) : q ≤ left := by
  rcases Nat.lt_or_ge left q with h1 | h1
  · exact absurd (Nat.dvd_refl left) (h.few left hl h1)
  · exact h1
theorem Sieve.le_n {p a : Int} {n left q : Nat} (h : Sieve p a n left q) (hn : 1 ≤ n) : left ≤ n := Nat.le_of_dvd hn h.dvd
theorem Sieve.skip {p a : Int} {n left q : Nat} (h : Sieve p a n left q) (hq : left % q ≠ 0) : Sieve p a n left (q + 1) :=
  ⟨by have := h.q2; omega, h.l1, h.dvd, fun d h1 h2 => by
    by_cases e : d = q
    · subst e; exact fun hd => hq (Nat.mod_eq_zero_of_dvd hd)
    · exact h.few d h1 (by omega), h.met⟩
theorem Sieve.take {p a : Int} {n left q j l2 : Nat} (h : Sieve p a n left q) (hq : left % q = 0) (hj : left = q ^ j * l2) (hl : l2 % q ≠ 0) (hp : powS p a (n / q) ≠ 1) : Sieve p a n l2 (q + 1) := by
  have hd : l2 ∣ left := ⟨q ^ j, by rw [hj, Nat.mul_comm]⟩
  have hprime : ∀ d, d ∣ q → d = 1 ∨ d = q := by
    intro d hdq
    have hdl : d ∣ left := Nat.dvd_trans hdq (Nat.dvd_of_mod_eq_zero hq)
    have hle := Nat.le_of_dvd (by have := h.q2; omega) hdq
    by_cases e : d = q
    · exact .inr e
    · by_cases h2 : 2 ≤ d
      · exact absurd hdl (h.few d h2 (by omega))
      · left
        have : d ≠ 0 := fun h0 => by subst h0; have := h.q2; have := Nat.eq_zero_of_zero_dvd hdq; omega
        omega
  refine ⟨by have := h.q2; omega, ?_, Nat.dvd_trans hd h.dvd, ?_, ?_⟩
  · rcases Nat.eq_zero_or_pos l2 with h0 | h0
    · subst h0; simp at hl
    · exact h0
  · intro d h1 h2 hdl
    by_cases e : d = q
    · subst e; exact hl (Nat.mod_eq_zero_of_dvd hdl)
    · exact h.few d h1 (by omega) (Nat.dvd_trans hdl hd)
  · intro m hm h1
    rcases h.met m hm h1 with ⟨d, hd1, hdm, hdl⟩ | h2
    · rcases hprime (Nat.gcd d q) (Nat.gcd_dvd_right d q) with hg | hg
      · left
        refine ⟨d, hd1, hdm, ?_⟩
        rw [hj] at hdl
        exact Nat.Coprime.dvd_of_dvd_mul_left (Nat.Coprime.pow_right j hg) hdl
      · right
        have hqd : q ∣ d := by rw [← hg]; exact Nat.gcd_dvd_left d q
        exact ⟨q, by have := h.q2; omega, Nat.dvd_trans hqd hdm, hp⟩
    · exact .inr h2
theorem powS_one_mul {p a : Int} {n : Nat} (h1 : redS p 1 = 1) (h : powS p a n = 1) (k : Nat) : powS p a (n * k) = 1 := by
  rw [powS_mul, h]
  unfold powS
  rw [Int.one_pow]; exact h1
theorem Sieve.done {p a : Int} {n left q : Nat} (h : Sieve p a n left q) (hl : left ≤ 1) (h1 : redS p 1 = 1) (hn : 1 ≤ n) (hp : powS p a n = 1) : IsOrd p a n := by
  refine ⟨hp, ?_⟩
  intro k hkn hk0 hk
  obtain ⟨d, ⟨hd0, hdn, hdg⟩, hmin⟩ : ∃ d, (0 < d ∧ d < n ∧ powS p a d = 1) ∧ ∀ e, 0 < e → e < d → powS p a e ≠ 1 := by
    induction k using Nat.strongRecOn with
    | ind k ih =>
      by_cases hx : ∃ e, 0 < e ∧ e < k ∧ powS p a e = 1
      · obtain ⟨e, he0, hek, heg⟩ := hx
        exact ih e hek (by omega) he0 heg
      · exact ⟨k, ⟨hk0, hkn, hk⟩, fun e he0 hek h => hx ⟨e, he0, hek, h⟩⟩
  have hdvd : d ∣ n := by
    have e : n = d * (n / d) + n % d := (Nat.div_add_mod n d).symm
    have h2 : powS p a (n % d) = 1 := by
      have h3 := hp
      rw [e, powS_add, powS_one_mul h1 hdg] at h3
      unfold mulS at h3
      rw [Int.one_mul] at h3
      unfold powS at h3 ⊢
      rwa [redS_redS] at h3
    by_cases hz : n % d = 0
    · exact Nat.dvd_of_mod_eq_zero hz
    · exact absurd h2 (hmin _ (by omega) (Nat.mod_lt _ hd0))
  obtain ⟨m, hm⟩ := hdvd
  have hm1 : 1 < m := by
    rcases Nat.lt_or_ge 1 m with h | h
    · exact h
    · have : d * m ≤ d * 1 := Nat.mul_le_mul_left d h
      omega
  rcases h.met m ⟨d, by rw [hm, Nat.mul_comm]⟩ hm1 with ⟨c, hc1, _, hcl⟩ | ⟨c, hc1, ⟨r, hr⟩, hc⟩
  · have := Nat.le_of_dvd (by have := h.l1; omega) hcl
    omega
  · apply hc
    have : n / c = d * r := by rw [hm, hr, Nat.mul_left_comm, Nat.mul_div_cancel_left _ (by omega)]
    rw [this]; exact powS_one_mul h1 hdg r
theorem Sieve.no {p a : Int} {n left q : Nat} (h : Sieve p a n left q) (hq : left % q = 0) (hn : 1 ≤ n) (hp : powS p a (n / q) = 1) : ¬ IsOrd p a n := by
  intro ⟨_, ho⟩
  have hqn : q ∣ n := Nat.dvd_trans (Nat.dvd_of_mod_eq_zero hq) h.dvd
  have h2 := h.q2
  have hlt : n / q < n := Nat.div_lt_self (by omega) (by omega)
  have hpos : 0 < n / q := Nat.div_pos (Nat.le_of_dvd hn hqn) (by omega)
  exact ho _ hlt hpos hp
end Go.Proofs.Ytkofhmiakfmcaaa.P
