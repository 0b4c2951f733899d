/- Roots, plainly: what the root of an order is. Under no condition beside those of each lemma. -/
import Derived.Test.YtkofhmiakfmcaaaRoot2
import Derived.Test.YtkofhmiakfmcaaaLawPs
namespace Go.Proofs.Ytkofhmiakfmcaaa.P
set_option linter.unusedVariables false
theorem known_gen2 {p : Int} (hk : knownS p = true) : ∃ P g n : Nat, p = (P : Int) ∧ genS p = (g : Int) ∧ P = n + 1 ∧ Gen P g n := by
  rcases knownS_cases hk with rfl | rfl | rfl
  · exact ⟨18446744069414584321, 7, 18446744069414584320, rfl, rfl, rfl, gen_P0⟩
  · exact ⟨998244353, 3, 998244352, rfl, rfl, rfl, gen_P1⟩
  · exact ⟨2013265921, 31, 2013265920, rfl, rfl, rfl, gen_P2⟩
theorem powS_gen {p : Int} (hk : knownS p = true) (k : Nat) : powS p (genS p) k = 1 ↔ (p - 1).toNat ∣ k := by
  obtain ⟨P, g, n, rfl, hg, hn, G⟩ := known_gen2 hk
  rw [hg]
  unfold powS
  rw [← Int.natCast_pow, redS_nat hk, show ((P : Int) - 1).toNat = n from by omega, ← G.one_iff k]
  omega
/-- The root of order n, where there is one. -/
structure IsRoot (p w : Int) (n : Nat) : Prop where
  known : knownS p = true
  n1 : 1 ≤ n
  n2 : n ≤ 8192
  dvd : n ∣ (p - 1).toNat
  is : w = powS p (genS p) ((p - 1).toNat / n)
theorem rootS_is {p n : Int} (h : (rootS p n).2 = 0) : ∃ N : Nat, n = (N : Int) ∧ IsRoot p (rootS p n).1 N := by
  by_cases hr : readyS p n = 0
  · obtain ⟨hk, n0, n1⟩ := ready_ok hr
    obtain ⟨N, rfl⟩ := Int.eq_ofNat_of_zero_le (show 0 ≤ n by omega)
    have hp := (known_pos hk).1
    obtain ⟨P, rfl⟩ := Int.eq_ofNat_of_zero_le (show 0 ≤ p by omega)
    refine ⟨N, rfl, ?_⟩
    unfold rootS at h ⊢
    rw [if_pos hr] at h ⊢
    by_cases hz : ((P : Int) - 1) % N = 0
    · rw [if_pos hz]
      have e1 : ((P : Int) - 1) = ((P - 1 : Nat) : Int) := by omega
      have e2 : ((P : Int) - 1).toNat = P - 1 := by omega
      have e3 : (((P : Int) - 1) / N).toNat = (P - 1) / N := by rw [e1]; rfl
      refine ⟨hk, by omega, by omega, ?_, by rw [e2, e3]⟩
      rw [e2]
      apply Nat.dvd_of_mod_eq_zero
      rw [e1] at hz
      exact_mod_cast hz
    · rw [if_neg hz] at h
      exact absurd h (by decide)
  · unfold rootS at h
    rw [if_neg hr] at h
    exact absurd h hr
theorem rootS_no {p n : Int} (h : (rootS p n).2 ≠ 0) : (rootS p n).1 = 0 := by
  unfold rootS at h ⊢
  split
  · rename_i h1
    rw [if_pos h1] at h
    split
    · rename_i h2
      rw [if_pos h2] at h
      exact absurd rfl h
    · rfl
  · rfl
theorem IsRoot.rootS {p w : Int} {n : Nat} (h : IsRoot p w n) : rootS p n = (w, 0) := by
  have hp := (known_pos h.known).1
  have n1 := h.n1; have n2 := h.n2
  have hr : readyS p n = 0 := by rw [readyS, if_pos h.known, if_pos ⟨by omega, by omega⟩]
  obtain ⟨M, rfl⟩ := Int.eq_ofNat_of_zero_le (show 0 ≤ p by omega)
  have e1 : ((M : Int) - 1) = ((M - 1 : Nat) : Int) := by omega
  have e2 : ((M : Int) - 1).toNat = M - 1 := by omega
  have e3 : (((M : Int) - 1) / n).toNat = (M - 1) / n := by rw [e1]; rfl
  have hd := h.dvd
  rw [e2] at hd
  have hz : ((M : Int) - 1) % n = 0 := by rw [e1, ← Int.natCast_emod, Nat.mod_eq_zero_of_dvd hd]; rfl
  have hi := h.is
  rw [e2] at hi
  unfold P.rootS
  rw [if_pos hr, if_pos hz, e3, ← hi]
/-- A root's power is 1 just where its order divides. -/
theorem IsRoot.one_iff {p w : Int} {n : Nat} (h : IsRoot p w n) (k : Nat) : powS p w k = 1 ↔ n ∣ k := by
  have n1 := h.n1
  rw [h.is, ← powS_mul, powS_gen h.known]
  obtain ⟨m, hm⟩ := h.dvd
  have hp := (known_pos h.known).1
  have hm0 : 0 < m := by
    rcases Nat.eq_zero_or_pos m with h0 | h0
    · subst h0; omega
    · exact h0
  rw [hm, Nat.mul_div_cancel_left _ (by omega), Nat.mul_comm n m]
  exact Nat.mul_dvd_mul_iff_left hm0
theorem IsRoot.small {p w : Int} {n : Nat} (h : IsRoot p w n) : redS p w = w := by
  rw [h.is]; unfold powS; exact redS_redS _ _
theorem IsRoot.ne {p w : Int} {n : Nat} (h : IsRoot p w n) : redS p w ≠ 0 := by
  intro h0
  have h1 := (h.one_iff n).2 (Nat.dvd_refl n)
  have n1 := h.n1
  rw [← powS_red, h0, show n = (n - 1) + 1 from by omega, ← powS_succ] at h1
  unfold mulS at h1
  rw [Int.mul_zero, redS_zero] at h1
  omega
/-- What undoes a root. -/
theorem IsRoot.back {p w : Int} {n : Nat} (h : IsRoot p w n) : backS p n = (powS p w (p - 2).toNat, 0) := by
  rw [backS, h.rootS, if_pos rfl, invS, if_pos h.known, if_neg h.ne]
theorem IsRoot.mul_back {p w : Int} {n : Nat} (h : IsRoot p w n) : mulS p w (powS p w (p - 2).toNat) = 1 := by
  have := inv_mul h.known h.ne
  unfold mulS at *
  rw [Int.mul_comm]; exact this
theorem IsRoot.back_iff {p w : Int} {n : Nat} (h : IsRoot p w n) (k : Nat) : powS p (powS p w (p - 2).toNat) k = 1 ↔ n ∣ k := by
  have h1 : mulS p (powS p w k) (powS p (powS p w (p - 2).toNat) k) = 1 := by
    rw [← powS_base, h.mul_back]
    unfold powS
    rw [Int.one_pow]; exact one_red h.known
  rw [← h.one_iff k]
  constructor
  · intro h2
    rw [h2] at h1
    unfold mulS at h1
    rw [Int.mul_one] at h1
    unfold powS at h1 ⊢
    rwa [redS_redS] at h1
  · intro h2
    rw [h2] at h1
    unfold mulS at h1
    rw [Int.one_mul] at h1
    unfold powS at h1 ⊢
    rwa [redS_redS] at h1
theorem ord_of_iff {p a : Int} {n : Nat} (hn : 1 ≤ n) (h : ∀ k, powS p a k = 1 ↔ n ∣ k) (m : Nat) (hm : 1 ≤ m) : IsOrd p a m ↔ m = n := by
  constructor
  · intro ⟨h1, h2⟩
    have hd := (h m).1 h1
    have hle := Nat.le_of_dvd (by omega) hd
    rcases Nat.lt_or_ge n m with hlt | hge
    · exact absurd ((h n).2 (Nat.dvd_refl n)) (h2 n hlt (by omega))
    · omega
  · rintro rfl
    refine ⟨(h m).2 (Nat.dvd_refl m), fun k hk h0 hk1 => ?_⟩
    have := Nat.le_of_dvd h0 ((h k).1 hk1)
    omega
theorem IsRoot.order {p w : Int} {n : Nat} (h : IsRoot p w n) {m : Int} (hm : (orderS p w m).2 = 0) : (orderS p w m).1 = decide (m = (n : Int)) := by
  unfold orderS at hm ⊢
  by_cases hr : readyS p m = 0
  · rw [if_pos hr] at hm ⊢
    obtain ⟨hk, m0, m1⟩ := ready_ok hr
    have := ord_of_iff h.n1 h.one_iff m.toNat (by omega)
    have e : (m.toNat = n) ↔ (m = (n : Int)) := by omega
    exact decide_eq_decide.2 (this.trans e)
  · rw [if_neg hr] at hm
    exact absurd hm hr
theorem IsRoot.orderS {p w : Int} {n : Nat} (h : IsRoot p w n) : orderS p w n = (true, 0) := by
  have n1 := h.n1; have n2 := h.n2
  have hr : readyS p n = 0 := by rw [readyS, if_pos h.known, if_pos ⟨by omega, by omega⟩]
  rw [P.orderS, if_pos hr, Int.toNat_natCast, decide_eq_true ((ord_of_iff h.n1 h.one_iff n h.n1).2 rfl)]
theorem IsRoot.order_back {p w : Int} {n : Nat} (h : IsRoot p w n) : P.orderS p (powS p w (p - 2).toNat) n = (true, 0) := by
  have n1 := h.n1; have n2 := h.n2
  have hr : readyS p n = 0 := by rw [readyS, if_pos h.known, if_pos ⟨by omega, by omega⟩]
  rw [P.orderS, if_pos hr, Int.toNat_natCast, decide_eq_true ((ord_of_iff h.n1 h.back_iff n h.n1).2 rfl)]
/-- A root's power is a root. -/
theorem IsRoot.part {p w : Int} {n m : Nat} (h : IsRoot p w (n * m)) : IsRoot p (powS p w m) n := by
  have h1 := h.n1; have h2 := h.n2
  have hn : 0 < n := by
    rcases Nat.eq_zero_or_pos n with h0 | h0
    · subst h0; simp at h1
    · exact h0
  have hm : 0 < m := by
    rcases Nat.eq_zero_or_pos m with h0 | h0
    · subst h0; simp at h1
    · exact h0
  have hle : n ≤ n * m := Nat.le_mul_of_pos_right n hm
  refine ⟨h.known, hn, by omega, Nat.dvd_trans ⟨m, rfl⟩ h.dvd, ?_⟩
  rw [h.is, ← powS_mul]
  congr 1
  obtain ⟨q, hq⟩ := h.dvd
  rw [hq, Nat.mul_div_cancel_left _ (by omega), Nat.mul_assoc, Nat.mul_div_cancel_left _ hn, Nat.mul_comm]
/-- The sum of a number's first powers. -/
def geoS (p x : Int) : Nat → Int
  | 0 => 0
  | k + 1 => addS p (geoS p x k) (powS p x k)
theorem u64_geoS (p x : Int) : ∀ k, U64 (geoS p x k)
  | 0 => (show U64 0 by decide)
  | k + 1 => u64_redS _ _
theorem geoS_mul (p x : Int) : ∀ k, redS p (geoS p x k * (x - 1)) = redS p (x ^ k - 1)
  | 0 => by simp [geoS]
  | k + 1 => by
    unfold geoS addS powS
    rw [redS_mul_left, Int.add_mul, ← redS_add_left, geoS_mul p x k, redS_add_left, ← redS_add_right, redS_mul_left, redS_add_right, Int.pow_succ]
    congr 1
    rw [Int.mul_sub, Int.mul_one]; omega
theorem geoS_one {p : Int} (hk : knownS p = true) : ∀ k : Nat, (k : Int) < p → geoS p 1 k = k
  | 0, _ => rfl
  | k + 1, h => by
    unfold geoS
    rw [geoS_one hk k (by omega)]
    unfold addS powS
    rw [Int.one_pow, redS_add_right, redS_small hk (by omega) (by omega)]
    omega
theorem geoS_red (p x : Int) : ∀ k, redS p (geoS p x k) = geoS p x k
  | 0 => redS_zero p
  | k + 1 => redS_redS _ _
theorem IsRoot.sum {p w : Int} {n k : Nat} (h : IsRoot p w n) (hx : powS p w k ≠ 1) : geoS p (powS p w k) n = 0 ∧ powS p (powS p w k) n = 1 := by
  have h1 : powS p (powS p w k) n = 1 := by rw [← powS_mul, h.one_iff]; exact ⟨k, Nat.mul_comm _ _⟩
  refine ⟨?_, h1⟩
  have h2 := geoS_mul p (powS p w k) n
  have h3 : redS p (powS p w k ^ n - 1) = 0 := by
    unfold powS at h1 ⊢
    rw [← redS_sub_left, h1, Int.sub_self, redS_zero]
  rw [h3, Int.mul_comm] at h2
  rcases redS_mul_zero h.known h2 with h4 | h4
  · exfalso; apply hx
    have h5 : redS p (powS p w k) = redS p 1 := (redS_eq_iff h.known).2 (by
      have := (redS_eq_iff (a := powS p w k - 1) (b := 0) h.known).1 (by rw [h4, redS_zero])
      rwa [Int.sub_zero] at this)
    rw [one_red h.known] at h5
    unfold powS at h5 ⊢
    rwa [redS_redS] at h5
  · rwa [geoS_red] at h4
end Go.Proofs.Ytkofhmiakfmcaaa.P
