/- Transforms of few words, plainly. Under no condition beside those of each lemma. -/
import Derived.Test.YtkofhmiakfmcaaaRootP
namespace Go.Proofs.Ytkofhmiakfmcaaa.P
set_option linter.unusedVariables false
theorem red_add {p a b a' b' : Int} (h : redS p a = redS p a') (h2 : redS p b = redS p b') : redS p (a + b) = redS p (a' + b') := by
  rw [← redS_add_left, ← redS_add_right, h, h2, redS_add_right, redS_add_left]
theorem red_mul {p a b a' b' : Int} (h : redS p a = redS p a') (h2 : redS p b = redS p b') : redS p (a * b) = redS p (a' * b') := by
  rw [← redS_mul_left, ← redS_mul_right, h, h2, redS_mul_right, redS_mul_left]
theorem red_sub {p a b a' b' : Int} (h : redS p a = redS p a') (h2 : redS p b = redS p b') : redS p (a - b) = redS p (a' - b') := by
  rw [← redS_sub_left, ← redS_sub_right, h, h2, redS_sub_right, redS_sub_left]
theorem red_pow {p a b : Int} (h : redS p a = redS p b) (k : Nat) : redS p (a ^ k) = redS p (b ^ k) := by
  have h1 := powS_red p a k
  have h2 := powS_red p b k
  rw [h] at h1
  exact h1.symm.trans h2
/-- Sums. -/
def S : Nat → (Nat → Int) → Int
  | 0, _ => 0
  | n + 1, f => S n f + f n
theorem S_congr {f g : Nat → Int} : ∀ {n : Nat}, (∀ i, i < n → f i = g i) → S n f = S n g
  | 0, _ => rfl
  | n + 1, h => by rw [S, S, S_congr (fun i hi => h i (by omega)), h n (by omega)]
theorem S_add (f g : Nat → Int) : ∀ n, S n (fun i => f i + g i) = S n f + S n g
  | 0 => by simp [S]
  | n + 1 => by rw [S, S, S, S_add f g n]; omega
theorem S_mul (c : Int) (f : Nat → Int) : ∀ n, S n (fun i => c * f i) = c * S n f
  | 0 => by simp [S]
  | n + 1 => by rw [S, S, S_mul c f n, Int.mul_add]
theorem S_mulr (c : Int) (f : Nat → Int) (n : Nat) : S n (fun i => f i * c) = S n f * c := by
  rw [Int.mul_comm, ← S_mul]; exact S_congr fun i _ => Int.mul_comm _ _
theorem S_zero : ∀ n, S n (fun _ => 0) = 0
  | 0 => rfl
  | n + 1 => by rw [S, S_zero n]; rfl
theorem S_const (c : Int) : ∀ n : Nat, S n (fun _ => c) = n * c
  | 0 => by simp [S]
  | n + 1 => by rw [S, S_const c n]; rw [show ((n + 1 : Nat) : Int) = (n : Int) + 1 from by omega, Int.add_mul, Int.one_mul]
theorem S_comm (f : Nat → Nat → Int) (m : Nat) : ∀ n, S n (fun i => S m (fun j => f i j)) = S m (fun j => S n (fun i => f i j))
  | 0 => by simp only [S]; exact (S_zero m).symm
  | n + 1 => by
    simp only [S]
    rw [S_comm f m n, ← S_add]
theorem S_head (f : Nat → Int) : ∀ n, S (n + 1) f = f 0 + S n (fun i => f (i + 1))
  | 0 => by simp [S]
  | n + 1 => by
    rw [S, S_head f n, S]; omega
theorem S_one {n k : Nat} (hk : k < n) {f : Nat → Int} (h : ∀ i, i < n → i ≠ k → f i = 0) : S n f = f k := by
  induction n with
  | zero => omega
  | succ n ih =>
    rw [S]
    by_cases e : k = n
    · subst e
      rw [S_congr (g := fun _ => 0) (fun i hi => h i (by omega) (by omega)), S_zero, Int.zero_add]
    · rw [ih (by omega) (fun i hi hik => h i (by omega) hik), h n (by omega) (by omega), Int.add_zero]
theorem red_S {p : Int} {f g : Nat → Int} : ∀ {n : Nat}, (∀ i, i < n → redS p (f i) = redS p (g i)) → redS p (S n f) = redS p (S n g)
  | 0, _ => rfl
  | n + 1, h => by rw [S, S]; exact red_add (red_S fun i hi => h i (by omega)) (h n (by omega))
theorem S_geo (x : Int) : ∀ n, (x - 1) * S n (fun u => x ^ u) = x ^ n - 1
  | 0 => by simp [S]
  | n + 1 => by rw [S, Int.mul_add, S_geo x n, Int.pow_succ, Int.sub_mul, Int.one_mul, Int.mul_comm x]; omega
theorem red_geo {p x : Int} {n : Nat} (hk : knownS p = true) (hn : redS p (x ^ n) = 1) (hx : redS p x ≠ 1) : redS p (S n (fun u => x ^ u)) = 0 := by
  have h1 : redS p ((x - 1) * S n (fun u => x ^ u)) = 0 := by
    rw [S_geo, ← redS_sub_left, hn, Int.sub_self, redS_zero]
  rcases redS_mul_zero hk h1 with h2 | h2
  · exfalso; apply hx
    have : redS p ((x - 1) + 1) = redS p (0 + 1) := red_add (by rw [h2, redS_zero]) rfl
    rw [show x - 1 + 1 = x from by omega, Int.zero_add, one_red hk] at this
    exact this
  · exact h2
/-- Two numbers of an order that undo each other. -/
structure Turn (p a b : Int) (n : Nat) : Prop where
  known : knownS p = true
  n1 : 1 ≤ n
  n2 : n ≤ 8192
  ab : redS p (a * b) = 1
  ia : ∀ k, powS p a k = 1 ↔ n ∣ k
  ib : ∀ k, powS p b k = 1 ↔ n ∣ k
  ra : redS p a = a
  rb : redS p b = b
theorem Turn.symm {p a b : Int} {n : Nat} (h : Turn p a b n) : Turn p b a n :=
  ⟨h.known, h.n1, h.n2, by rw [Int.mul_comm]; exact h.ab, h.ib, h.ia, h.rb, h.ra⟩
theorem IsRoot.turn {p w : Int} {n : Nat} (h : IsRoot p w n) : Turn p w (powS p w (p - 2).toNat) n :=
  ⟨h.known, h.n1, h.n2, h.mul_back, h.one_iff, h.back_iff, h.small, by unfold powS; exact redS_redS _ _⟩
theorem Turn.pow_mul {p a b : Int} {n : Nat} (h : Turn p a b n) (k : Nat) : redS p (a ^ (n * k)) = 1 := (h.ia (n * k)).2 ⟨k, rfl⟩
theorem Turn.abk {p a b : Int} {n : Nat} (h : Turn p a b n) (k : Nat) : redS p (a ^ k * b ^ k) = 1 := by
  rw [← Int.mul_pow]
  have h1 : redS p (a * b) = redS p 1 := by rw [h.ab, one_red h.known]
  rw [red_pow h1 k, Int.one_pow, one_red h.known]
theorem Turn.apart {p a b : Int} {n : Nat} (h : Turn p a b n) {t s : Nat} (ht : t < n) (hs : s < n) (hne : t ≠ s) : redS p (a ^ t * b ^ s) ≠ 1 := by
  have hlt : ∀ {a b : Int} (h : Turn p a b n) (t s : Nat), t < n → s < t → redS p (a ^ t * b ^ s) ≠ 1 := fun {a b} h t s ht hst => by
    have e : a ^ t * b ^ s = a ^ (t - s) * (a ^ s * b ^ s) := by
      rw [← Int.mul_assoc, ← Int.pow_add, show t - s + s = t from by omega]
    rw [e, ← redS_mul_right, h.abk s, Int.mul_one]
    intro h1
    have h2 := (h.ia (t - s)).1 h1
    have := Nat.le_of_dvd (by omega) h2
    omega
  rcases Nat.lt_or_gt_of_ne hne with h1 | h1
  · rw [Int.mul_comm]; exact hlt h.symm s t hs h1
  · exact hlt h t s ht h1
/-- All together: nought, but where both are one place. -/
theorem Turn.all {p a b : Int} {n : Nat} (h : Turn p a b n) {t s : Nat} (ht : t < n) (hs : s < n) :
    redS p (S n (fun u => (a ^ t * b ^ s) ^ u)) = if t = s then redS p n else 0 := by
  by_cases e : t = s
  · subst e
    rw [if_pos rfl, red_S (g := fun _ => 1) (fun i _ => ?_), S_const, Int.mul_one]
    rw [red_pow (b := 1) (by rw [h.abk, one_red h.known]), Int.one_pow]
  · rw [if_neg e]
    refine red_geo h.known ?_ (h.apart ht hs e)
    rw [Int.mul_pow, ← Int.pow_mul, ← Int.pow_mul, Nat.mul_comm t n, Nat.mul_comm s n, ← redS_mul_left, h.pow_mul, Int.one_mul, h.symm.pow_mul]
/-- A word of a transform. -/
def doF (p a : Int) (x : List Int) (u : Nat) : Int := redS p (S x.length (fun t => x.getD t 0 * a ^ (t * u)))
def doL (p a : Int) (x : List Int) : List Int := (List.range x.length).map (doF p a x)
theorem doL_length (p a : Int) (x : List Int) : (doL p a x).length = x.length := by simp [doL]
theorem doL_at (p a : Int) (x : List Int) {u : Nat} (h : u < x.length) (d : Int) : (doL p a x).getD u d = doF p a x u := by
  rw [List.getD_eq_getElem?_getD]; simp [doL, h]
theorem doF_red (p a : Int) (x : List Int) (u : Nat) : redS p (doF p a x u) = doF p a x u := redS_redS _ _
/-- There and back. -/
theorem Turn.back {p a b : Int} {x : List Int} (h : Turn p a b x.length) {s : Nat} (hs : s < x.length) : doF p b (doL p a x) s = mulS p (x.getD s 0) x.length := by
  unfold doF
  rw [doL_length]
  have e1 : redS p (S x.length (fun u => (doL p a x).getD u 0 * b ^ (u * s))) = redS p (S x.length (fun u => S x.length (fun t => x.getD t 0 * a ^ (t * u)) * b ^ (u * s))) := by
    refine red_S fun u hu => ?_
    rw [doL_at p a x hu]
    exact red_mul (redS_redS _ _) rfl
  rw [e1]
  have e2 : S x.length (fun u => S x.length (fun t => x.getD t 0 * a ^ (t * u)) * b ^ (u * s)) = S x.length (fun t => x.getD t 0 * S x.length (fun u => (a ^ t * b ^ s) ^ u)) := by
    rw [show (fun u => S x.length (fun t => x.getD t 0 * a ^ (t * u)) * b ^ (u * s)) = fun u => S x.length (fun t => x.getD t 0 * (a ^ t * b ^ s) ^ u) from by
      funext u
      rw [← S_mulr]
      refine S_congr fun t _ => ?_
      rw [Int.mul_assoc, Int.mul_pow, ← Int.pow_mul, ← Int.pow_mul, Nat.mul_comm s u]]
    rw [S_comm]
    exact S_congr fun t _ => S_mul _ _ _
  rw [e2]
  have e3 : redS p (S x.length (fun t => x.getD t 0 * S x.length (fun u => (a ^ t * b ^ s) ^ u))) = redS p (S x.length (fun t => if t = s then x.getD s 0 * x.length else 0)) := by
    refine red_S fun t ht => ?_
    rw [← redS_mul_right, h.all ht hs]
    by_cases e : t = s
    · subst e; rw [if_pos rfl, if_pos rfl, redS_mul_right]
    · rw [if_neg e, if_neg e, Int.mul_zero]
  rw [e3, S_one hs (fun i _ hi => if_neg hi), if_pos rfl]
  rfl
/-- All words of a transform together. -/
theorem Turn.total {p a b : Int} {x : List Int} (h : Turn p a b x.length) : redS p (S x.length (fun u => doF p a x u)) = mulS p x.length (x.getD 0 0) := by
  have hn := h.n1
  have h1 := h.back (s := 0) (by omega)
  unfold doF at h1
  rw [doL_length] at h1
  have e : S x.length (fun t => (doL p a x).getD t 0 * b ^ (t * 0)) = S x.length (fun u => doF p a x u) := by
    refine S_congr fun t ht => ?_
    rw [doL_at p a x ht, Nat.mul_zero, Int.pow_zero, Int.mul_one]
  rw [e] at h1
  rw [h1]
  unfold mulS
  rw [Int.mul_comm]
/-- Words turned around by one place. -/
theorem Turn.turned {p a b : Int} {x : List Int} (h : Turn p a b x.length) (u : Nat) :
    doF p a (x.getD (x.length - 1) 0 :: x.take (x.length - 1)) u = mulS p (doF p a x u) (powS p a u) := by
  have hn := h.n1
  obtain ⟨m, hm⟩ : ∃ m, x.length = m + 1 := ⟨x.length - 1, by omega⟩
  have hl : (x.getD (x.length - 1) 0 :: x.take (x.length - 1)).length = m + 1 := by simp; omega
  unfold doF
  rw [hl, hm, show m + 1 - 1 = m from by omega]
  have e1 : S (m + 1) (fun t => (x.getD m 0 :: x.take m).getD t 0 * a ^ (t * u)) = x.getD m 0 + S m (fun t => x.getD t 0 * a ^ ((t + 1) * u)) := by
    rw [S_head]
    congr 1
    · simp
    · refine S_congr fun t ht => ?_
      rw [List.getD_cons_succ, List.getD_eq_getElem?_getD, List.getD_eq_getElem?_getD, List.getElem?_take, if_pos ht]
  rw [e1]
  unfold mulS powS
  rw [redS_mul_left, redS_mul_right]
  have e2 : S (m + 1) (fun t => x.getD t 0 * a ^ (t * u)) * a ^ u = S m (fun t => x.getD t 0 * a ^ ((t + 1) * u)) + x.getD m 0 * a ^ ((m + 1) * u) := by
    rw [← S_mulr]
    rw [show (fun i => x.getD i 0 * a ^ (i * u) * a ^ u) = fun i => x.getD i 0 * a ^ ((i + 1) * u) from by
      funext i; rw [Int.mul_assoc, ← Int.pow_add, Nat.add_mul, Nat.one_mul]]
    rfl
  rw [e2, Int.add_comm]
  refine red_add rfl ?_
  have h3 := h.pow_mul u
  rw [hm] at h3
  rw [← redS_mul_right, h3, Int.mul_one]
/-- Sums, and words times a number. -/
theorem doF_sums (p a c : Int) (x y z : List Int) (hy : y.length = x.length) (hz : z.length = x.length) (h : ∀ t, t < x.length → z.getD t 0 = addS p (mulS p c (x.getD t 0)) (y.getD t 0)) (u : Nat) :
    doF p a z u = addS p (mulS p c (doF p a x u)) (doF p a y u) := by
  unfold doF
  rw [hy, hz]
  unfold addS mulS at *
  rw [redS_add_left, redS_add_right, ← redS_add_left, redS_mul_right, redS_add_left, ← S_mul, ← S_add]
  refine red_S fun t ht => ?_
  rw [h t ht, redS_add_left, redS_mul_left]
  congr 1
  rw [Int.add_mul, Int.mul_assoc]
/-- Weighed. -/
def weighF (p a : Int) (x w : List Int) : Int := redS p (S x.length (fun u => doF p a x u * w.getD u 0))
theorem weigh_symm (p a : Int) (x w : List Int) (h : w.length = x.length) : weighF p a x w = weighF p a w x := by
  unfold weighF doF
  rw [h]
  have e : ∀ x w : List Int, redS p (S x.length (fun u => redS p (S x.length (fun t => x.getD t 0 * a ^ (t * u))) * w.getD u 0)) = redS p (S x.length (fun u => S x.length (fun t => x.getD t 0 * (a ^ (t * u) * w.getD u 0)))) := fun x w => by
    refine red_S fun u _ => ?_
    rw [redS_mul_left, ← S_mulr]
    congr 1
    exact S_congr fun t _ => Int.mul_assoc _ _ _
  rw [e x w]
  have e2 := e w x
  rw [h] at e2
  rw [e2, S_comm]
  congr 1
  refine S_congr fun t _ => S_congr fun u _ => ?_
  rw [Nat.mul_comm u t]
  generalize a ^ (t * u) = z
  generalize w.getD u 0 = y
  generalize x.getD t 0 = v
  grind
end Go.Proofs.Ytkofhmiakfmcaaa.P
