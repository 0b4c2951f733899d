/- Several texts as one: DftP, GridP. Conditions: those of each lemma. -/
import Derived.Test.YtohcoidbncbijaaDoorRefB
import Derived.Test.YtohcoidbncbijaaDoorBaseB
import Derived.Test.YtohcoidbncbijaaDoorShapeB
/- Transforms of a line, plainly: the weights of a word, that they undo each other, and products that go around. Under no condition beside those of each lemma. -/
namespace Go.Proofs.YtohcoidbncbijaaDoor.P
set_option linter.unusedVariables false
theorem pwm (x : Int) (a b : Nat) : x ^ (a * b) = (x ^ a) ^ b := Int.pow_mul
def ordS (n : Nat) (neg : Bool) : Int := if neg then (n : Int) * 2 else n
/-- To which power of the root word j goes in word k. -/
def stp (neg : Bool) (j k : Nat) : Nat := if neg then j * (2 * k + 1) else j * k
theorem stp_add (neg : Bool) (i j k : Nat) : stp neg (i + j) k = stp neg i k + stp neg j k := by
  unfold stp; split <;> rw [Nat.add_mul]
/-- Why a line can not be. -/
def chk6 (p : Int) (x : List Int) (neg : Bool) : Int :=
  if knownS p then (if smoothS x.length then (if (rootS p (ordS x.length neg)).2 = 0 then (if inS p x then 0 else 7) else (rootS p (ordS x.length neg)).2) else 4) else 2
/-- The numbers of a line of n words: w its root, b what undoes it, l what undoes n. -/
structure Lk (p : Int) (n : Nat) (neg : Bool) (w b l a a' c d : Int) : Prop where
  T : Turn p a a' n
  cd : redS p (c * d) = 1
  nl : redS p (n * l) = 1
  hw : ∀ j k, redS p (w ^ stp neg j k) = redS p (c ^ j * (a ^ j) ^ k)
  hb : ∀ j k, redS p (b ^ stp neg j k) = redS p (d ^ j * (a' ^ j) ^ k)
  w2 : redS p (w ^ (2 * n)) = 1
  b2 : redS p (b ^ (2 * n)) = 1
  wn : redS p (w ^ n) = redS p (if neg then -1 else 1)
  uw : U64 w
  ub : U64 b
  ul : U64 l
theorem small_red {p : Int} (hk : knownS p = true) {n : Nat} (h0 : 1 ≤ n) (h : n ≤ 8192) : redS p (n : Int) = n := by
  refine redS_small hk (by omega) ?_
  rcases knownS_cases hk with rfl | rfl | rfl <;> omega
theorem invS_ok {p : Int} (hk : knownS p = true) {n : Nat} (h0 : 1 ≤ n) (h : n ≤ 8192) : invS p n = (powS p n (p - 2).toNat, 0) := by
  rw [invS, if_pos hk, if_neg (by rw [small_red hk h0 h]; omega)]
theorem lk_of {p : Int} {n : Nat} {neg : Bool} (hn1 : 1 ≤ n) (hn : n ≤ 4096) (hr : (rootS p (ordS n neg)).2 = 0) :
    ∃ a a' c d, Lk p n neg (rootS p (ordS n neg)).1 (backS p (ordS n neg)).1 (invS p n).1 a a' c d := by
  obtain ⟨N, hN, hR⟩ := rootS_is hr
  have hb := hR.back
  rw [← hN] at hb
  rw [hb]
  have hk := hR.known
  have hnl : redS p (n * (invS p n).1) = 1 := by
    rw [invS_ok hk hn1 (by omega), Int.mul_comm]
    exact inv_mul hk (by rw [small_red hk hn1 (by omega)]; omega)
  have hul : U64 (invS p n).1 := by rw [invS_ok hk hn1 (by omega)]; exact u64_powS _ _ _
  have hw0 : U64 (rootS p (ordS n neg)).1 := u64_rootS _ _
  generalize (rootS p (ordS n neg)).1 = w at *
  generalize (invS p n).1 = l at *
  have hT := hR.turn
  have h1 : redS p 1 = 1 := one_red hk
  cases neg with
  | false =>
    have e : N = n := by simp [ordS] at hN; omega
    subst e
    refine ⟨w, powS p w (p - 2).toNat, 1, 1, hT, by rw [Int.mul_one]; exact h1, hnl, ?_, ?_, ?_, ?_, ?_, hw0, u64_powS _ _ _, hul⟩
    · intro j k; rw [stp, if_neg (by decide), Int.one_pow, Int.one_mul, Int.pow_mul]
    · intro j k; rw [stp, if_neg (by decide), Int.one_pow, Int.one_mul, Int.pow_mul]
    · rw [Nat.mul_comm]; exact hT.pow_mul 2
    · rw [Nat.mul_comm]; exact hT.symm.pow_mul 2
    · have h2 := hT.pow_mul 1
      rw [Nat.mul_one] at h2
      rw [h2, if_neg (by decide), h1]
  | true =>
    have e : N = n * 2 := by simp [ordS] at hN; omega
    subst e
    have hP := hR.part
    have hT2 := hP.turn
    have esq : ∀ x : Int, redS p (x ^ 2) = redS p (powS p x 2) := fun x => (redS_redS _ _).symm
    have gen : ∀ (x a : Int), redS p (x ^ 2) = redS p a → ∀ j k : Nat, redS p (x ^ stp true j k) = redS p (x ^ j * (a ^ j) ^ k) := fun x a hx j k => by
      rw [stp, if_pos rfl, show j * (2 * k + 1) = j + 2 * (j * k) from by grind, Int.pow_add, pwm x 2, ← pwm a]
      exact red_mul rfl (red_pow hx _)
    have eb : redS p ((powS p w (p - 2).toNat) ^ 2) = redS p (powS p (powS p w 2) (p - 2).toNat) := by
      rw [← powS_mul, esq, ← powS_mul, Nat.mul_comm]
    refine ⟨powS p w 2, powS p (powS p w 2) (p - 2).toNat, w, powS p w (p - 2).toNat, hT2, hT.ab, hnl, gen _ _ (esq w), gen _ _ eb, ?_, ?_, ?_, hw0, u64_powS _ _ _, hul⟩
    · have h2 := hT.pow_mul 1
      rw [Nat.mul_one, Nat.mul_comm] at h2
      exact h2
    · have h2 := hT.symm.pow_mul 1
      rw [Nat.mul_one, Nat.mul_comm] at h2
      exact h2
    · rw [if_pos rfl]
      have h2 := hT.pow_mul 1
      rw [Nat.mul_one] at h2
      have h3 : redS p ((w ^ n - 1) * (w ^ n + 1)) = 0 := by
        rw [show (w ^ n - 1) * (w ^ n + 1) = w ^ (n * 2) - 1 from by rw [Int.pow_mul]; grind, ← redS_sub_left, h2]; simp [redS_zero]
      rcases redS_mul_zero hk h3 with h4 | h4
      · exfalso
        have h5 : powS p w n = 1 := by
          have : redS p ((w ^ n - 1) + 1) = redS p (0 + 1) := red_add (by rw [h4, redS_zero]) rfl
          rw [show w ^ n - 1 + 1 = w ^ n from by omega, Int.zero_add, h1] at this
          exact this
        have h6 := Nat.le_of_dvd (by omega) ((hT.ia n).1 h5)
        omega
      · have : redS p ((w ^ n + 1) + -1) = redS p (0 + -1) := red_add (by rw [h4, redS_zero]) rfl
        rw [show w ^ n + 1 + -1 = w ^ n from by omega, Int.zero_add] at this
        exact this
/-- What word i weighs in word o. -/
def wgt (w b l : Int) (neg inv : Bool) (i o : Nat) : Int := if inv then b ^ stp neg o i * l else w ^ stp neg i o
theorem Lk.undo {p : Int} {n : Nat} {neg : Bool} {w b l a a' c d : Int} (h : Lk p n neg w b l a a' c d) (inv : Bool) {i s : Nat} (hi : i < n) (hs : s < n) :
    redS p (S n (fun o => wgt w b l neg inv i o * wgt w b l neg (!inv) o s)) = if i = s then 1 else 0 := by
  have h1 : redS p 1 = 1 := one_red h.T.known
  have hcd : redS p (c * d) = redS p 1 := by rw [h.cd, h1]
  have hnl : redS p (n * l) = redS p 1 := by rw [h.nl, h1]
  cases inv with
  | false =>
    have e : redS p (S n (fun o => wgt w b l neg false i o * wgt w b l neg (!false) o s)) = redS p (S n (fun o => (c ^ i * d ^ s * l) * (a ^ i * a' ^ s) ^ o)) := by
      refine red_S fun o _ => ?_
      simp only [wgt, Bool.not_false, if_true, Bool.false_eq_true, if_false]
      rw [show (c ^ i * d ^ s * l) * (a ^ i * a' ^ s) ^ o = (c ^ i * (a ^ i) ^ o) * ((d ^ s * (a' ^ s) ^ o) * l) from by rw [Int.mul_pow]; grind]
      exact red_mul (h.hw i o) (red_mul (h.hb s o) rfl)
    rw [e, S_mul, ← redS_mul_right, h.T.all hi hs]
    by_cases es : i = s
    · subst es
      rw [if_pos rfl, if_pos rfl, redS_mul_right, show c ^ i * d ^ i * l * n = (c * d) ^ i * (n * l) from by rw [Int.mul_pow]; grind, red_mul (red_pow hcd i) hnl, Int.one_pow]
      exact h1
    · rw [if_neg es, if_neg es, Int.mul_zero, redS_zero]
  | true =>
    have e : redS p (S n (fun o => wgt w b l neg true i o * wgt w b l neg (!true) o s)) = redS p (S n (fun o => l * (a ^ s * a' ^ i) ^ o)) := by
      refine red_S fun o _ => ?_
      simp only [wgt, Bool.not_true, if_true, Bool.false_eq_true, if_false]
      have e1 : redS p (b ^ stp neg o i * l * w ^ stp neg o s) = redS p ((d ^ o * (a' ^ o) ^ i) * l * (c ^ o * (a ^ o) ^ s)) := red_mul (red_mul (h.hb o i) rfl) (h.hw o s)
      rw [e1, show (d ^ o * (a' ^ o) ^ i) * l * (c ^ o * (a ^ o) ^ s) = (c * d) ^ o * (l * (a ^ s * a' ^ i) ^ o) from by
        rw [Int.mul_pow, Int.mul_pow, ← Int.pow_mul, ← Int.pow_mul, ← Int.pow_mul, ← Int.pow_mul, Nat.mul_comm o i, Nat.mul_comm o s]; grind, red_mul (red_pow hcd o) rfl, Int.one_pow, Int.one_mul]
    rw [e, S_mul, ← redS_mul_right, h.T.all hs hi]
    by_cases es : i = s
    · subst es
      rw [if_pos rfl, if_pos rfl, redS_mul_right, Int.mul_comm, hnl, h1]
    · rw [if_neg es, if_neg (fun e => es e.symm), Int.mul_zero, redS_zero]
/-- A sum of words times numbers. -/
def linF (p : Int) (M : Nat → Int) (x : List Int) : Int := redS p (S x.length (fun i => x.getD i 0 * M i))
theorem linF_red (p : Int) (M : Nat → Int) (x : List Int) : redS p (linF p M x) = linF p M x := redS_redS _ _
theorem u64_linF (p : Int) (M : Nat → Int) (x : List Int) : U64 (linF p M x) := u64_redS _ _
theorem linF_congr {p : Int} {M M' : Nat → Int} {x : List Int} (h : ∀ i, i < x.length → redS p (M i) = redS p (M' i)) : linF p M x = linF p M' x :=
  red_S fun i hi => red_mul rfl (h i hi)
theorem linF_sums (p c : Int) (M : Nat → Int) (x y z : List Int) (hy : y.length = x.length) (hz : z.length = x.length) (h : ∀ t, t < x.length → z.getD t 0 = addS p (mulS p c (x.getD t 0)) (y.getD t 0)) :
    linF p M z = addS p (mulS p c (linF p M x)) (linF p M y) := by
  unfold linF
  rw [hy, hz]
  unfold addS mulS at *
  rw [redS_add_left, redS_add_right, ← redS_add_left, redS_mul_right, redS_add_left, ← S_mul, ← S_add]
  refine red_S fun t ht => ?_
  rw [h t ht, redS_add_left, redS_mul_left]
  congr 1
  rw [Int.add_mul, Int.mul_assoc]
theorem lin_comp (p : Int) (n m : Nat) (f : Nat → Int) (M : Nat → Nat → Int) (V : Nat → Int) :
    redS p (S m (fun o => redS p (S n (fun i => f i * M i o)) * V o)) = redS p (S n (fun i => f i * S m (fun o => M i o * V o))) := by
  have e : redS p (S m (fun o => redS p (S n (fun i => f i * M i o)) * V o)) = redS p (S m (fun o => S n (fun i => f i * (M i o * V o)))) := by
    refine red_S fun o _ => ?_
    rw [redS_mul_left, ← S_mulr]
    congr 1
    exact S_congr fun i _ => Int.mul_assoc _ _ _
  rw [e, S_comm]
  congr 1
  exact S_congr fun i _ => S_mul _ _ _
/-- A word of a transform, there or back. -/
def trF (p : Int) (neg inv : Bool) (x : List Int) (o : Nat) : Int :=
  linF p (fun i => wgt (rootS p (ordS x.length neg)).1 (backS p (ordS x.length neg)).1 (invS p x.length).1 neg inv i o) x
def trL (p : Int) (neg inv : Bool) (x : List Int) : List Int := (List.range x.length).map (trF p neg inv x)
def trS (p : Int) (neg inv : Bool) (x : List Int) : List Int × Int := if chk6 p x neg = 0 then (trL p neg inv x, 0) else ([], chk6 p x neg)
theorem trL_length (p : Int) (neg inv : Bool) (x : List Int) : (trL p neg inv x).length = x.length := by simp [trL]
theorem trL_at (p : Int) (neg inv : Bool) (x : List Int) {o : Nat} (h : o < x.length) (d : Int) : (trL p neg inv x).getD o d = trF p neg inv x o := by
  rw [List.getD_eq_getElem?_getD]; simp [trL, h]
theorem trL_u64 (p : Int) (neg inv : Bool) (x : List Int) : ∀ d ∈ trL p neg inv x, U64 d := by
  intro d hd
  simp only [trL, List.mem_map] at hd
  obtain ⟨u, _, rfl⟩ := hd
  exact u64_linF _ _ _
theorem trL_in {p : Int} (hk : knownS p = true) (neg inv : Bool) (x : List Int) : inS p (trL p neg inv x) = true := by
  rw [inS_all, hk]
  intro j hj
  have h1 := List.getElem_mem hj
  simp only [trL, List.mem_map] at h1
  obtain ⟨u, _, h2⟩ := h1
  rw [show (trL p neg inv x)[j] = trF p neg inv x u from h2.symm]
  exact redS_hi _ hk
structure Chk6 (p : Int) (n : Nat) (neg : Bool) : Prop where
  known : knownS p = true
  n1 : 1 ≤ n
  n2 : n ≤ 4096
  smooth : smoothS n = true
  root : (rootS p (ordS n neg)).2 = 0
theorem smooth_pos {n : Int} (h : smoothS n = true) : 1 ≤ n ∧ n ≤ 4096 := by
  unfold smoothS facS at h
  split at h
  · assumption
  · simp at h
theorem chk6_ok {p : Int} {x : List Int} {neg : Bool} (h : chk6 p x neg = 0) : Chk6 p x.length neg ∧ inS p x = true := by
  unfold chk6 at h
  split at h
  · rename_i hk
    split at h
    · rename_i hs
      split at h
      · rename_i hr
        split at h
        · rename_i hi
          have := smooth_pos hs
          exact ⟨⟨hk, by omega, by omega, hs, hr⟩, hi⟩
        · exact absurd h (by decide)
      · rename_i hr; exact absurd h hr
    · exact absurd h (by decide)
  · exact absurd h (by decide)
theorem Chk6.ok {p : Int} {x : List Int} {neg : Bool} (h : Chk6 p x.length neg) (hi : inS p x = true) : chk6 p x neg = 0 := by
  rw [chk6, if_pos h.known, if_pos h.smooth, if_pos h.root, if_pos hi]
theorem Chk6.lk {p : Int} {n : Nat} {neg : Bool} (h : Chk6 p n neg) : ∃ a a' c d, Lk p n neg (rootS p (ordS n neg)).1 (backS p (ordS n neg)).1 (invS p n).1 a a' c d := lk_of h.n1 h.n2 h.root
theorem in_at {p : Int} {x : List Int} (h : inS p x = true) (hu : ∀ d ∈ x, U64 d) {i : Nat} (hi : i < x.length) : 0 ≤ x.getD i 0 ∧ x.getD i 0 < p := by
  have e : x.getD i 0 = x[i] := by rw [List.getD_eq_getElem?_getD, List.getElem?_eq_getElem hi]; rfl
  unfold inS at h
  rw [Bool.and_eq_true, List.all_eq_true] at h
  have h1 := h.1 _ (List.getElem_mem hi)
  have h2 := hu _ (List.getElem_mem hi)
  rw [e]
  exact ⟨h2.1, by simpa using h1⟩
/-- There and back. -/
theorem trF_back {p : Int} {x : List Int} {neg : Bool} (h : Chk6 p x.length neg) (hi : inS p x = true) (hu : ∀ d ∈ x, U64 d) (inv : Bool) {s : Nat} (hs : s < x.length) :
    trF p neg (!inv) (trL p neg inv x) s = x.getD s 0 := by
  obtain ⟨a, a', c, d, hL⟩ := h.lk
  unfold trF linF
  rw [trL_length]
  have e1 : redS p (S x.length (fun i => (trL p neg inv x).getD i 0 * wgt (rootS p (ordS x.length neg)).1 (backS p (ordS x.length neg)).1 (invS p x.length).1 neg (!inv) i s)) =
      redS p (S x.length (fun i => redS p (S x.length (fun t => x.getD t 0 * wgt (rootS p (ordS x.length neg)).1 (backS p (ordS x.length neg)).1 (invS p x.length).1 neg inv t i)) * wgt (rootS p (ordS x.length neg)).1 (backS p (ordS x.length neg)).1 (invS p x.length).1 neg (!inv) i s)) := by
    congr 1
    refine S_congr fun i hi => ?_
    rw [trL_at p neg inv x hi]; rfl
  rw [e1, lin_comp]
  have e2 : redS p (S x.length (fun i => x.getD i 0 * S x.length (fun o => wgt (rootS p (ordS x.length neg)).1 (backS p (ordS x.length neg)).1 (invS p x.length).1 neg inv i o * wgt (rootS p (ordS x.length neg)).1 (backS p (ordS x.length neg)).1 (invS p x.length).1 neg (!inv) o s))) = redS p (S x.length (fun i => if i = s then x.getD s 0 else 0)) := by
    refine red_S fun i hi => ?_
    rw [← redS_mul_right, hL.undo inv hi hs]
    by_cases e : i = s
    · subst e; rw [if_pos rfl, if_pos rfl, Int.mul_one]
    · rw [if_neg e, if_neg e, Int.mul_zero]
  rw [e2, S_one hs (fun i _ hi => if_neg hi), if_pos rfl]
  have := in_at hi hu hs
  exact redS_small h.known this.1 this.2
theorem trS_back {p : Int} {x : List Int} {neg : Bool} (h : chk6 p x neg = 0) (hu : ∀ d ∈ x, U64 d) (inv : Bool) : trS p neg (!inv) (trL p neg inv x) = (x, 0) := by
  obtain ⟨hc, hi⟩ := chk6_ok h
  have h2 : chk6 p (trL p neg inv x) neg = 0 := Chk6.ok (by rw [trL_length]; exact hc) (trL_in hc.known _ _ _)
  rw [trS, if_pos h2]
  congr 1
  apply List.ext_getElem
  · rw [trL_length, trL_length]
  · intro s h3 h4
    have e := trF_back hc hi hu inv h4
    rw [← trL_at p neg (!inv) (trL p neg inv x) (by rw [trL_length]; exact h4) 0] at e
    rw [List.getD_eq_getElem?_getD, List.getElem?_eq_getElem h3, List.getD_eq_getElem?_getD, List.getElem?_eq_getElem h4] at e
    exact e
/-- Words of a product that goes around: what words i and j make of word m. -/
def wrT (neg : Bool) (n : Nat) (x y : List Int) (m i j : Nat) : Int :=
  if (i + j) % n = m then (if neg && decide (n ≤ i + j) then -(x.getD i 0 * y.getD j 0) else x.getD i 0 * y.getD j 0) else 0
def wrF (p : Int) (neg : Bool) (n : Nat) (x y : List Int) (m : Nat) : Int := redS p (S n (fun i => S n (fun j => wrT neg n x y m i j)))
def wrL (p : Int) (neg : Bool) (x y : List Int) : List Int := (List.range x.length).map (wrF p neg x.length x y)
def wrS (p : Int) (neg : Bool) (x y : List Int) : List Int × Int :=
  if chk6 p x neg = 0 then (if chk6 p y neg = 0 then (if y.length = x.length then (wrL p neg x y, 0) else ([], 6)) else ([], chk6 p y neg)) else ([], chk6 p x neg)
theorem wrL_length (p : Int) (neg : Bool) (x y : List Int) : (wrL p neg x y).length = x.length := by simp [wrL]
theorem wrL_at (p : Int) (neg : Bool) (x y : List Int) {o : Nat} (h : o < x.length) (d : Int) : (wrL p neg x y).getD o d = wrF p neg x.length x y o := by
  rw [List.getD_eq_getElem?_getD]; simp [wrL, h]
theorem wrL_u64 (p : Int) (neg : Bool) (x y : List Int) : ∀ d ∈ wrL p neg x y, U64 d := by
  intro d hd
  simp only [wrL, List.mem_map] at hd
  obtain ⟨u, _, rfl⟩ := hd
  exact u64_redS _ _
theorem wrL_in {p : Int} (hk : knownS p = true) (neg : Bool) (x y : List Int) : inS p (wrL p neg x y) = true := by
  rw [inS_all, hk]
  intro j hj
  have h1 := List.getElem_mem hj
  simp only [wrL, List.mem_map] at h1
  obtain ⟨u, _, h2⟩ := h1
  rw [show (wrL p neg x y)[j] = wrF p neg x.length x y u from h2.symm]
  exact redS_hi _ hk
theorem wrT_comm (neg : Bool) (n : Nat) (x y : List Int) (m i j : Nat) : wrT neg n x y m i j = wrT neg n y x m j i := by
  unfold wrT
  rw [Nat.add_comm i j, Int.mul_comm]
theorem wrL_comm (p : Int) (neg : Bool) {x y : List Int} (h : y.length = x.length) : wrL p neg x y = wrL p neg y x := by
  unfold wrL
  rw [h]
  congr 1
  funext m
  unfold wrF
  rw [S_comm]
  congr 1
  exact S_congr fun i _ => S_congr fun j _ => wrT_comm ..
/-- The transform of a product that goes around. -/
theorem trF_wrap {p : Int} {x y : List Int} {neg : Bool} (h : Chk6 p x.length neg) (hy : y.length = x.length) (o : Nat) :
    trF p neg false (wrL p neg x y) o = mulS p (trF p neg false x o) (trF p neg false y o) := by
  obtain ⟨a, a', c, d, hL⟩ := h.lk
  have hn := h.n1
  unfold trF linF
  rw [wrL_length, hy]
  generalize (rootS p (ordS x.length neg)).1 = w at *
  generalize (backS p (ordS x.length neg)).1 = b at *
  generalize (invS p x.length).1 = l at *
  have eW : ∀ i, wgt w b l neg false i o = w ^ stp neg i o := fun i => by simp [wgt]
  simp only [eW]
  have hW : ∀ i j, w ^ stp neg (i + j) o = w ^ stp neg i o * w ^ stp neg j o := fun i j => by rw [stp_add, Int.pow_add]
  have hWn : redS p (w ^ stp neg x.length o) = redS p (if neg then -1 else 1) := by
    cases neg with
    | false =>
      rw [stp, if_neg (by decide), Int.pow_mul, red_pow hL.wn, if_neg (by decide), Int.one_pow]
    | true =>
      rw [stp, if_pos rfl, Int.pow_mul, red_pow hL.wn, if_pos rfl]
      congr 1
      rw [Int.pow_add, Int.pow_mul]; simp [show ((-1 : Int) ^ 2) = 1 from rfl, Int.one_pow]
  generalize hWd : (fun i => w ^ stp neg i o) = W
  have hWd' : ∀ i, w ^ stp neg i o = W i := fun i => by rw [← hWd]
  simp only [hWd'] at *
  generalize hn' : x.length = n at *
  have e1 : redS p (S n (fun m => (wrL p neg x y).getD m 0 * W m)) = redS p (S n (fun i => S n (fun j => S n (fun m => wrT neg n x y m i j * W m)))) := by
    have : redS p (S n (fun m => (wrL p neg x y).getD m 0 * W m)) = redS p (S n (fun m => S n (fun i => S n (fun j => wrT neg n x y m i j * W m)))) := by
      refine red_S fun m hm => ?_
      rw [wrL_at p neg x y (by rw [hn']; exact hm), hn', wrF, redS_mul_left, ← S_mulr]
      congr 1
      exact S_congr fun i _ => (S_mulr _ _ _).symm
    rw [this, S_comm]
    congr 1
    refine S_congr fun i _ => ?_
    rw [S_comm]
  rw [e1]
  have e2 : redS p (S n (fun i => S n (fun j => S n (fun m => wrT neg n x y m i j * W m)))) = redS p (S n (fun i => S n (fun j => (x.getD i 0 * W i) * (y.getD j 0 * W j)))) := by
    refine red_S fun i hi => red_S fun j hj => ?_
    have hm : (i + j) % n < n := Nat.mod_lt _ (by omega)
    rw [S_one hm (fun m _ hne => by rw [wrT, if_neg (fun e => hne e.symm), Int.zero_mul]), wrT, if_pos rfl]
    have hmain : redS p (W i * W j) = redS p ((if (neg && decide (n ≤ i + j)) = true then -1 else 1) * W ((i + j) % n)) := by
      rw [← hW]
      by_cases hge : n ≤ i + j
      · have hd : decide (n ≤ i + j) = true := by simpa using hge
        have e3 : i + j = (i + j - n) + n := by omega
        rw [hd, Bool.and_true, Nat.mod_eq_sub_mod hge, Nat.mod_eq_of_lt (by omega)]
        rw [e3, hW, show i + j - n + n - n = i + j - n from by omega, Int.mul_comm]
        exact red_mul hWn rfl
      · have hd : decide (n ≤ i + j) = false := by simpa using hge
        rw [hd, Bool.and_false, if_neg (by decide), Int.one_mul, Nat.mod_eq_of_lt (by omega)]
    rw [show (x.getD i 0 * W i) * (y.getD j 0 * W j) = (x.getD i 0 * y.getD j 0) * (W i * W j) from by grind, ← redS_mul_right p _ (W i * W j), hmain, redS_mul_right]
    congr 1
    split
    · grind
    · grind
  rw [e2]
  unfold mulS
  rw [redS_mul_left, redS_mul_right, ← S_mulr]
  congr 1
  exact S_congr fun i _ => S_mul _ _ _
/-- Sums of words up to a place. -/
def sumF (p : Int) (M : Nat → Int) (x : List Int) (k : Nat) : Int := redS p (S k (fun i => x.getD i 0 * M i))
theorem sumF_zero (p : Int) (M : Nat → Int) (x : List Int) : sumF p M x 0 = 0 := by unfold sumF; simp [S, redS_zero]
theorem sumF_step (p : Int) (M : Nat → Int) (x : List Int) (k : Nat) {v : Int} (h : redS p v = redS p (M k)) : addS p (sumF p M x k) (mulS p (x.getD k 0) v) = sumF p M x (k + 1) := by
  unfold addS mulS sumF
  rw [redS_add_left, redS_add_right, S]
  exact red_add rfl (red_mul rfl h)
theorem sumF_all (p : Int) (M : Nat → Int) (x : List Int) : sumF p M x x.length = linF p M x := rfl
theorem u64_sumF (p : Int) (M : Nat → Int) (x : List Int) (k : Nat) : U64 (sumF p M x k) := u64_redS _ _
/-- Powers in a table of twice as many. -/
theorem pow_table {p w : Int} {m : Nat} (h : redS p (w ^ m) = redS p 1) (k : Nat) : redS p (powS p w (k % m)) = redS p (w ^ k) := by
  unfold powS
  rw [redS_redS]
  have e : w ^ k = (w ^ m) ^ (k / m) * w ^ (k % m) := by
    rw [← Int.pow_mul, ← Int.pow_add, Nat.div_add_mod]
  rw [e, red_mul (red_pow h _) rfl, Int.one_pow, Int.one_mul]
end Go.Proofs.YtohcoidbncbijaaDoor.P
/- Words of several axes, plainly: an axis there and back, two axes in either order. Under no condition beside those of each lemma. -/
namespace Go.Proofs.YtohcoidbncbijaaDoor.P
set_option linter.unusedVariables false
/-- Axes: how long, and whether Neg. -/
def dimsA (ax : List (Int × Bool)) : List Int := ax.map (·.1)
def ordA (a : Int × Bool) : Int := if a.2 then a.1 * 2 else a.1
def chk7 (p : Int) (ax : List (Int × Bool)) : Int :=
  if knownS p then (if Dims (dimsA ax) then (if ∀ a ∈ ax, smoothS a.1 = true then (if ∀ a ∈ ax, (rootS p (ordA a)).2 = 0 then 0 else 5) else 4) else 3) else 2
def wrd7 (p : Int) (ax : List (Int × Bool)) (x : List Int) : Int :=
  if chk7 p ax = 0 then (if prodL (dimsA ax) = x.length then (if inS p x then 0 else 7) else 6) else chk7 p ax
theorem dimsA_length (ax : List (Int × Bool)) : (dimsA ax).length = ax.length := by simp [dimsA]
/-- The place whose coordinate of an axis is another one. -/
def sv (l : List Int) (N : Nat) (v c : Int) : Int := vOf (prodL (l.drop (N + 1))) (l.getD N 1) (kOf (prodL (l.drop (N + 1))) (l.getD N 1) v) c
def xv (l : List Int) (N : Nat) (v : Int) : Int := xOf (prodL (l.drop (N + 1))) (l.getD N 1) v
theorem xv_coord (l : List Int) (N : Nat) (v : Int) : xv l N v = coordF l v N := rfl
structure AxAt (l : List Int) (N : Nat) : Prop where
  pos : Pos l
  lt : N < l.length
theorem AxAt.I1 {l : List Int} {N : Nat} (h : AxAt l N) : 1 ≤ prodL (l.drop (N + 1)) := (h.pos.drop _).prod
theorem AxAt.D1 {l : List Int} {N : Nat} (h : AxAt l N) : 1 ≤ l.getD N 1 := by rw [getD_at h.lt]; exact h.pos.at h.lt
theorem AxAt.prod {l : List Int} {N : Nat} (h : AxAt l N) : prodL l = prodL (l.take N) * l.getD N 1 * prodL (l.drop (N + 1)) := by
  rw [getD_at h.lt, ← prodL_take l N h.lt, ← prodL_append, List.take_append_drop]
theorem AxAt.xv {l : List Int} {N : Nat} (h : AxAt l N) (v : Int) : 0 ≤ xv l N v ∧ P.xv l N v < l.getD N 1 := xOf_bound h.D1
theorem AxAt.sv_xv {l : List Int} {N : Nat} (h : AxAt l N) (v : Int) : sv l N v (P.xv l N v) = v := vOf_of h.I1
theorem AxAt.xv_sv {l : List Int} {N : Nat} (h : AxAt l N) (v : Int) {c : Int} (c0 : 0 ≤ c) (c1 : c < l.getD N 1) : P.xv l N (sv l N v c) = c := xOf_vOf h.I1 c0 c1
theorem AxAt.sv_sv {l : List Int} {N : Nat} (h : AxAt l N) (v : Int) {c : Int} (c0 : 0 ≤ c) (c1 : c < l.getD N 1) (d : Int) : sv l N (sv l N v c) d = sv l N v d := by
  unfold sv; rw [kOf_vOf h.I1 c0 c1]
theorem AxAt.sv_in {l : List Int} {N : Nat} (h : AxAt l N) {v : Int} (v0 : 0 ≤ v) (v1 : v < prodL l) {c : Int} (c0 : 0 ≤ c) (c1 : c < l.getD N 1) : 0 ≤ sv l N v c ∧ sv l N v c < prodL l := by
  have h1 := kOf_bound h.I1 h.D1 v0 (by rw [← h.prod]; exact v1)
  have h2 := vOf_bound h.I1 h.D1 h1.1 h1.2 c0 c1
  rw [← h.prod] at h2
  exact h2
theorem AxAt.coord_sv {l : List Int} {N : Nat} (h : AxAt l N) (v : Int) {c : Int} (c0 : 0 ≤ c) (c1 : c < l.getD N 1) : coordL l (sv l N v c) = (coordL l v).set N c := by
  have hx := h.xv v
  have e := h.sv_xv v
  have hD : l.getD N 1 = l[N]'h.lt := getD_at h.lt 1
  have e1 := coordL_line h.pos h.lt (kOf (prodL (l.drop (N + 1))) (l.getD N 1) v) hx.1 (by rw [← hD]; exact hx.2)
  have e2 := coordL_line h.pos h.lt (kOf (prodL (l.drop (N + 1))) (l.getD N 1) v) c0 (by rw [← hD]; exact c1)
  rw [← hD] at e1 e2
  have e3 : coordL l v = (coordL l (vOf (prodL (l.drop (N + 1))) (l.getD N 1) (kOf (prodL (l.drop (N + 1))) (l.getD N 1) v) 0)).set N (P.xv l N v) := by rw [e1]; exact congrArg _ e.symm
  rw [e3, List.set_set, e2]; rfl
theorem coordL_inj {l : List Int} (hp : Pos l) {u v : Int} (u0 : 0 ≤ u) (u1 : u < prodL l) (v0 : 0 ≤ v) (v1 : v < prodL l) (h : coordL l u = coordL l v) : u = v := by
  have e1 := hor_coord hp u0 u1 l.length (Nat.le_refl _)
  have e2 := hor_coord hp v0 v1 l.length (Nat.le_refl _)
  rw [h, e2] at e1
  simpa [List.drop_length, prodL] using e1.symm
theorem coordF_get (l : List Int) (v : Int) {N : Nat} (h : N < l.length) : coordF l v N = (coordL l v).getD N 0 := (coordL_at l v h).symm
theorem AxAt.xv_other {l : List Int} {a b : Nat} (ha : AxAt l a) (hb : AxAt l b) (hne : a ≠ b) (v : Int) {c : Int} (c0 : 0 ≤ c) (c1 : c < l.getD a 1) : P.xv l b (sv l a v c) = P.xv l b v := by
  rw [xv_coord, xv_coord, coordF_get _ _ hb.lt, coordF_get _ _ hb.lt, ha.coord_sv v c0 c1, List.getD_eq_getElem?_getD, List.getD_eq_getElem?_getD, List.getElem?_set_ne hne]
theorem AxAt.sv_comm {l : List Int} {a b : Nat} (ha : AxAt l a) (hb : AxAt l b) (hne : a ≠ b) {v : Int} (v0 : 0 ≤ v) (v1 : v < prodL l) {c d : Int} (c0 : 0 ≤ c) (c1 : c < l.getD a 1) (d0 : 0 ≤ d) (d1 : d < l.getD b 1) :
    sv l b (sv l a v c) d = sv l a (sv l b v d) c := by
  have h1 := ha.sv_in v0 v1 c0 c1
  have h2 := hb.sv_in v0 v1 d0 d1
  have h3 := hb.sv_in h1.1 h1.2 d0 d1
  have h4 := ha.sv_in h2.1 h2.2 c0 c1
  refine coordL_inj ha.pos h3.1 h3.2 h4.1 h4.2 ?_
  rw [hb.coord_sv _ d0 d1, ha.coord_sv _ c0 c1, ha.coord_sv _ c0 c1, hb.coord_sv _ d0 d1]
  exact List.set_comm _ _ hne
/-- The row of a place, and a word of an axis that is transformed. -/
def rowP (l : List Int) (N : Nat) (x : List Int) (v : Int) : List Int := (List.range (l.getD N 1).toNat).map fun c : Nat => x.getD (sv l N v c).toNat 0
theorem rowP_length (l : List Int) (N : Nat) (x : List Int) (v : Int) : (rowP l N x v).length = (l.getD N 1).toNat := by simp [rowP]
theorem rowP_at (l : List Int) (N : Nat) (x : List Int) (v : Int) {c : Nat} (h : c < (l.getD N 1).toNat) : (rowP l N x v).getD c 0 = x.getD (sv l N v c).toNat 0 := by
  unfold rowP
  rw [List.getD_eq_getElem?_getD, List.getElem?_map, List.getElem?_range h]; rfl
def axF (p : Int) (l : List Int) (N : Nat) (neg inv : Bool) (x : List Int) (v : Int) : Int := trF p neg inv (rowP l N x v) (xv l N v).toNat
def axL (p : Int) (l : List Int) (N : Nat) (neg inv : Bool) (x : List Int) : List Int := (List.range x.length).map fun v : Nat => axF p l N neg inv x (v : Int)
theorem axL_length (p : Int) (l : List Int) (N : Nat) (neg inv : Bool) (x : List Int) : (axL p l N neg inv x).length = x.length := by simp [axL]
theorem axL_at (p : Int) (l : List Int) (N : Nat) (neg inv : Bool) (x : List Int) {v : Nat} (h : v < x.length) (d : Int) : (axL p l N neg inv x).getD v d = axF p l N neg inv x v := by
  rw [List.getD_eq_getElem?_getD]; simp [axL, h]
theorem axL_u64 (p : Int) (l : List Int) (N : Nat) (neg inv : Bool) (x : List Int) : ∀ d ∈ axL p l N neg inv x, U64 d := by
  intro d hd
  simp only [axL, List.mem_map] at hd
  obtain ⟨u, _, rfl⟩ := hd
  exact u64_linF _ _ _
theorem axL_in {p : Int} (hk : knownS p = true) (l : List Int) (N : Nat) (neg inv : Bool) (x : List Int) : inS p (axL p l N neg inv x) = true := by
  rw [inS_all, hk]
  intro j hj
  have h1 := List.getElem_mem hj
  simp only [axL, List.mem_map] at h1
  obtain ⟨u, _, h2⟩ := h1
  rw [show (axL p l N neg inv x)[j] = axF p l N neg inv x (u : Int) from h2.symm]
  exact redS_hi _ hk
/-- The weights of an axis. -/
def axW (p : Int) (l : List Int) (N : Nat) (neg inv : Bool) (c o : Nat) : Int :=
  wgt (rootS p (ordS (l.getD N 1).toNat neg)).1 (backS p (ordS (l.getD N 1).toNat neg)).1 (invS p (l.getD N 1).toNat).1 neg inv c o
theorem axF_is (p : Int) (l : List Int) (N : Nat) (neg inv : Bool) (x : List Int) (v : Int) :
    axF p l N neg inv x v = redS p (S (l.getD N 1).toNat (fun c => x.getD (sv l N v c).toNat 0 * axW p l N neg inv c (xv l N v).toNat)) := by
  unfold axF trF linF
  rw [rowP_length]
  congr 1
  exact S_congr fun c hc => by rw [rowP_at _ _ _ _ hc]; rfl
theorem AxAt.axF_at {l : List Int} {N : Nat} (h : AxAt l N) (p : Int) (neg inv : Bool) (x : List Int) (hx : prodL l = x.length) {M : Nat} (hM : AxAt l M) {v : Int} (v0 : 0 ≤ v) (v1 : v < prodL l) {c : Nat} (hc : c < (l.getD M 1).toNat) :
    (axL p l N neg inv x).getD (sv l M v c).toNat 0 = axF p l N neg inv x (sv l M v c) := by
  have h1 := hM.sv_in v0 v1 (c := (c : Int)) (by omega) (by omega)
  rw [axL_at _ _ _ _ _ _ (by omega), Int.toNat_of_nonneg h1.1]
/-- An axis there and back. -/
theorem AxAt.undo {l : List Int} {N : Nat} (h : AxAt l N) {p : Int} {neg : Bool} (hc : Chk6 p (l.getD N 1).toNat neg) {x : List Int} (hx : prodL l = x.length) (hi : inS p x = true) (hu : ∀ d ∈ x, U64 d) (inv : Bool) :
    axL p l N neg (!inv) (axL p l N neg inv x) = x := by
  obtain ⟨a, a', c, d, hL⟩ := hc.lk
  apply List.ext_getElem
  · rw [axL_length, axL_length]
  · intro V h1 h2
    have e0 := axL_at p l N neg (!inv) (axL p l N neg inv x) (v := V) (by rw [axL_length]; exact h2) 0
    rw [List.getD_eq_getElem?_getD, List.getElem?_eq_getElem h1] at e0
    have v0 : (0 : Int) ≤ (V : Int) := by omega
    have v1 : (V : Int) < prodL l := by rw [hx]; omega
    have hxv := h.xv V
    obtain ⟨s, hs⟩ := Int.eq_ofNat_of_zero_le hxv.1
    have hs1 : s < (l.getD N 1).toNat := by omega
    refine (show (axL p l N neg (!inv) (axL p l N neg inv x))[V] = _ from e0).trans ?_
    rw [axF_is]
    have e1 : redS p (S (l.getD N 1).toNat (fun c => (axL p l N neg inv x).getD (sv l N V c).toNat 0 * axW p l N neg (!inv) c (P.xv l N V).toNat)) =
        redS p (S (l.getD N 1).toNat (fun o => redS p (S (l.getD N 1).toNat (fun i => x.getD (sv l N V i).toNat 0 * axW p l N neg inv i o)) * axW p l N neg (!inv) o s)) := by
      congr 1
      refine S_congr fun o ho => ?_
      rw [h.axF_at p neg inv x hx h v0 v1 ho, axF_is, h.xv_sv V (by omega) (by omega), Int.toNat_natCast, hs, Int.toNat_natCast]
      congr 2
      exact S_congr fun i _ => by rw [h.sv_sv V (by omega) (by omega)]
    rw [e1, lin_comp]
    have e2 : redS p (S (l.getD N 1).toNat (fun i => x.getD (sv l N V i).toNat 0 * S (l.getD N 1).toNat (fun o => axW p l N neg inv i o * axW p l N neg (!inv) o s))) =
        redS p (S (l.getD N 1).toNat (fun i => if i = s then x.getD V 0 else 0)) := by
      refine red_S fun i hi => ?_
      rw [← redS_mul_right]
      unfold axW
      rw [hL.undo inv hi hs1]
      by_cases e : i = s
      · subst e
        rw [if_pos rfl, if_pos rfl, Int.mul_one, ← hs, h.sv_xv, Int.toNat_natCast]
      · rw [if_neg e, if_neg e, Int.mul_zero]
    rw [e2, S_one hs1 (fun i _ hi => if_neg hi), if_pos rfl]
    have h3 := in_at hi hu h2
    rw [redS_small hc.known h3.1 h3.2, List.getD_eq_getElem?_getD, List.getElem?_eq_getElem h2]; rfl
theorem lin_two (p : Int) (m n : Nat) (f : Nat → Nat → Int) (A B : Nat → Int) :
    redS p (S m (fun c => redS p (S n (fun d => f c d * B d)) * A c)) = redS p (S m (fun c => S n (fun d => f c d * (A c * B d)))) := by
  refine red_S fun c _ => ?_
  rw [redS_mul_left, ← S_mulr]
  congr 1
  exact S_congr fun d _ => by grind
/-- Two axes in either order. -/
theorem AxAt.comm {l : List Int} {a b : Nat} (ha : AxAt l a) (hb : AxAt l b) (hne : a ≠ b) (p : Int) (na nb inv jnv : Bool) {x : List Int} (hx : prodL l = x.length) :
    axL p l a na inv (axL p l b nb jnv x) = axL p l b nb jnv (axL p l a na inv x) := by
  apply List.ext_getElem
  · simp only [axL_length]
  · intro V h1 h2
    have hV : V < x.length := by simpa only [axL_length] using h1
    have e0 := axL_at p l a na inv (axL p l b nb jnv x) (v := V) (by rw [axL_length]; exact hV) 0
    have f0 := axL_at p l b nb jnv (axL p l a na inv x) (v := V) (by rw [axL_length]; exact hV) 0
    rw [List.getD_eq_getElem?_getD, List.getElem?_eq_getElem h1] at e0
    rw [List.getD_eq_getElem?_getD, List.getElem?_eq_getElem h2] at f0
    have v0 : (0 : Int) ≤ (V : Int) := by omega
    have v1 : (V : Int) < prodL l := by rw [hx]; omega
    refine (show (axL p l a na inv (axL p l b nb jnv x))[V] = _ from e0).trans (Eq.trans ?_ (show (axL p l b nb jnv (axL p l a na inv x))[V] = _ from f0).symm)
    rw [axF_is, axF_is]
    have key : ∀ (a b : Nat) (na nb inv jnv : Bool) (ha : AxAt l a) (hb : AxAt l b) (hne : a ≠ b),
        redS p (S (l.getD a 1).toNat (fun c => (axL p l b nb jnv x).getD (sv l a V c).toNat 0 * axW p l a na inv c (P.xv l a V).toNat)) =
        redS p (S (l.getD a 1).toNat (fun c => S (l.getD b 1).toNat (fun d => x.getD (sv l b (sv l a V c) d).toNat 0 * (axW p l a na inv c (P.xv l a V).toNat * axW p l b nb jnv d (P.xv l b V).toNat)))) := fun a b na nb inv jnv ha hb hne => by
      rw [← lin_two]
      congr 1
      refine S_congr fun c hc => ?_
      rw [hb.axF_at p nb jnv x hx ha v0 v1 hc, axF_is, ha.xv_other hb hne V (by omega) (by omega)]
    rw [key a b na nb inv jnv ha hb hne, key b a nb na jnv inv hb ha (Ne.symm hne), S_comm]
    congr 1
    refine S_congr fun d hd => S_congr fun c hc => ?_
    rw [ha.sv_comm hb hne v0 v1 (by omega) (by omega) (by omega) (by omega), Int.mul_comm (axW p l a na inv c _)]
/-- All axes, one behind the other. -/
def grN (p : Int) (ax : List (Int × Bool)) (inv : Bool) (x : List Int) : Nat → List Int
  | 0 => x
  | k + 1 => axL p (dimsA ax) k (ax.getD k (1, false)).2 inv (grN p ax inv x k)
theorem grN_length (p : Int) (ax : List (Int × Bool)) (inv : Bool) (x : List Int) : ∀ k, (grN p ax inv x k).length = x.length
  | 0 => rfl
  | k + 1 => by rw [grN, axL_length, grN_length p ax inv x k]
theorem grN_u64 (p : Int) (ax : List (Int × Bool)) (inv : Bool) {x : List Int} (hu : ∀ d ∈ x, U64 d) : ∀ k, ∀ d ∈ grN p ax inv x k, U64 d
  | 0 => hu
  | k + 1 => axL_u64 _ _ _ _ _ _
theorem grN_in {p : Int} (hk : knownS p = true) (ax : List (Int × Bool)) (inv : Bool) {x : List Int} (hi : inS p x = true) : ∀ k, inS p (grN p ax inv x k) = true
  | 0 => hi
  | k + 1 => axL_in hk _ _ _ _ _
def grS (p : Int) (ax : List (Int × Bool)) (inv : Bool) (x : List Int) : List Int × Int := if wrd7 p ax x = 0 then (grN p ax inv x ax.length, 0) else ([], wrd7 p ax x)
def axS (p : Int) (ax : List (Int × Bool)) (a : Int) (inv : Bool) (x : List Int) : List Int × Int :=
  if wrd7 p ax x = 0 then (if 0 ≤ a ∧ a < ax.length then (axL p (dimsA ax) a.toNat (ax.getD a.toNat (1, false)).2 inv x, 0) else ([], 1)) else ([], wrd7 p ax x)
structure Chk7 (p : Int) (ax : List (Int × Bool)) : Prop where
  known : knownS p = true
  dims : Dims (dimsA ax)
  smooth : ∀ a ∈ ax, smoothS a.1 = true
  root : ∀ a ∈ ax, (rootS p (ordA a)).2 = 0
theorem chk7_ok {p : Int} {ax : List (Int × Bool)} (h : chk7 p ax = 0) : Chk7 p ax := by
  unfold chk7 at h
  split at h
  · split at h
    · split at h
      · split at h
        · exact ⟨by assumption, by assumption, by assumption, by assumption⟩
        · exact absurd h (by decide)
      · exact absurd h (by decide)
    · exact absurd h (by decide)
  · exact absurd h (by decide)
theorem Chk7.ok {p : Int} {ax : List (Int × Bool)} (h : Chk7 p ax) : chk7 p ax = 0 := by
  rw [chk7, if_pos h.known, if_pos h.dims, if_pos h.smooth, if_pos h.root]
theorem wrd7_ok {p : Int} {ax : List (Int × Bool)} {x : List Int} (h : wrd7 p ax x = 0) : Chk7 p ax ∧ prodL (dimsA ax) = x.length ∧ inS p x = true := by
  unfold wrd7 at h
  split at h
  · rename_i hc
    split at h
    · rename_i hl
      split at h
      · rename_i hi; exact ⟨chk7_ok hc, hl, hi⟩
      · exact absurd h (by decide)
    · exact absurd h (by decide)
  · rename_i hc; exact absurd h hc
theorem Chk7.words {p : Int} {ax : List (Int × Bool)} (h : Chk7 p ax) {x : List Int} (hl : prodL (dimsA ax) = x.length) (hi : inS p x = true) : wrd7 p ax x = 0 := by
  rw [wrd7, if_pos h.ok, if_pos hl, if_pos hi]
theorem dimsA_at (ax : List (Int × Bool)) {k : Nat} (h : k < ax.length) (d : Int) : (dimsA ax).getD k d = (ax.getD k (1, false)).1 := by
  rw [List.getD_eq_getElem?_getD, List.getD_eq_getElem?_getD]; simp [dimsA, h]
theorem Chk7.at {p : Int} {ax : List (Int × Bool)} (h : Chk7 p ax) {k : Nat} (hk : k < ax.length) : AxAt (dimsA ax) k ∧ Chk6 p ((dimsA ax).getD k 1).toNat (ax.getD k (1, false)).2 := by
  have ha : AxAt (dimsA ax) k := ⟨h.dims.pos, by rw [dimsA_length]; exact hk⟩
  refine ⟨ha, ?_⟩
  have hm : ax.getD k (1, false) ∈ ax := by
    rw [List.getD_eq_getElem?_getD, List.getElem?_eq_getElem hk]; exact List.getElem_mem hk
  have h1 := ha.D1
  have h2 : (dimsA ax).getD k 1 ≤ 4096 := by
    rw [getD_at ha.lt]
    have := h.dims.pos.at_le ha.lt
    have := h.dims.all
    omega
  have hs := h.smooth _ hm
  have hr := h.root _ hm
  rw [← dimsA_at ax hk 1] at hs
  have e : ((((dimsA ax).getD k 1).toNat : Nat) : Int) = (dimsA ax).getD k 1 := Int.toNat_of_nonneg (by omega)
  refine ⟨h.known, by omega, by omega, by rw [e]; exact hs, ?_⟩
  unfold ordS
  rw [e, dimsA_at ax hk 1]
  exact hr
/-- An axis that is gone through anew comes out of all axes ahead of it. -/
theorem grN_comm {p : Int} {ax : List (Int × Bool)} (h : Chk7 p ax) (inv jnv : Bool) {a : Nat} (ha : a < ax.length) : ∀ (k : Nat) (x : List Int), prodL (dimsA ax) = x.length → k ≤ a →
    grN p ax inv (axL p (dimsA ax) a (ax.getD a (1, false)).2 jnv x) k = axL p (dimsA ax) a (ax.getD a (1, false)).2 jnv (grN p ax inv x k)
  | 0, x, _, _ => rfl
  | k + 1, x, hx, hk => by
    rw [grN, grN, grN_comm h inv jnv ha k x hx (by omega)]
    exact AxAt.comm (h.at (by omega)).1 (h.at ha).1 (by omega) _ _ _ _ _ (by rw [grN_length]; exact hx)
/-- All axes there and back. -/
theorem grN_undo {p : Int} {ax : List (Int × Bool)} (h : Chk7 p ax) (inv : Bool) : ∀ (k : Nat) (x : List Int), prodL (dimsA ax) = x.length → inS p x = true → (∀ d ∈ x, U64 d) → k ≤ ax.length →
    grN p ax (!inv) (grN p ax inv x k) k = x
  | 0, x, _, _, _, _ => rfl
  | k + 1, x, hx, hi, hu, hk => by
    have hk' : k < ax.length := by omega
    rw [grN, grN, grN_comm h (!inv) inv hk' k _ (by rw [grN_length]; exact hx) (Nat.le_refl _), grN_undo h inv k x hx hi hu (by omega)]
    exact (h.at hk').1.undo (h.at hk').2 hx hi hu inv
theorem grS_ok {p : Int} {ax : List (Int × Bool)} {inv : Bool} {x : List Int} (h : (grS p ax inv x).2 = 0) : wrd7 p ax x = 0 ∧ grS p ax inv x = (grN p ax inv x ax.length, 0) := by
  unfold grS at h ⊢
  split at h
  · rename_i hw; exact ⟨hw, by rw [if_pos hw]⟩
  · rename_i hw; exact absurd h hw
theorem grS_back {p : Int} {ax : List (Int × Bool)} {x : List Int} (h : wrd7 p ax x = 0) (hu : ∀ d ∈ x, U64 d) (inv : Bool) : grS p ax (!inv) (grN p ax inv x ax.length) = (x, 0) := by
  obtain ⟨hc, hl, hi⟩ := wrd7_ok h
  have h2 : wrd7 p ax (grN p ax inv x ax.length) = 0 := hc.words (by rw [grN_length]; exact hl) (grN_in hc.known _ _ hi _)
  rw [grS, if_pos h2, grN_undo hc inv _ x hl hi hu (Nat.le_refl _)]
/-- Words that come out of lines when k lines, and c words of the next, are over. -/
def grB (p : Int) (l : List Int) (N : Nat) (neg inv : Bool) (x : List Int) (k c : Nat) : List Int :=
  (List.range x.length).map fun v : Nat => if metB (prodL (l.drop (N + 1))) (l.getD N 1) k c v then axF p l N neg inv x (v : Int) else 0
theorem grB_length (p : Int) (l : List Int) (N : Nat) (neg inv : Bool) (x : List Int) (k c : Nat) : (grB p l N neg inv x k c).length = x.length := by simp [grB]
theorem AxAt.grB_start {l : List Int} {N : Nat} (h : AxAt l N) (p : Int) (neg inv : Bool) {x : List Int} (hx : prodL l = x.length) : grB p l N neg inv x 0 0 = List.replicate x.length 0 := by
  apply List.ext_getElem
  · simp [grB]
  · intro v h1 h2
    have hv : v < x.length := by simpa [grB] using h1
    have hk := kOf_bound h.I1 h.D1 (v := (v : Int)) (by omega) (by rw [← h.prod, hx]; omega)
    have hxv := xOf_bound (I := prodL (l.drop (N + 1))) (v := (v : Int)) h.D1
    have : metB (prodL (l.drop (N + 1))) (l.getD N 1) 0 0 v = false := by
      unfold metB
      rw [decide_eq_false (by omega), decide_eq_false (p := xOf _ _ (v : Int) < _) (by omega)]; simp
    simp only [grB, List.getElem_map, List.getElem_range, List.getElem_replicate]
    rw [this]; rfl
theorem AxAt.grB_step {l : List Int} {N : Nat} (h : AxAt l N) (p : Int) (neg inv : Bool) {x : List Int} {k c v : Nat} (hc : (c : Int) < l.getD N 1) (hv : (v : Int) = vOf (prodL (l.drop (N + 1))) (l.getD N 1) k c) (hvn : v < x.length) :
    (grB p l N neg inv x k c).set v (axF p l N neg inv x v) = grB p l N neg inv x k (c + 1) := by
  have ek : kOf (prodL (l.drop (N + 1))) (l.getD N 1) v = k := by rw [hv, kOf_vOf h.I1 (by omega) hc]
  have ex : xOf (prodL (l.drop (N + 1))) (l.getD N 1) v = c := by rw [hv, xOf_vOf h.I1 (by omega) hc]
  apply List.ext_getElem
  · simp [grB]
  · intro u h1 h2
    have hu : u < x.length := by simpa [grB] using h2
    rw [List.getElem_set]
    simp only [grB, List.getElem_map, List.getElem_range]
    split
    · rename_i e; subst e
      have : metB (prodL (l.drop (N + 1))) (l.getD N 1) k (c + 1) v = true := by
        unfold metB
        rw [decide_eq_true (p := kOf _ _ (v : Int) = k) ek, decide_eq_true (p := xOf _ _ (v : Int) < _) (by omega)]; simp
      rw [this]; rfl
    · rename_i e
      have : metB (prodL (l.drop (N + 1))) (l.getD N 1) k (c + 1) u = metB (prodL (l.drop (N + 1))) (l.getD N 1) k c u := by
        unfold metB
        by_cases hku : kOf (prodL (l.drop (N + 1))) (l.getD N 1) u = k
        · have hxu : xOf (prodL (l.drop (N + 1))) (l.getD N 1) u ≠ c := by
            intro hxu
            apply e
            have h3 := vOf_of (I := prodL (l.drop (N + 1))) (d := l.getD N 1) (v := (u : Int)) h.I1
            rw [hku, hxu, ← hv] at h3
            omega
          have : (xOf (prodL (l.drop (N + 1))) (l.getD N 1) u < ((c + 1 : Nat) : Int)) ↔ (xOf (prodL (l.drop (N + 1))) (l.getD N 1) u < (c : Int)) := by omega
          rw [decide_eq_decide.2 this]
        · rw [decide_eq_false (p := kOf _ _ (u : Int) = k) hku]; simp
      rw [this]
theorem AxAt.grB_line {l : List Int} {N : Nat} (h : AxAt l N) (p : Int) (neg inv : Bool) (x : List Int) (k : Nat) : grB p l N neg inv x k (l.getD N 1).toNat = grB p l N neg inv x (k + 1) 0 := by
  unfold grB
  congr 1
  funext u
  have hx := xOf_bound (I := prodL (l.drop (N + 1))) (v := (u : Int)) h.D1
  have : metB (prodL (l.drop (N + 1))) (l.getD N 1) k (l.getD N 1).toNat u = metB (prodL (l.drop (N + 1))) (l.getD N 1) (k + 1) 0 u := by
    unfold metB
    rw [decide_eq_true (p := xOf _ _ (u : Int) < ((l.getD N 1).toNat : Int)) (by omega), decide_eq_false (p := xOf _ _ (u : Int) < ((0 : Nat) : Int)) (by omega), Bool.and_true, Bool.and_false, Bool.or_false, ← Bool.decide_or]
    apply decide_eq_decide.2
    omega
  rw [this]
theorem AxAt.grB_all {l : List Int} {N : Nat} (h : AxAt l N) (p : Int) (neg inv : Bool) {x : List Int} (hx : prodL l = x.length) {K : Nat} (hK : (x.length : Int) / l.getD N 1 = K) : grB p l N neg inv x K 0 = axL p l N neg inv x := by
  unfold grB axL
  apply List.map_congr_left
  intro v hv
  have hv' := List.mem_range.1 hv
  have hk := kOf_bound h.I1 h.D1 (v := (v : Int)) (by omega) (by rw [← h.prod, hx]; omega)
  have hKK : (K : Int) = prodL (l.take N) * prodL (l.drop (N + 1)) := by
    rw [← hK, ← hx, h.prod, Int.mul_right_comm, Int.mul_ediv_cancel _ (by have := h.D1; omega)]
  have : metB (prodL (l.drop (N + 1))) (l.getD N 1) K 0 v = true := by
    unfold metB
    rw [decide_eq_true (p := kOf _ _ (v : Int) < _) (by omega)]; simp
  rw [this]; rfl
end Go.Proofs.YtohcoidbncbijaaDoor.P
