
/- Steps of an axis, plainly: all stages of it are its transform. Under no condition beside those of each lemma. -/
import Derived.Test.YtohcoidbncbijaaDoorPlainB
import Derived.Test.YtohcoidbncbijaaDoorShapeB
namespace Go.Proofs.YtohcoidbncbijaaDoor.P
set_option linter.unusedVariables false
/-- Numbers of an axis made of those of each line. -/
def linA (p : Int) (l : List Int) (N : Nat) (M : Nat → Nat → Int) (x : List Int) : List Int :=
  (List.range x.length).map fun v : Nat => redS p (S (l.getD N 1).toNat (fun c => x.getD (sv l N v c).toNat 0 * M c (P.xv l N v).toNat))
theorem linA_length (p : Int) (l : List Int) (N : Nat) (M : Nat → Nat → Int) (x : List Int) : (linA p l N M x).length = x.length := by simp [linA]
theorem linA_at (p : Int) (l : List Int) (N : Nat) (M : Nat → Nat → Int) (x : List Int) {v : Nat} (h : v < x.length) (d : Int) :
    (linA p l N M x).getD v d = redS p (S (l.getD N 1).toNat (fun c => x.getD (sv l N v c).toNat 0 * M c (P.xv l N v).toNat)) := by
  rw [List.getD_eq_getElem?_getD]; simp [linA, h]
theorem linA_u64 (p : Int) (l : List Int) (N : Nat) (M : Nat → Nat → Int) (x : List Int) : ∀ d ∈ linA p l N M x, U64 d := by
  intro d hd
  simp only [linA, List.mem_map] at hd
  obtain ⟨u, _, rfl⟩ := hd
  exact u64_redS _ _
theorem linA_in {p : Int} (hk : knownS p = true) (l : List Int) (N : Nat) (M : Nat → Nat → Int) (x : List Int) : inS p (linA p l N M x) = true := by
  rw [inS_all, hk]
  intro j hj
  have h1 := List.getElem_mem hj
  simp only [linA, List.mem_map] at h1
  obtain ⟨u, _, h2⟩ := h1
  rw [show (linA p l N M x)[j] = _ from h2.symm]
  exact redS_hi _ hk
theorem list_ext_getD {a b : List Int} (hl : a.length = b.length) (h : ∀ v, v < a.length → a.getD v 0 = b.getD v 0) : a = b := by
  apply List.ext_getElem hl
  intro v h1 h2
  have := h v h1
  rw [List.getD_eq_getElem?_getD, List.getElem?_eq_getElem h1, List.getD_eq_getElem?_getD, List.getElem?_eq_getElem h2] at this
  exact this
theorem axL_linA (p : Int) (l : List Int) (N : Nat) (neg inv : Bool) (x : List Int) : axL p l N neg inv x = linA p l N (axW p l N neg inv) x := by
  refine list_ext_getD (by rw [axL_length, linA_length]) fun v hv => ?_
  rw [axL_length] at hv
  rw [axL_at _ _ _ _ _ _ hv, linA_at _ _ _ _ _ hv, axF_is]
theorem AxAt.linA_congr {l : List Int} {N : Nat} (h : AxAt l N) {p : Int} {M M' : Nat → Nat → Int} (hM : ∀ c o, c < (l.getD N 1).toNat → o < (l.getD N 1).toNat → redS p (M c o) = redS p (M' c o)) (x : List Int) : linA p l N M x = linA p l N M' x := by
  refine list_ext_getD (by rw [linA_length, linA_length]) fun v hv => ?_
  rw [linA_length] at hv
  rw [linA_at _ _ _ _ _ hv, linA_at _ _ _ _ _ hv]
  have hx := h.xv v
  exact red_S fun c hc => red_mul rfl (hM c _ hc (by omega))
theorem AxAt.sv_at {l : List Int} {N : Nat} (h : AxAt l N) {n : Nat} (hn : prodL l = n) {v : Nat} (hv : v < n) {c : Nat} (hc : c < (l.getD N 1).toNat) : (sv l N v c).toNat < n ∧ (((sv l N v c).toNat : Nat) : Int) = sv l N v c := by
  have h1 := h.sv_in (v := (v : Int)) (by omega) (by omega) (c := (c : Int)) (by omega) (by omega)
  exact ⟨by omega, Int.toNat_of_nonneg h1.1⟩
theorem AxAt.linA_comp {l : List Int} {N : Nat} (h : AxAt l N) (p : Int) (M M' : Nat → Nat → Int) {x : List Int} (hx : prodL l = x.length) :
    linA p l N M' (linA p l N M x) = linA p l N (fun c o => S (l.getD N 1).toNat (fun e => M c e * M' e o)) x := by
  refine list_ext_getD (by simp only [linA_length]) fun v hv => ?_
  simp only [linA_length] at hv
  rw [linA_at _ _ _ _ _ (by rw [linA_length]; exact hv), linA_at _ _ _ _ _ hv, ← lin_comp]
  congr 1
  refine S_congr fun e he => ?_
  obtain ⟨h1, h2⟩ := h.sv_at hx hv he
  rw [linA_at _ _ _ _ _ h1, h2, h.xv_sv _ (by omega) (by omega), Int.toNat_natCast]
  congr 2
  exact S_congr fun c _ => by rw [h.sv_sv _ (by omega) (by omega)]
theorem AxAt.linA_one {l : List Int} {N : Nat} (h : AxAt l N) {p : Int} (hk : knownS p = true) {M : Nat → Nat → Int} (hM : ∀ c o, c < (l.getD N 1).toNat → o < (l.getD N 1).toNat → redS p (M c o) = if c = o then 1 else 0)
    {x : List Int} (hx : prodL l = x.length) (hi : inS p x = true) (hu : ∀ d ∈ x, U64 d) : linA p l N M x = x := by
  refine list_ext_getD (by rw [linA_length]) fun v hv => ?_
  rw [linA_length] at hv
  rw [linA_at _ _ _ _ _ hv]
  have hxv := h.xv v
  have e : redS p (S (l.getD N 1).toNat (fun c => x.getD (sv l N v c).toNat 0 * M c (P.xv l N v).toNat)) = redS p (S (l.getD N 1).toNat (fun c => if c = (P.xv l N v).toNat then x.getD v 0 else 0)) := by
    refine red_S fun c hc => ?_
    rw [← redS_mul_right, hM c _ hc (by omega)]
    by_cases e : c = (P.xv l N v).toNat
    · rw [if_pos e, if_pos e, Int.mul_one, e, Int.toNat_of_nonneg hxv.1, h.sv_xv, Int.toNat_natCast]
    · rw [if_neg e, if_neg e, Int.mul_zero]
  rw [e, S_one (k := (P.xv l N v).toNat) (by omega) (fun i _ hi => if_neg hi), if_pos rfl]
  have h3 := in_at hi hu hv
  exact redS_small hk h3.1 h3.2
theorem AxAt.linA_comm {l : List Int} {a b : Nat} (ha : AxAt l a) (hb : AxAt l b) (hne : a ≠ b) (p : Int) (A B : Nat → Nat → Int) {x : List Int} (hx : prodL l = x.length) :
    linA p l a A (linA p l b B x) = linA p l b B (linA p l a A x) := by
  refine list_ext_getD (by simp only [linA_length]) fun v hv => ?_
  simp only [linA_length] at hv
  rw [linA_at _ _ _ _ _ (by rw [linA_length]; exact hv), linA_at _ _ _ _ _ (by rw [linA_length]; exact hv)]
  have key : ∀ (a b : Nat) (A B : Nat → Nat → Int) (ha : AxAt l a) (hb : AxAt l b) (hne : a ≠ b),
      redS p (S (l.getD a 1).toNat (fun c => (linA p l b B x).getD (sv l a v c).toNat 0 * A c (P.xv l a v).toNat)) =
      redS p (S (l.getD a 1).toNat (fun c => S (l.getD b 1).toNat (fun d => x.getD (sv l b (sv l a v c) d).toNat 0 * (A c (P.xv l a v).toNat * B d (P.xv l b v).toNat)))) := fun a b A B ha hb hne => by
    rw [← lin_two]
    congr 1
    refine S_congr fun c hc => ?_
    obtain ⟨h1, h2⟩ := ha.sv_at hx hv hc
    rw [linA_at _ _ _ _ _ h1, h2, ha.xv_other hb hne v (by omega) (by omega)]
  rw [key a b A B ha hb hne, key b a B A hb ha (Ne.symm hne), S_comm]
  congr 1
  refine S_congr fun d hd => S_congr fun c hc => ?_
  rw [ha.sv_comm hb hne (by omega) (by rw [hx]; omega) (by omega) (by omega) (by omega) (by omega), Int.mul_comm (A c _)]
/-! Places of a line in two digits. -/
theorem S_split (f : Nat → Int) (m : Nat) : ∀ k, S (m + k) f = S m f + S k (fun i => f (m + i))
  | 0 => by simp [S]
  | k + 1 => by rw [← Nat.add_assoc, S, S_split f m k, S]; omega
theorem S_digits (f : Nat → Int) (m : Nat) : ∀ n, S (m * n) f = S n (fun j => S m (fun i => f (i + m * j)))
  | 0 => rfl
  | n + 1 => by
    rw [Nat.mul_succ, S_split, S_digits f m n, S]
    congr 1
    exact S_congr fun i _ => by rw [Nat.add_comm]
theorem dig_lo {L b j : Nat} (hb : b < L) : (b + L * j) % L = b ∧ (b + L * j) / L = j := by
  constructor
  · rw [Nat.add_mul_mod_self_left, Nat.mod_eq_of_lt hb]
  · rw [Nat.add_mul_div_left _ _ (by omega), Nat.div_eq_of_lt hb, Nat.zero_add]
/-- The numbers of a stage. -/
def stM (R L M : Nat) (om w : Int) (c q : Nat) : Int := if c % L = q % L ∧ c / L % M = q / L / R then om ^ ((c / L / M) * (q / L % R)) * w ^ ((q / L / R) * (q / L % R)) else 0
theorem st_sum (f : Nat → Int) {R L M : Nat} (om w : Int) {q : Nat} (hL : 0 < L) (hM : 0 < M) (hq : q / L / R < M) :
    S (L * (M * R)) (fun c => f c * stM R L M om w c q) = S R (fun t => f (q % L + L * (q / L / R + M * t)) * (om ^ (t * (q / L % R)) * w ^ ((q / L / R) * (q / L % R)))) := by
  have hb : q % L < L := Nat.mod_lt _ hL
  rw [S_digits]
  have e1 : ∀ j, S L (fun i => f (i + L * j) * stM R L M om w (i + L * j) q) = f (q % L + L * j) * stM R L M om w (q % L + L * j) q := fun j => by
    rw [S_one hb]
    intro i hi hne
    unfold stM
    rw [(dig_lo hi).1, if_neg (fun h => hne h.1), Int.mul_zero]
  rw [S_congr (fun j _ => e1 j), S_digits]
  refine S_congr fun t ht => ?_
  rw [S_one hq (f := fun i => f (q % L + L * (i + M * t)) * stM R L M om w (q % L + L * (i + M * t)) q)]
  · unfold stM
    rw [(dig_lo hb).1, (dig_lo hb).2, (dig_lo hq).1, (dig_lo hq).2, if_pos ⟨rfl, rfl⟩]
  · intro i hi hne
    unfold stM
    rw [(dig_lo hb).2, (dig_lo hi).1, if_neg (fun h => hne h.2), Int.mul_zero]
/-- The stages up to number k, of radices l, of an axis of N places with the root W. -/
def stC (p W : Int) (N : Nat) (R L M : Nat → Nat) : Nat → Nat → Nat → Int
  | 0, c, o => if c = o then 1 else 0
  | k + 1, c, o => S N (fun e => stC p W N R L M k c e * stM (R k) (L k) (M k) (powS p W (L k * M k)) (powS p W (L k)) e o)
structure Stgs (N s : Nat) (R L M : Nat → Nat) : Prop where
  N1 : 0 < N
  L0 : L 0 = 1
  all : ∀ k, k < s → L k * (M k * R k) = N
  next : ∀ k, k < s → L (k + 1) = L k * R k
  last : L s = N
theorem Stgs.pos {N s : Nat} {R L M : Nat → Nat} (h : Stgs N s R L M) {k : Nat} (hk : k < s) : 0 < L k ∧ 0 < M k ∧ 0 < R k := by
  have h1 := h.all k hk
  have h2 := h.N1
  refine ⟨?_, ?_, ?_⟩
  all_goals
    apply Nat.pos_of_ne_zero
    intro h0
    rw [h0] at h1
    simp at h1
    omega
theorem Stgs.inv {N s : Nat} {R L M : Nat → Nat} (h : Stgs N s R L M) {p W : Int} (hk : knownS p = true) (hW : redS p (W ^ N) = 1) : ∀ k, k ≤ s → ∀ n, L k * n = N → ∀ c K, c < N → K < N →
    redS p (S n (fun j => stC p W N R L M k c (K % L k + L k * j) * W ^ (L k * (j * (K / L k))))) = redS p (W ^ (c * K)) := by
  intro k
  induction k with
  | zero =>
    intro _ n hn c K hc hK
    rw [h.L0, Nat.one_mul] at hn
    subst hn
    rw [h.L0]
    congr 1
    rw [S_one hc (f := fun j => stC p W n R L M 0 c (K % 1 + 1 * j) * W ^ (1 * (j * (K / 1))))]
    · simp [stC, Nat.mod_one]
    · intro i hi hne
      simp only [stC, Nat.mod_one, Nat.zero_add, Nat.one_mul]
      rw [if_neg (fun e => hne e.symm), Int.zero_mul]
  | succ k ih =>
    intro hk1 n hn c K hc hK
    have hks : k < s := by omega
    obtain ⟨pL, pM, pR⟩ := h.pos hks
    have hall := h.all k hks
    have hnx := h.next k hks
    have ih' := ih (by omega) (M k * R k) hall c K hc hK
    have hnM : n = M k := by
      rw [hnx, ← hall, Nat.mul_comm (M k), ← Nat.mul_assoc] at hn
      exact Nat.eq_of_mul_eq_mul_left (Nat.mul_pos pL pR) hn
    subst hnM
    rw [← ih']
    generalize hLk : L k = l at *
    generalize hMk : M k = m at *
    generalize hRk : R k = r at *
    rw [hnx]
    generalize hC : stC p W N R L M k c = C at *
    have hKd : K % (l * r) = K % l + l * (K / l % r) := Nat.mod_mul
    have hQ : K / (l * r) = K / l / r := (Nat.div_div_eq_div_mul K l r).symm
    have hu : K / l % r < r := Nat.mod_lt _ pR
    have hbl : K % l < l := Nat.mod_lt _ pL
    have e1 : redS p (S m (fun j => stC p W N R L M (k + 1) c (K % (l * r) + l * r * j) * W ^ (l * r * (j * (K / (l * r)))))) =
        redS p (S m (fun j => S r (fun t => C (K % l + l * (j + m * t)) * W ^ (l * ((j + m * t) * (K / l)))))) := by
      refine red_S fun j hj => ?_
      have eo : K % (l * r) + l * r * j = K % l + l * (K / l % r + r * j) := by rw [hKd]; grind
      have d1 := dig_lo (L := l) (b := K % l) (j := K / l % r + r * j) hbl
      have d2 := dig_lo (L := r) (b := K / l % r) (j := j) hu
      have e2 : stC p W N R L M (k + 1) c (K % (l * r) + l * r * j) = S r (fun t => C (K % l + l * (j + m * t)) * (powS p W (l * m) ^ (t * (K / l % r)) * powS p W l ^ (j * (K / l % r)))) := by
        have hst := st_sum C (R := r) (L := l) (M := m) (powS p W (l * m)) (powS p W l) (q := K % (l * r) + l * r * j) pL pM (by rw [eo, d1.2, d2.2]; exact hj)
        rw [hall] at hst
        show S N (fun e => stC p W N R L M k c e * stM (R k) (L k) (M k) (powS p W (L k * M k)) (powS p W (L k)) e _) = _
        rw [hC, hMk, hRk, hLk]
        rw [hst, eo, d1.1, d1.2, d2.1, d2.2]
      rw [e2, ← S_mulr]
      refine red_S fun t ht => ?_
      rw [Int.mul_assoc]
      refine red_mul rfl ?_
      have p1 : redS p (powS p W (l * m) ^ (t * (K / l % r))) = redS p (W ^ (l * m * (t * (K / l % r)))) := by
        rw [pwm W]; exact red_pow (redS_redS _ _) _
      have p2 : redS p (powS p W l ^ (j * (K / l % r))) = redS p (W ^ (l * (j * (K / l % r)))) := by
        rw [pwm W]; exact red_pow (redS_redS _ _) _
      rw [red_mul (red_mul p1 p2) rfl, ← Int.pow_add, ← Int.pow_add, hQ]
      have hKl : K / l = K / l % r + r * (K / l / r) := (Nat.mod_add_div _ _).symm
      generalize K / l % r = u at *
      generalize K / l / r = q at *
      rw [hKl]
      have hexp : l * ((j + m * t) * (u + r * q)) = (l * m * (t * u) + l * (j * u) + l * r * (j * q)) + (l * (m * r)) * (t * q) := by grind
      rw [hexp, hall, Int.pow_add W _ (N * (t * q)), pwm W N, ← redS_mul_right, red_pow (a := W ^ N) (b := 1) (by rw [hW, one_red hk]), Int.one_pow, one_red hk, Int.mul_one]
    rw [e1, S_comm, Nat.mul_comm m r, Nat.mul_comm r m, S_digits]
theorem Stgs.whole {N s : Nat} {R L M : Nat → Nat} (h : Stgs N s R L M) {p W : Int} (hk : knownS p = true) (hW : redS p (W ^ N) = 1) {c K : Nat} (hc : c < N) (hK : K < N) : redS p (stC p W N R L M s c K) = redS p (W ^ (c * K)) := by
  have h1 := h.inv hk hW s (Nat.le_refl _) 1 (by rw [h.last, Nat.mul_one]) c K hc hK
  rw [h.last] at h1
  simp only [S, Int.zero_add, Nat.mul_zero, Nat.add_zero, Nat.zero_mul, Int.pow_zero, Int.mul_one, Nat.mod_eq_of_lt hK] at h1
  exact h1
end Go.Proofs.YtohcoidbncbijaaDoor.P
