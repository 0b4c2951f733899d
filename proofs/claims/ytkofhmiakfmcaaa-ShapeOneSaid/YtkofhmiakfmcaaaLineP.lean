/- Lines and coordinates, plainly: of places of one line the coordinates differ at the axis alone; first places in order. Under no condition beside those of each lemma. -/
import Derived.Test.YtkofhmiakfmcaaaLawSl
import Derived.Deep.Heap
namespace Go.Proofs.Ytkofhmiakfmcaaa.P
open Go.RowKit
set_option linter.unusedVariables false
theorem prodL_split (l : List Int) {j k : Nat} (h : j ≤ k) : prodL (l.drop j) = prodL ((l.drop j).take (k - j)) * prodL (l.drop k) := by
  have e : (l.drop j).take (k - j) ++ l.drop k = l.drop j := by
    have h1 := List.take_append_drop (k - j) (l.drop j)
    rw [List.drop_drop, show j + (k - j) = k from by omega] at h1
    exact h1
  rw [← prodL_append, e]
theorem vOf_zero_add (I d k x : Int) : vOf I d k x = vOf I d k 0 + x * I := by
  unfold vOf; rw [Int.zero_mul, Int.add_zero]
theorem coordF_line {l : List Int} (hp : Pos l) {N : Nat} (hN : N < l.length) (k : Int) {x : Int} (x0 : 0 ≤ x) (x1 : x < l[N]) {j : Nat} (hj : j < l.length) :
    coordF l (vOf (prodL (l.drop (N + 1))) l[N] k x) j = if j = N then x else coordF l (vOf (prodL (l.drop (N + 1))) l[N] k 0) j := by
  have hI := (hp.drop (N + 1)).prod
  have hD := hp.at hN
  have hP := (hp.drop (j + 1)).prod
  have hJ := hp.at hj
  rcases Nat.lt_trichotomy j N with h | h | h
  · rw [if_neg (by omega), coordF_at _ _ _ hj, coordF_at _ _ _ hj]
    have hs := prodL_split l (j := j + 1) (k := N) (by omega)
    rw [prodL_drop l N hN] at hs
    rw [hs]
    have hM := ((hp.drop (j + 1)).take (N - (j + 1))).prod
    generalize prodL ((l.drop (j + 1)).take (N - (j + 1))) = M at *
    generalize prodL (l.drop (N + 1)) = I at *
    generalize l[N] = D at *
    have e : ∀ y : Int, 0 ≤ y → y < D → vOf I D k y / (M * (D * I)) = k / I / M := fun y y0 y1 => by
      rw [show M * (D * I) = I * (D * M) from by rw [Int.mul_comm M, Int.mul_comm D I, Int.mul_assoc], ← Int.ediv_ediv_of_nonneg (by omega), ← Int.ediv_ediv_of_nonneg (by omega), vOf_div hI,
        Int.add_comm, Int.add_mul_ediv_right _ _ (by omega), Int.ediv_eq_zero_of_lt y0 y1, Int.zero_add]
    rw [e x x0 x1, e 0 (by omega) (by omega)]
  · subst h
    rw [if_pos rfl, coordF_at _ _ _ hj]
    exact xOf_vOf hI x0 x1
  · rw [if_neg (by omega), coordF_at _ _ _ hj, coordF_at _ _ _ hj, vOf_zero_add _ _ _ x]
    have hs := prodL_split l (j := N + 1) (k := j) (by omega)
    rw [prodL_drop l j hj] at hs
    generalize vOf (prodL (l.drop (N + 1))) l[N] k 0 = v
    rw [hs]
    generalize prodL ((l.drop (N + 1)).take (j - (N + 1))) = M
    generalize prodL (l.drop (j + 1)) = P at *
    generalize l[j] = d at *
    rw [show x * (M * (d * P)) = x * M * d * P from by rw [Int.mul_assoc, Int.mul_assoc], Int.add_mul_ediv_right _ _ (by omega), Int.add_mul_emod_self_right]
theorem coordL_line {l : List Int} (hp : Pos l) {N : Nat} (hN : N < l.length) (k : Int) {x : Int} (x0 : 0 ≤ x) (x1 : x < l[N]) :
    (coordL l (vOf (prodL (l.drop (N + 1))) l[N] k 0)).set N x = coordL l (vOf (prodL (l.drop (N + 1))) l[N] k x) := by
  apply List.ext_getElem
  · simp [coordL]
  · intro j h1 h2
    have hj : j < l.length := by rw [coordL_length] at h2; exact h2
    rw [List.getElem_set]
    have e2 : ∀ v, (coordL l v)[j]'(by rw [coordL_length]; exact hj) = coordF l v j := fun v => by simp [coordL]
    rw [e2, e2, coordF_line hp hN k x0 x1 hj]
    by_cases h : N = j
    · subst h; simp
    · rw [if_neg h, if_neg (by omega)]
theorem vOf_lt {I d : Int} (hI : 1 ≤ I) (hd : 1 ≤ d) {a : Nat} : ∀ {b : Nat}, a < b → vOf I d a 0 < vOf I d b 0
  | b + 1, h => by
    have h1 : vOf I d b 0 < vOf I d ((b : Int) + 1) 0 := vOf_next hI hd
    have e : ((b + 1 : Nat) : Int) = (b : Int) + 1 := by omega
    rw [e]
    by_cases hab : a = b
    · subst hab; exact h1
    · exact Int.lt_trans (vOf_lt hI hd (show a < b by omega)) h1
/-- The first place that is not behind V is the first one of line s. -/
def Seen (I d : Int) (s : Nat) (V : Int) : Prop := (∀ r : Nat, r < s → vOf I d r 0 < V) ∧ V ≤ vOf I d s 0
theorem Seen.start {I d : Int} (hI : 1 ≤ I) : Seen I d 0 0 := by
  refine ⟨fun r h => absurd h (Nat.not_lt_zero _), ?_⟩
  unfold vOf; simp
theorem Seen.other {I d : Int} (hI : 1 ≤ I) (hd : 1 ≤ d) {s : Nat} {V : Int} (h : Seen I d s V) (hx : xOf I d V ≠ 0) : Seen I d s (V + 1) := by
  refine ⟨fun r hr => by have := h.1 r hr; omega, ?_⟩
  have h1 : V ≠ vOf I d s 0 := fun e => hx (by rw [e]; exact xOf_vOf hI (by omega) (by omega))
  have := h.2
  omega
theorem Seen.first {I d O : Int} (hI : 1 ≤ I) (hd : 1 ≤ d) {s : Nat} {V : Int} (h : Seen I d s V) (hx : xOf I d V = 0) (hV : 0 ≤ V) (hO : V < O * d * I) : V = vOf I d s 0 := by
  have h1 := vOf_of (d := d) (v := V) hI
  rw [hx] at h1
  have h2 := kOf_bound hI hd hV hO
  obtain ⟨q, hq⟩ := Int.eq_ofNat_of_zero_le h2.1
  rw [hq] at h1
  rcases Nat.lt_trichotomy q s with h3 | h3 | h3
  · have := h.1 q h3; omega
  · rw [← h3]; exact h1.symm
  · have := vOf_lt hI hd h3; have := h.2; omega
theorem Seen.next {I d : Int} (hI : 1 ≤ I) (hd : 1 ≤ d) {s : Nat} {V : Int} (h : Seen I d s V) (e : V = vOf I d s 0) : Seen I d (s + 1) (V + 1) := by
  refine ⟨fun r hr => ?_, ?_⟩
  · by_cases hrs : r = s
    · subst hrs; omega
    · have := h.1 r (by omega); omega
  · have h1 := vOf_lt hI hd (show s < s + 1 by omega)
    omega
theorem Own.setBelow {w : World} {B : Nat} {E : TypeId} {s n c : Nat} {A : Option Addr} {cs : List Value} (h : Own w B E s A n c cs) {p : Addr} (hb : p.block < B) (v : Value) : Own (w.setCell p v) B E s A n c cs := by
  refine ⟨h.1, ?_⟩
  rcases h.2 with h2 | ⟨g2, cap, cur, hv, hB, hh, r⟩
  · exact .inl h2
  · exact .inr ⟨g2, cap, cur, hv, hB, (Deep.blk_setCell_other w p v g2 (by omega)).trans hh, r⟩
theorem Own.keepBelow {S : Nat} {w w' : World} {B : Nat} {E : TypeId} {s g n c : Nat} {cs : List Value} (h : Own w B E s (some ⟨g, 0, none⟩) n c cs) (hg : g < S) (hb : Below S w w') : Own w' B E s (some ⟨g, 0, none⟩) n c cs := by
  refine ⟨h.1, ?_⟩
  rcases h.2 with ⟨hv, _⟩ | ⟨g2, cap, cur, hv, hB, hh, r⟩
  · cases hv
  · refine .inr ⟨g2, cap, cur, hv, hB, ?_, r⟩
    cases hv
    rw [hb.block _ hg]
    exact hh
end Go.Proofs.Ytkofhmiakfmcaaa.P
