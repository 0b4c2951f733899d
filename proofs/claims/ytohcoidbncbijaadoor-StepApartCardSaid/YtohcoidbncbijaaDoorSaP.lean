
/- A word plays a part in the words of its own group alone, plainly. Under no condition beside those of each lemma. -/
import Derived.Test.YtohcoidbncbijaaDoorSpP
import Derived.Test.YtohcoidbncbijaaDoorStU
namespace Go.Proofs.YtohcoidbncbijaaDoor.P
open Go.RowKit
set_option linter.unusedVariables false
theorem set_getD (x : List Int) (k : Nat) (w : Int) (v : Nat) (h : v ≠ k) : (x.set k w).getD v 0 = x.getD v 0 := by
  rw [List.getD_eq_getElem?_getD, List.getElem?_set, if_neg (fun e => h e.symm), ← List.getD_eq_getElem?_getD]
theorem step_apart {p : Int} {ax : List (Int × Bool)} {k : Nat} {s1 : Bool} {s2 s3 s4 : Int} {N : Nat} {neg : Bool} (hK : StepK p ax ((k : Int), s1, s2, s3, s4) k N neg) (inv : Bool) {x : List Int} (hx : prodL (dimsA ax) = x.length) {at' : Nat} (hat : at' < x.length) (w : Int) {i : Nat} (hi : i < x.length)
    (hne : gNo (dimsA ax) k s1 s2.toNat s3.toNat s4.toNat i ≠ gNi (dimsA ax) k s1 s3.toNat s4.toNat at') :
    (stepDo p ax inv ((k : Int), s1, s2, s3, s4) (x.set at' w)).getD i 0 = (stepDo p ax inv ((k : Int), s1, s2, s3, s4) x).getD i 0 := by
  have hA := (hK.chk.at hK.lt).1
  have hD := hK.dim
  rw [stepDo_is hK, stepDo_is hK]
  rcases hK.kind with ⟨ht, hz⟩ | ⟨ht, hz⟩
  · dsimp only at ht hz
    subst ht
    unfold gNo gNi at hne
    rw [if_pos rfl, if_pos rfl] at hne
    rw [twist_at hA hD _ _ _ _ _ _ _ (by rw [List.length_set]; exact hi), twist_at hA hD _ _ _ _ _ _ _ hi, set_getD _ _ _ _ hne]
  · dsimp only at ht hz
    subst ht
    obtain ⟨R, L, M, hs, hS⟩ := stg_mem hK.c6.smooth hz
    simp only [Prod.mk.injEq] at hs
    obtain ⟨rfl, rfl, rfl⟩ := hs
    simp only [Int.toNat_natCast] at hne
    rw [linA_at _ _ _ _ _ (by rw [List.length_set]; exact hi), linA_at _ _ _ _ _ hi]
    congr 1
    refine S_congr fun c hc => ?_
    by_cases e : (sv (dimsA ax) k (i : Int) (c : Int)).toNat = at'
    · have hcN : c < N := by rw [hD, Int.toNat_natCast] at hc; exact hc
      obtain ⟨h1, h2⟩ := hA.sv_at hx hi hc
      obtain ⟨p1, p2, p3⟩ := hA.plc_of hD (v := i) (by omega)
      have h3 : sv (dimsA ax) k (i : Int) (c : Int) = plc (dimsA ax) k (lno (dimsA ax) k i) c := by
        rw [← p1]
        rw [hA.plc_sv hD _ p3 c, hA.plc_lno hD _ p3]
      have h4 : (at' : Int) = plc (dimsA ax) k (lno (dimsA ax) k i) c := by rw [← h3, ← e]; exact h2
      have h5 : stepM p N neg inv ((k : Int), false, (R : Int), (L : Int), (M : Int)) c (P.xv (dimsA ax) k (i : Int)).toNat = 0 := by
        unfold stepM stM
        dsimp only
        rw [if_neg (by decide)]
        simp only [Int.toNat_natCast]
        rw [if_neg]
        rintro ⟨e1, e2⟩
        apply hne
        unfold gNo gNi
        rw [if_neg (by decide), if_neg (by decide), h4, hA.plc_lno hD _ hcN, hA.plc_xv hD _ hcN, Int.toNat_natCast, e1, e2]
      rw [h5, Int.mul_zero, Int.mul_zero]
    · rw [set_getD _ _ _ _ e]
/-- What is known of how often places were met. -/
structure UsedC (C : Nat → Prop) (F : Nat → List Int) (r tl g t : Nat) (u : List Int) : Prop where
  len : u.length = tl
  lo : ∀ f, f < tl → 0 ≤ u.getD f 0 ∧ u.getD f 0 ≤ ((g * r + t : Nat) : Int)
  met : ∀ g' t', C g' → t' < r → (g' < g ∨ (g' = g ∧ t' < t)) → 1 ≤ u.getD ((F g').getD t' 0).toNat 0
theorem UsedC.step {C : Nat → Prop} {F : Nat → List Int} {r tl g t : Nat} {u : List Int} (h : UsedC C F r tl g t u) (ht : t < r) (hF : ((F g).getD t 0).toNat < tl) :
    UsedC C F r tl g (t + 1) (u.set ((F g).getD t 0).toNat (u.getD ((F g).getD t 0).toNat 0 + 1)) := by
  have hset : ∀ f, f < tl → (u.set ((F g).getD t 0).toNat (u.getD ((F g).getD t 0).toNat 0 + 1)).getD f 0 = if ((F g).getD t 0).toNat = f then u.getD f 0 + 1 else u.getD f 0 := by
    intro f hf
    rw [List.getD_eq_getElem?_getD, List.getElem?_set]
    by_cases e : ((F g).getD t 0).toNat = f
    · rw [if_pos e, if_pos e, if_pos (by have := h.len; omega), e]; rfl
    · rw [if_neg e, if_neg e, ← List.getD_eq_getElem?_getD]
  refine ⟨by rw [List.length_set]; exact h.len, fun f hf => ?_, fun g' t' hc ht' hor => ?_⟩
  · rw [hset f hf]
    have := h.lo f hf
    split <;> (push_cast at this ⊢; omega)
  · by_cases e : ((F g).getD t 0).toNat = ((F g').getD t' 0).toNat
    · rw [← e, hset _ hF, if_pos rfl]
      have := h.lo _ hF
      omega
    · have hor2 : g' < g ∨ (g' = g ∧ t' < t) := by
        rcases hor with h1 | ⟨h1, h2⟩
        · exact .inl h1
        · refine .inr ⟨h1, ?_⟩
          by_cases h3 : t' = t
          · subst h1 h3; exact absurd rfl e
          · omega
      have h5 := h.met g' t' hc ht' hor2
      by_cases hlt : ((F g').getD t' 0).toNat < tl
      · rw [hset _ hlt, if_neg e]; exact h5
      · rw [List.getD_eq_getElem?_getD, List.getElem?_eq_none (by have := h.len; omega)] at h5
        simp at h5
theorem UsedC.skip {C : Nat → Prop} {F : Nat → List Int} {r tl g t : Nat} {u : List Int} (h : UsedC C F r tl g t u) (hc : ¬ C g) : UsedC C F r tl g (t + 1) u :=
  ⟨h.len, fun f hf => by have := h.lo f hf; push_cast at this ⊢; omega, fun g' t' hc' ht' hor => h.met g' t' hc' ht' (by
    rcases hor with h1 | ⟨h1, _⟩
    · exact .inl h1
    · subst h1; exact absurd hc' hc)⟩
theorem UsedC.next {C : Nat → Prop} {F : Nat → List Int} {r tl g : Nat} {u : List Int} (h : UsedC C F r tl g r u) : UsedC C F r tl (g + 1) 0 u :=
  ⟨h.len, fun f hf => by have := h.lo f hf; rw [Nat.succ_mul]; exact this, fun g' t' hc ht' hor => h.met g' t' hc ht' (by rcases hor with h1 | ⟨_, h1⟩ <;> omega)⟩
/-- Whether a number stands among the first ones. -/
def hasN (I : List Int) (k : Nat) : Nat → Bool
  | 0 => false
  | t + 1 => hasN I k t || decide (I.getD t 0 = (k : Int))
theorem hasN_iff (I : List Int) (k : Nat) : ∀ t, hasN I k t = true ↔ ∃ u, u < t ∧ I.getD u 0 = (k : Int)
  | 0 => by simp [hasN]
  | t + 1 => by
    rw [hasN, Bool.or_eq_true, hasN_iff I k t, decide_eq_true_iff]
    constructor
    · rintro (⟨u, h1, h2⟩ | h)
      · exact ⟨u, by omega, h2⟩
      · exact ⟨t, by omega, h⟩
    · rintro ⟨u, h1, h2⟩
      by_cases e : u = t
      · subst e; exact .inr h2
      · exact .inl ⟨u, by omega, h2⟩
end Go.Proofs.YtohcoidbncbijaaDoor.P
