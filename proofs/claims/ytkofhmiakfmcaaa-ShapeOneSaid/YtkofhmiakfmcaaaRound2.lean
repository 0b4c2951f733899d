/- Round's walk, where what is not marked may wait for an operation by way of another. Conditions: those of Round; what is listed is closed. -/
import Derived.Test.YtkofhmiakfmcaaaRound
namespace Go.Proofs.Ytkofhmiakfmcaaa.P
open Go.RowKit
set_option linter.unusedVariables false
/-- With each listed one all that it waits for is listed. -/
def closedB (md : Region.Mode) (ops : Array Oper) (listed : Array Bool) : Bool :=
  (List.range ops.size).all fun m => !listed.getD m false || ((ops[m]?).map fun o => o.after.all fun e => !Region.binds md e || listed.getD e.on false).getD true
def Closed (md : Region.Mode) (ops : Array Oper) (listed : Array Bool) : Prop :=
  ∀ m om, ops[m]? = some om → listed.getD m false = true → ∀ e ∈ om.after, Region.binds md e = true → listed.getD e.on false = true
theorem closedB_spec {md : Region.Mode} {ops : Array Oper} {listed : Array Bool} (h : closedB md ops listed = true) : Closed md ops listed := by
  intro m om hm hl e he hb
  obtain ⟨hlt, _⟩ := Array.getElem?_eq_some_iff.1 hm
  have h1 := (List.all_eq_true.1 h) m (List.mem_range.2 hlt)
  rw [hl, hm] at h1
  simp only [Bool.not_true, Bool.false_or, Option.map_some, Option.getD_some] at h1
  rw [Array.all_eq_true_iff_forall_mem] at h1
  have h2 := h1 e he
  rw [hb] at h2
  simpa using h2
theorem getD_set_true (l : Array Bool) (j m : Nat) (h : l.getD m false = true) : (l.setIfInBounds j true).getD m false = true := by
  rw [Array.getD_eq_getD_getElem?] at h ⊢
  rw [Array.getElem?_setIfInBounds]
  split
  · rename_i e
    subst e
    split
    · rfl
    · rename_i h2
      rw [Array.getElem?_eq_none (by omega)] at h; exact h
  · exact h
theorem Closed.set {md : Region.Mode} {ops : Array Oper} {listed : Array Bool} (h : Closed md ops listed) {j : Nat} (hj : j ∈ Region.ready md ops listed) : Closed md ops (listed.setIfInBounds j true) := by
  intro m om hm hl e he hb
  refine getD_set_true _ _ _ ?_
  by_cases e1 : m = j
  · subst e1
    obtain ⟨_, oj, hoj, hall⟩ := mem_ready.1 hj
    rw [hm] at hoj; cases hoj
    exact hall e he hb
  · refine h m om hm ?_ e he hb
    rw [Array.getD_eq_getD_getElem?] at hl ⊢
    rwa [Array.getElem?_setIfInBounds_ne (fun x => e1 x.symm)] at hl
section
variable {P : Program} {ops : Array Oper} {Q : Exit → Act → World → Prop} {md : Region.Mode} {S : World → Prop} {T : Nat → Bool}
def direct (md : Region.Mode) (ops : Array Oper) (j i : Nat) : Bool := ((ops[j]?).map fun o => o.after.any fun e => Region.binds md e && e.on == i).getD false
theorem direct_spec {j i : Nat} {oj : Oper} (hj : ops[j]? = some oj) (h : direct md ops j i = true) : ∃ e ∈ oj.after, Region.binds md e = true ∧ e.on = i := by
  unfold direct at h
  rw [hj] at h
  simp only [Option.map_some, Option.getD_some] at h
  rw [Array.any_eq_true] at h
  obtain ⟨k, hk, h2⟩ := h
  rw [Bool.and_eq_true, beq_iff_eq] at h2
  exact ⟨oj.after[k], Array.getElem_mem hk, h2.1, h2.2⟩
/-- All that is not marked waits for number i, or for one that does. -/
def waits2 (md : Region.Mode) (ops : Array Oper) (T : Nat → Bool) (i : Nat) : Bool :=
  (List.range ops.size).all fun j => T j || j == i || direct md ops j i || ((ops[j]?).map fun o => o.after.any fun e => Region.binds md e && direct md ops e.on i).getD false
theorem waits2_spec {i : Nat} (h : waits2 md ops T i = true) {listed : Array Bool} (hc : Closed md ops listed) (hi : listed.getD i false = false) : ∀ j, j ∈ Region.ready md ops listed → j ≠ i → T j = true := by
  intro j hj hji
  obtain ⟨hjun, oj, hoj, hall⟩ := mem_ready.1 hj
  obtain ⟨hlt, _⟩ := Array.getElem?_eq_some_iff.1 hoj
  have h1 := (List.all_eq_true.1 h) j (List.mem_range.2 hlt)
  cases ht : T j with
  | true => rfl
  | false =>
    exfalso
    rw [ht] at h1
    simp only [Bool.false_or, Bool.or_eq_true, beq_iff_eq] at h1
    rcases h1 with (h1 | h1) | h1
    · exact hji h1
    · obtain ⟨e, he, hb, heq⟩ := direct_spec hoj h1
      have h2 := hall e he hb
      rw [heq, hi] at h2; cases h2
    · rw [hoj] at h1
      simp only [Option.map_some, Option.getD_some] at h1
      rw [Array.any_eq_true] at h1
      obtain ⟨k, hk, h2⟩ := h1
      rw [Bool.and_eq_true] at h2
      have h3 := hall _ (Array.getElem_mem hk) h2.1
      have h4 := h2.2
      cases hm : ops[oj.after[k].on]? with
      | none => unfold direct at h4; rw [hm] at h4; simp at h4
      | some om =>
        obtain ⟨e, he, hb, heq⟩ := direct_spec hm h4
        have h5 := hc _ om hm h3 e he hb
        rw [heq, hi] at h5; cases h5
theorem unlisted {i : Nat} {listed : Array Bool} (h : i ∈ Region.ready md ops listed) : listed.getD i false = false := by
  have h0 := (mem_ready.1 h).1
  rcases Nat.lt_or_ge i listed.size with h' | h'
  · simpa [h'] using h0
  · simp [Array.getElem?_eq_none h'] at h0
theorem wpAnyT_first2 {i : Nat} {oi : Oper} {v : Value} (hi : ops[i]? = some oi) (hsel : ∀ (j : Nat) (o : Oper) cs b, ops[j]? = some o → o.op ≠ .select cs b)
    (hT : waits2 md ops T i = true)
    (hQ : ∀ c a w, Q (.panic c) (a.put oi.dst v) w → Q (.panic c) a w) :
    ∀ (fuel : Nat) (listed : Array Bool) (a : Act) (w : World), Closed md ops listed →
      (∀ j oj, ops[j]? = some oj → j ≠ i → listed.getD j true = false → (∀ e ∈ oj.after, Region.binds md e = true → e.on ≠ i) → oi.apart ops oj = true) →
      i ∈ Region.ready md ops listed → YieldsIf P ops S oi v a → S w →
      wpAnyT P md ops Q S T fuel (listed.setIfInBounds i true) (a.put oi.dst v) w → wpAnyT P md ops Q S T (fuel + 1) listed a w := by
  intro fuel
  induction fuel with
  | zero =>
    intro listed a w _ _ hr hy hS H
    refine ⟨fun h => (by rw [h] at hr; cases hr), fun j hj => ?_⟩
    by_cases hji : j = i
    · subst hji; exact hy.wpOp hi hS ⟨fun _ => hS, H⟩
    · have := ready_mono hj hji
      rw [H.1] at this
      cases this
  | succ fuel ih =>
    intro listed a w hcl hfree hr hy hS H
    refine ⟨fun h => (by rw [h] at hr; cases hr), fun j hj => ?_⟩
    by_cases hji : j = i
    · subst hji; exact hy.wpOp hi hS ⟨fun _ => hS, H⟩
    · have h1 := H.2 j (ready_mono hj hji)
      obtain ⟨hjun, oj, hoj, hall⟩ := mem_ready.1 hj
      have hun := unlisted hr
      have hnot : ∀ e ∈ oj.after, Region.binds md e = true → e.on ≠ i := fun e he hb heq => by
        have h1 := hall e he hb
        rw [heq, hun] at h1
        cases h1
      have hTj : T j = true := waits2_spec hT hcl hun j hj hji
      have h2 := wpOp_putIf hoj (hfree j oj hoj hji hjun hnot) (fun cs b => hsel i oi cs b hi) (fun cs b => hsel j oj cs b hoj) hQ hy h1
      have hfree' : ∀ k ok, ops[k]? = some ok → k ≠ i → (listed.setIfInBounds j true).getD k true = false →
          (∀ e ∈ ok.after, Region.binds md e = true → e.on ≠ i) → oi.apart ops ok = true := fun k ok hk hki hun hno => by
        refine hfree k ok hk hki ?_ hno
        by_cases hjk : j = k
        · subst hjk; exact hjun
        · rw [getD_set_ne true hjk] at hun; exact hun
      refine wpOp_mono (fun a' w' h3 => ⟨h3.2.1, ih (listed.setIfInBounds j true) a' w' (hcl.set hj) hfree' (ready_mono hr (Ne.symm hji)) h3.1 (h3.2.1 hTj) ?_⟩) h2
      rw [Array.setIfInBounds_comm _ _ hji]
      exact h3.2.2
theorem wpAnyT_take2 {i : Nat} {oi : Oper} {l : List Oper} {v : Value} {fuel : Nat} {listed : Array Bool} {a : Act} {w : World} (hi : ops.toList.drop i = oi :: l)
    (hc : closedB md ops listed = true) (hs : Region.noSelect ops = true) (hf : Region.free md ops listed i = true) (hr : (Region.ready md ops listed).contains i = true) (hT : waits2 md ops T i = true)
    (hQ : ∀ c a w, Q (.panic c) (a.put oi.dst v) w → Q (.panic c) a w) (hS : S w) (hy : YieldsIf P ops S oi v a)
    (h : wpAnyT P md ops Q S T fuel (listed.setIfInBounds i true) (a.put oi.dst v) w) : wpAnyT P md ops Q S T (fuel + 1) listed a w :=
  wpAnyT_first2 (drop_at hi) (Region.noSelect_spec hs) hT hQ fuel listed a w (closedB_spec hc) (Region.free_spec (drop_at hi) hf) (by simpa using hr) hy hS h
end
/-- A region outside of a round that does not panic. -/
theorem region_marks2 {k : Nat} {P : Program} {id : Nat} {ops : Array Oper} {S : World → Prop} {T : Nat → Bool} {Q : Exit → Act → World → Prop} {a : Act} {w : World} (hm : P.follows .mixedOrders = true) (hk : ops.size = k)
    (hS : S w.drew) (h : S w.drew → wpAnyT P .any ops (NoPanic Q) S T k (Array.replicate k false) a w.drew) : (Code.region id ops true).wp P Q a w :=
  wp_region_noPanic (region_marks hm hk hS h)
end Go.Proofs.Ytkofhmiakfmcaaa.P
