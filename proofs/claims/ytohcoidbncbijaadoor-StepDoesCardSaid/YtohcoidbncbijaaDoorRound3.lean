
/- Round's walk, where what is not marked may wait for an operation over any road. Conditions: those of Round2. -/
import Derived.Test.YtohcoidbncbijaaDoorRadB
namespace Go.Proofs.YtohcoidbncbijaaDoor.P
open Go.RowKit
set_option linter.unusedVariables false
section
variable {P : Program} {ops : Array Oper} {Q : Exit → Act → World → Prop} {md : Region.Mode} {S : World → Prop} {T : Nat → Bool}
/-- Number j waits for number i, over at most so many. -/
def road (md : Region.Mode) (ops : Array Oper) : Nat → Nat → Nat → Bool
  | 0, _, _ => false
  | f + 1, j, i => ((ops[j]?).map fun o => o.after.any fun e => Region.binds md e && (e.on == i || road md ops f e.on i)).getD false
theorem road_listed {i : Nat} {listed : Array Bool} (hc : Closed md ops listed) (hi : listed.getD i false = false) : ∀ (f j : Nat), road md ops f j i = true →
    ∀ oj, ops[j]? = some oj → (∀ e ∈ oj.after, Region.binds md e = true → listed.getD e.on false = true) → False
  | 0, j, h, _, _, _ => by simp [road] at h
  | f + 1, j, h, oj, hj, hall => by
    unfold road at h
    rw [hj] at h
    simp only [Option.map_some, Option.getD_some] at h
    rw [Array.any_eq_true] at h
    obtain ⟨k, hk, h2⟩ := h
    rw [Bool.and_eq_true, Bool.or_eq_true, beq_iff_eq] at h2
    have h3 := hall _ (Array.getElem_mem hk) h2.1
    rcases h2.2 with h4 | h4
    · rw [h4, hi] at h3; cases h3
    · cases hm : ops[oj.after[k].on]? with
      | none =>
        cases f with
        | zero => simp [road] at h4
        | succ f => unfold road at h4; rw [hm] at h4; simp at h4
      | some om => exact road_listed hc hi f _ h4 om hm (fun e he hb => hc _ om hm h3 e he hb)
/-- All that is not marked waits for number i, over any road. -/
def waits3 (md : Region.Mode) (ops : Array Oper) (T : Nat → Bool) (i : Nat) : Bool :=
  (List.range ops.size).all fun j => T j || j == i || road md ops ops.size j i
theorem waits3_spec {i : Nat} (h : waits3 md ops T i = true) {listed : Array Bool} (hc : Closed md ops listed) (hi : listed.getD i false = false) : ∀ j, j ∈ Region.ready md ops listed → j ≠ i → T j = true := by
  intro j hj hji
  obtain ⟨hjun, oj, hoj, hall⟩ := mem_ready.1 hj
  obtain ⟨hlt, _⟩ := Array.getElem?_eq_some_iff.1 hoj
  have h1 := (List.all_eq_true.1 h) j (List.mem_range.2 hlt)
  simp only [Bool.or_eq_true, beq_iff_eq] at h1
  rcases h1 with (h1 | h1) | h1
  · exact h1
  · exact absurd h1 hji
  · exact (road_listed hc hi _ _ h1 oj hoj hall).elim
theorem wpAnyT_first3 {i : Nat} {oi : Oper} {v : Value} (hi : ops[i]? = some oi) (hsel : ∀ (j : Nat) (o : Oper) cs b, ops[j]? = some o → o.op ≠ .select cs b)
    (hT : waits3 md ops T i = true)
    (hQ : ∀ c a w, Q (.panic c) (a.put oi.dst v) w → Q (.panic c) a w) :
    ∀ (fuel : Nat) (listed : Array Bool) (a : Act) (w : World), Closed md ops listed →
      (∀ j oj, ops[j]? = some oj → j ≠ i → listed.getD j true = false → (∀ e ∈ oj.after, Region.binds md e = true → e.on ≠ i) → oi.apart ops oj = true) →
      i ∈ Region.ready md ops listed → YieldsIf P ops S oi v a → S w →
      wpAnyT P md ops Q S T fuel (listed.setIfInBounds i true) (a.put oi.dst v) w → wpAnyT P md ops Q S T (fuel + 1) listed a w := by
  intro fuel
  induction fuel with
  | zero =>
    intro listed a w _ _ hr hy hS H
    refine ⟨fun h => (by rw [h] at hr; cases hr), fun j hj => ?_⟩
    by_cases hji : j = i
    · subst hji; exact hy.wpOp hi hS ⟨fun _ => hS, H⟩
    · have := ready_mono hj hji
      rw [H.1] at this
      cases this
  | succ fuel ih =>
    intro listed a w hcl hfree hr hy hS H
    refine ⟨fun h => (by rw [h] at hr; cases hr), fun j hj => ?_⟩
    by_cases hji : j = i
    · subst hji; exact hy.wpOp hi hS ⟨fun _ => hS, H⟩
    · have h1 := H.2 j (ready_mono hj hji)
      obtain ⟨hjun, oj, hoj, hall⟩ := mem_ready.1 hj
      have hun := unlisted hr
      have hnot : ∀ e ∈ oj.after, Region.binds md e = true → e.on ≠ i := fun e he hb heq => by
        have h1 := hall e he hb
        rw [heq, hun] at h1
        cases h1
      have hTj : T j = true := waits3_spec hT hcl hun j hj hji
      have h2 := wpOp_putIf hoj (hfree j oj hoj hji hjun hnot) (fun cs b => hsel i oi cs b hi) (fun cs b => hsel j oj cs b hoj) hQ hy h1
      have hfree' : ∀ k ok, ops[k]? = some ok → k ≠ i → (listed.setIfInBounds j true).getD k true = false →
          (∀ e ∈ ok.after, Region.binds md e = true → e.on ≠ i) → oi.apart ops ok = true := fun k ok hk hki hun hno => by
        refine hfree k ok hk hki ?_ hno
        by_cases hjk : j = k
        · subst hjk; exact hjun
        · rw [getD_set_ne true hjk] at hun; exact hun
      refine wpOp_mono (fun a' w' h3 => ⟨h3.2.1, ih (listed.setIfInBounds j true) a' w' (hcl.set hj) hfree' (ready_mono hr (Ne.symm hji)) h3.1 (h3.2.1 hTj) ?_⟩) h2
      rw [Array.setIfInBounds_comm _ _ hji]
      exact h3.2.2
theorem wpAnyT_take3 {i : Nat} {oi : Oper} {l : List Oper} {v : Value} {fuel : Nat} {listed : Array Bool} {a : Act} {w : World} (hi : ops.toList.drop i = oi :: l)
    (hc : closedB md ops listed = true) (hs : Region.noSelect ops = true) (hf : Region.free md ops listed i = true) (hr : (Region.ready md ops listed).contains i = true) (hT : waits3 md ops T i = true)
    (hQ : ∀ c a w, Q (.panic c) (a.put oi.dst v) w → Q (.panic c) a w) (hS : S w) (hy : YieldsIf P ops S oi v a)
    (h : wpAnyT P md ops Q S T fuel (listed.setIfInBounds i true) (a.put oi.dst v) w) : wpAnyT P md ops Q S T (fuel + 1) listed a w :=
  wpAnyT_first3 (drop_at hi) (Region.noSelect_spec hs) hT hQ fuel listed a w (closedB_spec hc) (Region.free_spec (drop_at hi) hf) (by simpa using hr) hy hS h
end
end Go.Proofs.YtohcoidbncbijaaDoor.P
