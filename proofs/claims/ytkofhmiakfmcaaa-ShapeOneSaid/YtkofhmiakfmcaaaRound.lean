/- A region inside a round of a range over a function: its loads taken first, as outside of one. Conditions: none of its operations defers; it does not panic. -/
import Derived.Test.YtkofhmiakfmcaaaBack0
import Derived.Deep.RegionHeld3
namespace Go.Proofs.Ytkofhmiakfmcaaa.P
open Go.RowKit
set_option linter.unusedVariables false
set_option linter.unusedSimpArgs false
/-- The post, where nothing but the region's end will do. -/
def atEnd (Q : Exit → Act → World → Prop) : Exit → Act → World → Prop
  | .normal, a, w => Q .normal a w
  | _, _, _ => False
theorem atEnd_out (Q : Exit → Act → World → Prop) : ¬ LetsOut (atEnd Q) := fun ⟨_, _, h⟩ => h
def noDefer (ops : Array Oper) : Bool := ops.all fun o => match o.op with | .defer _ => false | _ => true
theorem noDefer_at {ops : Array Oper} (h : noDefer ops = true) {i : Nat} {o : Oper} (ho : ops[i]? = some o) (c : _) : o.op ≠ .defer c := by
  intro e
  obtain ⟨hi, he⟩ := Array.getElem?_eq_some_iff.1 ho
  have h1 := (Array.all_eq_true.1 h) i hi
  rw [he, e] at h1
  cases h1
theorem oper_round {l n : Nat} {P : Program} {o : Oper} {a : Act} {w : World} {K : Act → World → Prop} {Q : Exit → Act → World → Prop} (hnd : ∀ c, o.op ≠ .defer c) (h : o.wp P a w K (atEnd Q)) :
    o.wpIn (Fence.wide.inRound l) n P a w K Q := by
  unfold Oper.wpIn
  refine ⟨fun _ _ => trivial, ?_⟩
  rw [Oper.semAt_eq _ _ _ hnd]
  unfold Oper.wp at h
  generalize (execOp a.eval o).run P w = r at *
  cases r with
  | ok x w' =>
    cases x <;> simp only [Oper.upon, Oper.uponIn] at h ⊢
    case value u => exact h
    case skip => exact h
    case defer d => exact h
    case enter f args =>
      refine ⟨fun hd => by simp [Fence.wide] at hd, CallsIn.inRound l (callsIn_wide.2 (h.mono fun e w'' he => ?_))⟩
      cases e with
      | returned u => exact he
      | panicked c => exact he.elim
      | outgrown => exact absurd he (atEnd_out Q)
    case row row args =>
      refine ⟨fun hd => by simp [Fence.wide] at hd, fun c cs _ => ?_⟩
      obtain ⟨v, w2, r2, s⟩ := h c cs
      exact ⟨v, w2, r2, stepsIn_wide.2 s⟩
  | halt x w' =>
    cases x <;> simp only [Oper.upon, Oper.uponIn] at h ⊢
    case panic u => exact h.elim
theorem any_round {l n : Nat} {P : Program} {md : Region.Mode} {ops : Array Oper} {Q : Exit → Act → World → Prop} (hnd : noDefer ops = true) : ∀ (fuel : Nat) (listed : Array Bool) (a : Act) (w : World),
    wpAny P md ops (atEnd Q) fuel listed a w → wpAnyIn (Fence.wide.inRound l) n P md ops Q fuel listed a w
  | 0, _, _, _, h => h
  | fuel + 1, listed, a, w, h => by
    refine ⟨h.1, fun i hi => ?_⟩
    have h2 := h.2 i hi
    unfold wpOp at h2
    unfold wpOpIn
    split
    · rename_i ho
      simp only [ho] at h2
      exact any_round hnd fuel _ _ _ h2
    · rename_i o ho
      simp only [ho] at h2
      split
      · rename_i hw
        simp only [hw, if_true] at h2
        rcases h2 with h2 | ⟨_, h2⟩
        · exact Oper.wpIn_mono (fun a' w' h3 => any_round hnd fuel _ a' w' h3) (oper_round (noDefer_at hnd ho) h2)
        · exact absurd h2 (atEnd_out Q)
      · rename_i hw
        simp only [hw] at h2
        exact ⟨fun _ _ => trivial, any_round hnd fuel _ _ _ h2⟩
/-- Whatever order is picked from here on; S holds behind each operation that is marked. (The kit's wpAnyH, but for the marks: stores, which nothing that is to be taken waits for, may turn S's cells.) -/
def wpAnyT (P : Program) (md : Region.Mode) (ops : Array Oper) (Q : Exit → Act → World → Prop) (S : World → Prop) (T : Nat → Bool) : Nat → Array Bool → Act → World → Prop
  | 0, listed, a, w => Region.ready md ops listed = [] ∧ Q .normal a w
  | fuel + 1, listed, a, w =>
    (Region.ready md ops listed = [] → Q .normal a w) ∧
    ∀ i ∈ Region.ready md ops listed, wpOp P ops Q i (fun a' w' => (T i = true → S w') ∧ wpAnyT P md ops Q S T fuel (listed.setIfInBounds i true) a' w') a w
section
variable {P : Program} {ops : Array Oper} {Q : Exit → Act → World → Prop} {md : Region.Mode} {S : World → Prop} {T : Nat → Bool}
theorem wpAny_of_T : ∀ (fuel : Nat) (listed : Array Bool) (a : Act) (w : World), wpAnyT P md ops Q S T fuel listed a w → wpAny P md ops Q fuel listed a w
  | 0, _, _, _, h => h
  | fuel + 1, _, _, _, h => ⟨h.1, fun i hi => wpOp_mono (fun a' w' h' => wpAny_of_T fuel _ a' w' h'.2) (h.2 i hi)⟩
theorem wpAnyT_first {i : Nat} {oi : Oper} {v : Value} (hi : ops[i]? = some oi) (hsel : ∀ (j : Nat) (o : Oper) cs b, ops[j]? = some o → o.op ≠ .select cs b)
    (hT : ∀ j oj, ops[j]? = some oj → T j = false → j ≠ i → ∃ e ∈ oj.after, Region.binds md e = true ∧ e.on = i)
    (hQ : ∀ c a w, Q (.panic c) (a.put oi.dst v) w → Q (.panic c) a w) :
    ∀ (fuel : Nat) (listed : Array Bool) (a : Act) (w : World),
      (∀ j oj, ops[j]? = some oj → j ≠ i → listed.getD j true = false → (∀ e ∈ oj.after, Region.binds md e = true → e.on ≠ i) → oi.apart ops oj = true) →
      i ∈ Region.ready md ops listed → YieldsIf P ops S oi v a → S w →
      wpAnyT P md ops Q S T fuel (listed.setIfInBounds i true) (a.put oi.dst v) w → wpAnyT P md ops Q S T (fuel + 1) listed a w := by
  intro fuel
  induction fuel with
  | zero =>
    intro listed a w _ hr hy hS H
    refine ⟨fun h => (by rw [h] at hr; cases hr), fun j hj => ?_⟩
    by_cases hji : j = i
    · subst hji; exact hy.wpOp hi hS ⟨fun _ => hS, H⟩
    · have := ready_mono hj hji
      rw [H.1] at this
      cases this
  | succ fuel ih =>
    intro listed a w hfree hr hy hS H
    refine ⟨fun h => (by rw [h] at hr; cases hr), fun j hj => ?_⟩
    by_cases hji : j = i
    · subst hji; exact hy.wpOp hi hS ⟨fun _ => hS, H⟩
    · have h1 := H.2 j (ready_mono hj hji)
      obtain ⟨hjun, oj, hoj, hall⟩ := mem_ready.1 hj
      have hnot : ∀ e ∈ oj.after, Region.binds md e = true → e.on ≠ i := fun e he hb heq => by
        have h1 := hall e he hb
        have h0 := (mem_ready.1 hr).1
        rw [heq] at h1
        rcases Nat.lt_or_ge i listed.size with h' | h'
        · simp [h'] at h0 h1; rw [h0] at h1; cases h1
        · simp [Array.getElem?_eq_none h'] at h1
      have hTj : T j = true := by
        cases ht : T j with
        | true => rfl
        | false =>
          obtain ⟨e, he, hb, heq⟩ := hT j oj hoj ht hji
          exact absurd heq (hnot e he hb)
      have h2 := wpOp_putIf hoj (hfree j oj hoj hji hjun hnot) (fun cs b => hsel i oi cs b hi) (fun cs b => hsel j oj cs b hoj) hQ hy h1
      have hfree' : ∀ k ok, ops[k]? = some ok → k ≠ i → (listed.setIfInBounds j true).getD k true = false →
          (∀ e ∈ ok.after, Region.binds md e = true → e.on ≠ i) → oi.apart ops ok = true := fun k ok hk hki hun hno => by
        refine hfree k ok hk hki ?_ hno
        by_cases hjk : j = k
        · subst hjk; exact hjun
        · rw [getD_set_ne true hjk] at hun; exact hun
      refine wpOp_mono (fun a' w' h3 => ⟨h3.2.1, ih (listed.setIfInBounds j true) a' w' hfree' (ready_mono hr (Ne.symm hji)) h3.1 (h3.2.1 hTj) ?_⟩) h2
      rw [Array.setIfInBounds_comm _ _ hji]
      exact h3.2.2
/-- All that is not marked waits for number i. -/
def waitsT (md : Region.Mode) (ops : Array Oper) (T : Nat → Bool) (i : Nat) : Bool :=
  (List.range ops.size).all fun j => T j || j == i || ((ops[j]?).map fun o => o.after.any fun e => Region.binds md e && e.on == i).getD true
theorem waitsT_spec {i : Nat} (h : waitsT md ops T i = true) : ∀ j oj, ops[j]? = some oj → T j = false → j ≠ i → ∃ e ∈ oj.after, Region.binds md e = true ∧ e.on = i := by
  intro j oj hj ht hji
  obtain ⟨hlt, _⟩ := Array.getElem?_eq_some_iff.1 hj
  have h1 := (List.all_eq_true.1 h) j (List.mem_range.2 hlt)
  rw [ht, hj] at h1
  simp only [Bool.false_or, Option.map_some, Option.getD_some, Bool.or_eq_true, beq_iff_eq] at h1
  rcases h1 with h1 | h1
  · exact absurd h1 hji
  · rw [Array.any_eq_true] at h1
    obtain ⟨k, hk, h2⟩ := h1
    rw [Bool.and_eq_true, beq_iff_eq] at h2
    exact ⟨oj.after[k], Array.getElem_mem hk, h2.1, h2.2⟩
theorem drop_at {i : Nat} {oi : Oper} {l : List Oper} (h : ops.toList.drop i = oi :: l) : ops[i]? = some oi := by
  have h1 : (ops.toList.drop i)[0]? = some oi := by rw [h]; rfl
  rw [List.getElem?_drop, Nat.add_zero] at h1
  rw [← Array.getElem?_toList]; exact h1
theorem wpAnyT_take {i : Nat} {oi : Oper} {l : List Oper} {v : Value} {fuel : Nat} {listed : Array Bool} {a : Act} {w : World} (hi : ops.toList.drop i = oi :: l)
    (hs : Region.noSelect ops = true) (hf : Region.free md ops listed i = true) (hr : (Region.ready md ops listed).contains i = true) (hT : waitsT md ops T i = true)
    (hQ : ∀ c a w, Q (.panic c) (a.put oi.dst v) w → Q (.panic c) a w) (hS : S w) (hy : YieldsIf P ops S oi v a)
    (h : wpAnyT P md ops Q S T fuel (listed.setIfInBounds i true) (a.put oi.dst v) w) : wpAnyT P md ops Q S T (fuel + 1) listed a w :=
  wpAnyT_first (drop_at hi) (Region.noSelect_spec hs) (waitsT_spec hT) hQ fuel listed a w (Region.free_spec (drop_at hi) hf) (by simpa using hr) hy hS h
/-- The one that may come up. -/
theorem wpAnyT_one {i : Nat} {o : Oper} {l : List Oper} {fuel : Nat} {listed : Array Bool} {a : Act} {w : World} (hr : Region.ready md ops listed = [i]) (ho' : ops.toList.drop i = o :: l)
    (h : ∀ K : Act → World → Prop, (∀ a w, (T i = true → S w) → wpAnyT P md ops Q S T fuel (listed.setIfInBounds i true) a w → K a w) → if Region.wanted o (yielded ops a.tmps) = true then o.wp P a w K Q else K (a.put o.dst undef) w) :
    wpAnyT P md ops Q S T (fuel + 1) listed a w := by
  refine ⟨fun h0 => (by rw [hr] at h0; cases h0), fun j hj => ?_⟩
  rw [hr, List.mem_singleton] at hj
  subst hj
  have ho := drop_at ho'
  unfold wpOp
  simp only [ho]
  have h1 := h (fun a' w' => (T j = true → S w') ∧ wpAnyT P md ops Q S T fuel (listed.setIfInBounds j true) a' w') (fun _ _ hS hK => ⟨hS, hK⟩)
  split
  · rename_i hw
    rw [if_pos hw] at h1
    exact .inl h1
  · rename_i hw
    rw [if_neg hw] at h1
    exact h1
theorem wpAnyT_done {listed : Array Bool} {a : Act} {w : World} (hr : Region.ready md ops listed = []) (h : Q .normal a w) : ∀ fuel, wpAnyT P md ops Q S T fuel listed a w
  | 0 => ⟨hr, h⟩
  | _ + 1 => ⟨fun _ => h, by rw [hr]; simp⟩
end
theorem region_round {l n k : Nat} {P : Program} {id : Nat} {ops : Array Oper} {S : World → Prop} {T : Nat → Bool} {Q : Exit → Act → World → Prop} {a : Act} {w : World} (hm : P.follows .mixedOrders = true) (hnd : noDefer ops = true) (hk : ops.size = k)
    (hS : S w.drew) (h : S w.drew → wpAnyT P .any ops (atEnd Q) S T k (Array.replicate k false) a w.drew) : (Code.region id ops true).wpIn (Fence.wide.inRound l) n P Q a w := by
  subst hk
  exact wpIn_region_any hm (any_round hnd _ _ _ _ (wpAny_of_T _ _ _ _ (h hS)))
/-- .. and outside of a round. -/
theorem region_marks {k : Nat} {P : Program} {id : Nat} {ops : Array Oper} {S : World → Prop} {T : Nat → Bool} {Q : Exit → Act → World → Prop} {a : Act} {w : World} (hm : P.follows .mixedOrders = true) (hk : ops.size = k)
    (hS : S w.drew) (h : S w.drew → wpAnyT P .any ops Q S T k (Array.replicate k false) a w.drew) : (Code.region id ops true).wp P Q a w := by
  subst hk
  exact wp_region_any hm (wpAny_of_T _ _ _ _ (h hS))
theorem keeps_set {B : Nat} {W X : World} (h : X.heap = W.heap) (a : Addr) (v : Value) : KeepsFrom B W (X.setCell a v) := by
  have h1 := (KeepsOthers.setCell X a v).from B
  exact ⟨by rw [← h]; exact h1.size, fun k o hB hk ho => h1.same k o hB (by rw [h]; exact hk) ho⟩
theorem below_same {B : Nat} {W X : World} (h : X.heap = W.heap) (h1 : X.os = W.os) (h2 : X.tape = W.tape) (h3 : X.output = W.output) : Below B W X :=
  ⟨h1, h2, h3, Nat.le_of_eq (by rw [h]), fun k _ => by rw [h]⟩
end Go.Proofs.Ytkofhmiakfmcaaa.P
