/- Appends at a step of a region that draws its order, the source maybe empty; two operations that may both come up. Under no condition beside those of each lemma. -/
import Derived.Test.YtkofhmiakfmcaaaRound2
import Derived.Test.YtkofhmiakfmcaaaApp2
namespace Go.Proofs.Ytkofhmiakfmcaaa.P
open Go.RowKit
set_option linter.unusedVariables false
theorem step_append_any {P : Program} {ops : Array Oper} {o : Oper} {a : Act} {K : Act → World → Prop} {Q : Exit → Act → World → Prop} {E' : Prop} (w : World) {T E : TypeId} {k : IntKind} {by' : Nat}
    (hT : P.underlying T = some (.slice E)) (hI : (P.info? E).map (fun i => (i.zero, i.size, i.bytes)) = some (some (.int k 0), 1, by')) (hwant : Region.wanted o (yielded ops a.tmps) = true) (s x : Operand)
    (ho : o.op = .call { callee := .builtin .append, args := #[s, x], argTypes := #[T, T] }) (B n c m c2 : Nat) (A Y : Option Addr) (xs us : List Int)
    (hs : a.eval s = .slice A n c) (hx : a.eval x = .slice Y m c2) (hown : Own w B E 1 A n c (nums k xs)) (hy : Row w Y (nums k us)) (hus : us.length = m) (hB : B ≤ w.heap.size)
    (h63 : n + m ≤ 9223372036854775807) (hbytes : (n + m) * by' ≤ 140737488355328)
    (h : ∀ A' cap w', Own w' B E 1 A' (n + m) cap (nums k (xs ++ us)) → Below B w w' → K (a.put o.dst (.slice A' (n + m) cap)) w') :
    if Region.wanted o (yielded ops a.tmps) = true then Oper.wp P o a w K Q else E' := by
  rw [if_pos hwant]
  have hwg : Region.wanted { o with guard := none } (yielded #[] a.tmps) = true := rfl
  have hop : Oper.wp P { o with guard := none } a w K Q := by
    rcases Nat.eq_zero_or_pos m with h0 | h0
    · subst h0
      have hu : us = [] := List.length_eq_zero_iff.1 hus
      subst hu
      obtain ⟨i0, hi, hz0, hz1, hz2⟩ := info_parts hI
      have hnc := hown.cap.1
      have hrun : (Builtin.append_ #[T, T] o.type #[.slice A n c, .slice Y 0 c2]).run P w = .ok (.slice A n c) w := by
        cases Y <;> cases A <;> simp [Builtin.append_, run_underlying hT, sizeOf, typeInfo, hi, Builtin.lenOf, Builtin.firstCells, loadCells, loadCellsFrom, hnc, storeCells]
      unfold Oper.wp
      simp [execOp, ho, resolve, invoke, builtin, hs, hx, hrun, Result.andThen]
      exact h A c w (by simpa using hown) (Below.refl _ _)
    · obtain ⟨y, rfl⟩ := hy.some_of (by intro h1; have := nums_length k us; rw [h1] at this; simp at this; omega)
      have := step_append_row (P := P) (ops := #[]) (o := { o with guard := none }) (a := a) (K := K) (Q := Q) (E' := False) w hT hI rfl s x ho B n c m c2 A y xs us hs hx hown hy hus h0 hB h63 hbytes fun g cap w' h1 h2 _ _ => h _ cap w' h1 h2
      rw [if_pos hwg] at this
      exact this
  exact hop
section
variable {P : Program} {ops : Array Oper} {Q : Exit → Act → World → Prop} {md : Region.Mode} {S : World → Prop} {T : Nat → Bool}
/-- The two that may come up. -/
theorem wpAnyT_two {i j : Nat} {o o2 : Oper} {l l2 : List Oper} {fuel : Nat} {listed : Array Bool} {a : Act} {w : World} (hr : Region.ready md ops listed = [i, j]) (ho' : ops.toList.drop i = o :: l) (ho2' : ops.toList.drop j = o2 :: l2)
    (h : ∀ K : Act → World → Prop, (∀ a w, (T i = true → S w) → wpAnyT P md ops Q S T fuel (listed.setIfInBounds i true) a w → K a w) → if Region.wanted o (yielded ops a.tmps) = true then o.wp P a w K Q else K (a.put o.dst undef) w)
    (h2 : ∀ K : Act → World → Prop, (∀ a w, (T j = true → S w) → wpAnyT P md ops Q S T fuel (listed.setIfInBounds j true) a w → K a w) → if Region.wanted o2 (yielded ops a.tmps) = true then o2.wp P a w K Q else K (a.put o2.dst undef) w) :
    wpAnyT P md ops Q S T (fuel + 1) listed a w := by
  refine ⟨fun h0 => (by rw [hr] at h0; cases h0), fun t ht => ?_⟩
  rw [hr] at ht
  simp only [List.mem_cons, List.not_mem_nil, or_false] at ht
  have aux : ∀ {t : Nat} {o : Oper} {l : List Oper}, ops.toList.drop t = o :: l →
      (∀ K : Act → World → Prop, (∀ a w, (T t = true → S w) → wpAnyT P md ops Q S T fuel (listed.setIfInBounds t true) a w → K a w) → if Region.wanted o (yielded ops a.tmps) = true then o.wp P a w K Q else K (a.put o.dst undef) w) →
      wpOp P ops Q t (fun a' w' => (T t = true → S w') ∧ wpAnyT P md ops Q S T fuel (listed.setIfInBounds t true) a' w') a w := by
    intro t o l ho' h
    have ho := drop_at ho'
    unfold wpOp
    simp only [ho]
    have h1 := h (fun a' w' => (T t = true → S w') ∧ wpAnyT P md ops Q S T fuel (listed.setIfInBounds t true) a' w') (fun _ _ hS hK => ⟨hS, hK⟩)
    split
    · rename_i hw
      rw [if_pos hw] at h1
      exact .inl h1
    · rename_i hw
      rw [if_neg hw] at h1
      exact h1
  rcases ht with rfl | rfl
  · exact aux ho' h
  · exact aux ho2' h2
end
end Go.Proofs.Ytkofhmiakfmcaaa.P
