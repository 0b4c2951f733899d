/- append of nothing, and of whatever there is, onto a slice that the call owns. Conditions: those of each lemma. -/
import Derived.Test.YtkofhmiakfmcaaaApp
namespace Go.Proofs.Ytkofhmiakfmcaaa.P
open Go.RowKit
set_option linter.unusedVariables false
set_option linter.unusedSimpArgs false
theorem append_zero {P : Program} {ops : Array Oper} {rest : List Oper} {o : Oper} {a : Act} {Q : Exit → Act → World → Prop} (w : World) {T E : TypeId} {k : IntKind} {by' : Nat}
    (hT : P.underlying T = some (.slice E)) (hI : (P.info? E).map (fun i => (i.zero, i.size, i.bytes)) = some (some (.int k 0), 1, by')) (hgd : o.guard = none) (s x : Operand)
    (ho : o.op = .call { callee := .builtin .append, args := #[s, x], argTypes := #[T, T] }) (n c c2 : Nat) (A Y : Option Addr)
    (hs : a.eval s = .slice A n c) (hx : a.eval x = .slice Y 0 c2) (hnc : n ≤ c)
    (h : wpList P ops Q rest (a.put o.dst (.slice A n c)) w) :
    wpList P ops Q (o :: rest) a w := by
  obtain ⟨i0, hi, hz0, hz1, hz2⟩ := info_parts hI
  refine wpList_plain hgd fun K hK => ?_
  have hrun : (Builtin.append_ #[T, T] o.type #[.slice A n c, .slice Y 0 c2]).run P w = .ok (.slice A n c) w := by
    cases Y <;> cases A <;> simp [Builtin.append_, run_underlying hT, sizeOf, typeInfo, hi, Builtin.lenOf, Builtin.firstCells, loadCells, loadCellsFrom, hnc, storeCells]
  unfold Oper.wp
  simp [execOp, ho, resolve, invoke, builtin, hs, hx, hrun, Result.andThen]
  exact hK _ _ h
theorem append_any {P : Program} {ops : Array Oper} {rest : List Oper} {o : Oper} {a : Act} {Q : Exit → Act → World → Prop} (w : World) {T E : TypeId} {k : IntKind} {by' : Nat}
    (hT : P.underlying T = some (.slice E)) (hI : (P.info? E).map (fun i => (i.zero, i.size, i.bytes)) = some (some (.int k 0), 1, by')) (hgd : o.guard = none) (s x : Operand)
    (ho : o.op = .call { callee := .builtin .append, args := #[s, x], argTypes := #[T, T] }) (B n c m c2 : Nat) (A Y : Option Addr) (xs us : List Int)
    (hs : a.eval s = .slice A n c) (hx : a.eval x = .slice Y m c2) (hown : Own w B E 1 A n c (nums k xs)) (hy : Row w Y (nums k us)) (hus : us.length = m) (hB : B ≤ w.heap.size)
    (h63 : n + m ≤ 9223372036854775807) (hbytes : (n + m) * by' ≤ 140737488355328)
    (h : ∀ A' cap w', Own w' B E 1 A' (n + m) cap (nums k (xs ++ us)) → Below B w w' → w.grownBy w' (Value.slice A n c).ownBlock → wpList P ops Q rest (a.put o.dst (.slice A' (n + m) cap)) w') :
    wpList P ops Q (o :: rest) a w := by
  rcases Nat.eq_zero_or_pos m with h0 | h0
  · subst h0
    have hu : us = [] := List.length_eq_zero_iff.1 hus
    subst hu
    refine append_zero w hT hI hgd s x ho n c c2 A Y hs hx hown.cap.1 ?_
    refine h A c w (by simpa using hown) (Below.refl _ _) ⟨rfl, rfl, rfl, Nat.le_refl _, fun _ _ _ => rfl⟩
  · obtain ⟨y, rfl⟩ := hy.some_of (by intro h1; have := nums_length k us; rw [h1] at this; simp at this; omega)
    exact append_row w hT hI hgd s x ho B n c m c2 A y xs us hs hx hown hy hus h0 hB h63 hbytes fun g cap w' h1 h2 h3 _ => h _ cap w' h1 h2 h3
/-- .. at a step of a region that draws its order. -/
theorem step_append_row {P : Program} {ops : Array Oper} {o : Oper} {a : Act} {K : Act → World → Prop} {Q : Exit → Act → World → Prop} {E' : Prop} (w : World) {T E : TypeId} {k : IntKind} {by' : Nat}
    (hT : P.underlying T = some (.slice E)) (hI : (P.info? E).map (fun i => (i.zero, i.size, i.bytes)) = some (some (.int k 0), 1, by')) (hgd : o.guard = none) (s x : Operand)
    (ho : o.op = .call { callee := .builtin .append, args := #[s, x], argTypes := #[T, T] }) (B n c m c2 : Nat) (A : Option Addr) (y : Addr) (xs us : List Int)
    (hs : a.eval s = .slice A n c) (hx : a.eval x = .slice (some y) m c2) (hown : Own w B E 1 A n c (nums k xs)) (hy : Row w (some y) (nums k us)) (hus : us.length = m) (hm : 0 < m) (hB : B ≤ w.heap.size)
    (h63 : n + m ≤ 9223372036854775807) (hbytes : (n + m) * by' ≤ 140737488355328)
    (h : ∀ g cap w', Own w' B E 1 (some ⟨g, 0, none⟩) (n + m) cap (nums k (xs ++ us)) → Below B w w' → w.grownBy w' (Value.slice A n c).ownBlock → g < w'.heap.size → K (a.put o.dst (.slice (some ⟨g, 0, none⟩) (n + m) cap)) w') :
    if Region.wanted o (yielded ops a.tmps) = true then Oper.wp P o a w K Q else E' := by
  obtain ⟨i0, hi, hz0, hz1, hz2⟩ := info_parts hI
  refine step_append_lies w hgd s x T ho B E i0 (.int k 0) 1 by' hT hi hz0 hz1 hz2 rfl (by decide) _ n _ hs hown y m c2 (nums k us) hx (by rw [nums_length, hus, Nat.mul_one]) ?_ ?_ hm (by unfold maxLen; omega) hbytes hB _ rfl ?_
  · intro j u hj
    exact hy.cell hj
  · intro u hu
    simp only [nums, List.mem_map] at hu
    obtain ⟨z, _, rfl⟩ := hu
    rfl
  · intro g cap w' h1 h2 h3 h4
    refine h g cap w' ?_ ?_ h2 h4
    · rw [show nums k (xs ++ us) = nums k xs ++ nums k us from by simp [nums]]; exact h1
    · refine ⟨h2.os, h2.tape, h2.output, h2.size, fun b hb => h2.block b (Nat.lt_of_lt_of_le hb hB) ?_⟩
      intro e
      rcases hown.2 with ⟨hv, _⟩ | ⟨g2, cap2, cur, hv, hg, _⟩
      · rw [hv] at e; simp [Value.ownBlock] at e
      · rw [hv] at e
        simp [Value.ownBlock] at e
        omega
end Go.Proofs.Ytkofhmiakfmcaaa.P
