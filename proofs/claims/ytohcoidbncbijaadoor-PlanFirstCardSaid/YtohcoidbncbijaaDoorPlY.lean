
/- append of whatever rows of cells there are. Conditions: those of each lemma. -/
import Derived.Test.YtohcoidbncbijaaDoorPlF
import Derived.Test.YtohcoidbncbijaaDoorFac3
namespace Go.Proofs.YtohcoidbncbijaaDoor.P
open Go.RowKit
set_option linter.unusedVariables false
set_option linter.unusedSimpArgs false
theorem info_axis : (Tryd.prog.info? 32).map (fun i => (i.zero, i.size, i.bytes)) = some (some (.agg #[.int .i64 0, .bool false]), 2, 16) := by kernel_rfl
theorem append_cells_none {P : Program} {ops : Array Oper} {rest : List Oper} {o : Oper} {a : Act} {Q : Exit → Act → World → Prop} (w : World) {T E : TypeId} {z : Value} {size by' : Nat}
    (hT : P.underlying T = some (.slice E)) (hI : (P.info? E).map (fun i => (i.zero, i.size, i.bytes)) = some (some z, size, by')) (hgd : o.guard = none) (s x : Operand)
    (ho : o.op = .call { callee := .builtin .append, args := #[s, x], argTypes := #[T, T] }) (n c c2 : Nat) (A Y : Option Addr)
    (hs : a.eval s = .slice A n c) (hx : a.eval x = .slice Y 0 c2) (hnc : n ≤ c)
    (h : wpList P ops Q rest (a.put o.dst (.slice A n c)) w) :
    wpList P ops Q (o :: rest) a w := by
  obtain ⟨i0, hi, hz0, hz1, hz2⟩ := info_parts hI
  refine wpList_plain hgd fun K hK => ?_
  have hrun : (Builtin.append_ #[T, T] o.type #[.slice A n c, .slice Y 0 c2]).run P w = .ok (.slice A n c) w := by
    cases Y <;> cases A <;> simp [Builtin.append_, run_underlying hT, sizeOf, typeInfo, hi, Builtin.lenOf, Builtin.firstCells, loadCells, loadCellsFrom, hnc, storeCells]
  unfold Oper.wp
  simp [execOp, ho, resolve, invoke, builtin, hs, hx, hrun, Result.andThen]
  exact hK _ _ h
theorem append_cells_any {P : Program} {ops : Array Oper} {rest : List Oper} {o : Oper} {a : Act} {Q : Exit → Act → World → Prop} (w : World) {T E : TypeId} {z : Value} {size by' : Nat}
    (hT : P.underlying T = some (.slice E)) (hI : (P.info? E).map (fun i => (i.zero, i.size, i.bytes)) = some (some z, size, by')) (hzs : z.cells.size = size) (hsz : 0 < size) (hgd : o.guard = none) (s x : Operand)
    (ho : o.op = .call { callee := .builtin .append, args := #[s, x], argTypes := #[T, T] }) (B n c m c2 : Nat) (A Y : Option Addr) (xs us : List Value)
    (hs : a.eval s = .slice A n c) (hx : a.eval x = .slice Y m c2) (hown : Own w B E size A n c xs) (hy : Row w Y us) (hus : us.length = m * size) (h1 : ∀ u ∈ us, u.oneCell' = true) (hB : B ≤ w.heap.size)
    (h63 : n + m ≤ 9223372036854775807) (hbytes : (n + m) * by' ≤ 140737488355328)
    (h : ∀ A' cap w', Own w' B E size A' (n + m) cap (xs ++ us) → Below B w w' → wpList P ops Q rest (a.put o.dst (.slice A' (n + m) cap)) w') :
    wpList P ops Q (o :: rest) a w := by
  rcases Nat.eq_zero_or_pos m with h0 | h0
  · subst h0
    have hu : us = [] := List.length_eq_zero_iff.1 (by rw [hus]; simp)
    subst hu
    refine append_cells_none w hT hI hgd s x ho n c c2 A Y hs hx hown.cap.1 ?_
    refine h A c w (by simpa using hown) (Below.refl _ _)
  · obtain ⟨y, rfl⟩ := hy.some_of (by intro h2; rw [h2] at hus; have h3 := Nat.mul_pos h0 hsz; rw [← hus] at h3; simp at h3)
    exact append_cells w hT hI hzs hsz hgd s x ho B n c m c2 A y xs us hs hx hown hy hus h1 h0 hB h63 hbytes fun g cap w' h2 h3 _ _ => h _ cap w' h2 h3
theorem axR_one (l : List (Int × Bool)) : ∀ u ∈ axR l, u.oneCell' = true := by
  intro u hu
  simp only [axR, List.mem_flatMap] at hu
  obtain ⟨a, _, ha⟩ := hu
  simp only [axC, List.mem_cons, List.not_mem_nil, or_false] at ha
  rcases ha with rfl | rfl <;> rfl
end Go.Proofs.YtohcoidbncbijaaDoor.P
