
/- What stays as it was while a slice grows: append with the place of the new slice. Under no condition beside those of each lemma. -/
import Derived.Test.YtohcoidbncbijaaDoorFac2
import Derived.Test.YtohcoidbncbijaaDoorPlQ
namespace Go.Proofs.YtohcoidbncbijaaDoor.P
open Go.RowKit
set_option linter.unusedVariables false
set_option linter.unusedSimpArgs false
theorem append_cells_at {P : Program} {ops : Array Oper} {rest : List Oper} {o : Oper} {a : Act} {Q : Exit → Act → World → Prop} (w : World) {T E : TypeId} {z : Value} {size by' : Nat}
    (hT : P.underlying T = some (.slice E)) (hI : (P.info? E).map (fun i => (i.zero, i.size, i.bytes)) = some (some z, size, by')) (hzs : z.cells.size = size) (hsz : 0 < size) (hgd : o.guard = none) (s x : Operand)
    (ho : o.op = .call { callee := .builtin .append, args := #[s, x], argTypes := #[T, T] }) (B n c m c2 : Nat) (A : Option Addr) (y : Addr) (xs us : List Value)
    (hs : a.eval s = .slice A n c) (hx : a.eval x = .slice (some y) m c2) (hown : Own w B E size A n c xs) (hy : Row w (some y) us) (hus : us.length = m * size) (h1 : ∀ u ∈ us, u.oneCell' = true) (hm : 0 < m) (hB : B ≤ w.heap.size)
    (h63 : n + m ≤ 9223372036854775807) (hbytes : (n + m) * by' ≤ 140737488355328)
    (h : ∀ g cap w', Own w' B E size (some ⟨g, 0, none⟩) (n + m) cap (xs ++ us) → Below B w w' → w.grownBy w' (Value.slice A n c).ownBlock → ((Value.slice A n c).ownBlock = some g ∨ g = w.heap.size) → wpList P ops Q rest (a.put o.dst (.slice (some ⟨g, 0, none⟩) (n + m) cap)) w') :
    wpList P ops Q (o :: rest) a w := by
  obtain ⟨i0, hi, hz0, hz1, hz2⟩ := info_parts hI
  refine wpList_append_lies w hgd s x T ho B E i0 z size by' hT hi hz0 hz1 hz2 hzs hsz _ n _ hs hown y m c2 us hx hus ?_ h1 hm (by unfold maxLen; omega) hbytes hB _ rfl ?_
  · intro j u hj
    exact hy.cell hj
  · intro g cap w' h1 h2 h3 h4
    refine h g cap w' h1 ?_ h2 h3
    refine ⟨h2.os, h2.tape, h2.output, h2.size, fun b hb => h2.block b (Nat.lt_of_lt_of_le hb hB) ?_⟩
    intro e
    rcases hown.2 with ⟨hv, _⟩ | ⟨g2, cap2, cur, hv, hg, _⟩
    · rw [hv] at e; simp [Value.ownBlock] at e
    · rw [hv] at e
      simp [Value.ownBlock] at e
      omega
/-- From block lo on all is as it was in V, and the slice that grows lies elsewhere. -/
structure Fz (V : World) (lo : Nat) (Z : Option Addr) (ws : World) : Prop where
  keep : ∀ b, lo ≤ b → b < V.heap.size → ws.heap[b]? = V.heap[b]?
  apart : ∀ x, Z = some x → x.block < lo ∨ V.heap.size ≤ x.block
  size : V.heap.size ≤ ws.heap.size
theorem Fz.start {w V : World} {B : Nat} {E : TypeId} {s n c : Nat} {Z : Option Addr} {cs : List Value} (h : Own w B E s Z n c cs) {lo : Nat} (hl : w.heap.size ≤ lo) : Fz V lo Z V :=
  ⟨fun _ _ _ => rfl, fun x hx => .inl (by subst hx; have h1 := World.ownsRow.lt h x.block rfl; omega), Nat.le_refl _⟩
theorem Fz.below {V ws w' : World} {lo : Nat} {Z : Option Addr} (h : Fz V lo Z ws) (hb : Below ws.heap.size ws w') : Fz V lo Z w' :=
  ⟨fun b h1 h2 => (hb.block b (Nat.lt_of_lt_of_le h2 h.size)).trans (h.keep b h1 h2), h.apart, Nat.le_trans h.size hb.size⟩
theorem Fz.append {V wa w' : World} {lo : Nat} {Z : Option Addr} (h : Fz V lo Z wa) {n c g : Nat} (hg : wa.grownBy w' (Value.slice Z n c).ownBlock) (hl : (Value.slice Z n c).ownBlock = some g ∨ g = wa.heap.size) : Fz V lo (some ⟨g, 0, none⟩) w' := by
  refine ⟨fun b h1 h2 => (hg.block b (Nat.lt_of_lt_of_le h2 h.size) ?_).trans (h.keep b h1 h2), ?_, Nat.le_trans h.size hg.size⟩
  · intro e
    cases Z with
    | none => simp [Value.ownBlock] at e
    | some x =>
      have e2 : b = x.block := by simpa [Value.ownBlock] using e
      have h3 := h.apart x rfl
      omega
  · intro x hx
    cases hx
    rcases hl with hl | hl
    · cases Z with
      | none => simp [Value.ownBlock] at hl
      | some x =>
        have e2 : x.block = g := by simpa [Value.ownBlock] using hl
        have h3 := h.apart x rfl
        dsimp only
        omega
    · right; dsimp only; have := h.size; omega
theorem Fz.cell {V ws : World} {lo : Nat} {Z : Option Addr} (h : Fz V lo Z ws) {p : Addr} (hl : lo ≤ p.block) {v : Value} (hc : V.cell? p = some v) : ws.cell? p = some v := by
  have h2 := World.block_lt_of_cell? V _ hc
  exact (World.cell?_of_block (w := V) (h.keep _ hl h2)).trans hc
theorem Fz.row {V ws : World} {lo : Nat} {Z : Option Addr} (h : Fz V lo Z ws) {A : Option Addr} {cs : List Value} (hr : Row V A cs) (hl : ∀ x, A = some x → lo ≤ x.block) : Row ws A cs := by
  rcases hr with h1 | ⟨x, hx, hc⟩
  · exact .inl h1
  · refine .inr ⟨x, hx, fun i u hi => ?_⟩
    have h2 := hc i u hi
    have hb : (x.add i).block = x.block := by unfold Addr.add; split <;> rfl
    exact h.cell (by rw [hb]; exact hl x hx) h2
theorem Own.from' {w : World} {B : Nat} {E : TypeId} {s : Nat} {A : Option Addr} {n c : Nat} {cs : List Value} (h : Own w B E s A n c cs) : ∀ x, A = some x → B ≤ x.block := fun x hx => by
  subst hx; exact (World.ownsRow.lt h x.block rfl).1
theorem info_step : (Tryd.prog.info? 39).map (fun i => (i.zero, i.size, i.bytes)) = some (some (.agg #[.int .i64 0, .bool false, .int .i64 0, .int .i64 0, .int .i64 0]), 5, 40) := by kernel_rfl
theorem spC_one (s : Stp) : ∀ u ∈ spC s, u.oneCell' = true := by
  intro u hu
  simp only [spC, List.mem_cons, List.not_mem_nil, or_false] at hu
  rcases hu with rfl | rfl | rfl | rfl | rfl <;> rfl
theorem sp_cells {w : World} {x : Addr} {l : List Stp} (h : Row w (some x) (spR l)) {k : Nat} (hk : k < l.length) :
    w.cell? (x.add (k * 5)) = some (.int .i64 l[k].1) ∧ w.cell? ⟨(x.add (k * 5)).block, (x.add (k * 5)).off + 1, none⟩ = some (.bool l[k].2.1) ∧ w.cell? ⟨(x.add (k * 5)).block, (x.add (k * 5)).off + 2, none⟩ = some (.int .i64 l[k].2.2.1) ∧
      w.cell? ⟨(x.add (k * 5)).block, (x.add (k * 5)).off + 3, none⟩ = some (.int .i64 l[k].2.2.2.1) ∧ w.cell? ⟨(x.add (k * 5)).block, (x.add (k * 5)).off + 4, none⟩ = some (.int .i64 l[k].2.2.2.2) := by
  have e : ∀ j, j < 5 → (spR l)[k * 5 + j]? = (spC l[k])[j]? := fun j hj => flat_get spC 5 (fun _ => rfl) l k hk j hj
  rw [add_next x _ 1 (by decide), add_next x _ 2 (by decide), add_next x _ 3 (by decide), add_next x _ 4 (by decide)]
  exact ⟨h.cell (e 0 (by decide)), h.cell (e 1 (by decide)), h.cell (e 2 (by decide)), h.cell (e 3 (by decide)), h.cell (e 4 (by decide))⟩
/-- The step of a stage, of axis k. -/
def sgS (k : Nat) (s : Int × Int × Int) : Stp := ((k : Int), false, s)
def twS (k : Nat) : Stp := ((k : Int), true, 0, 0, 0)
theorem stepsN_next (ax : List (Int × Bool)) (inv : Bool) {k : Nat} {N : Int} {neg : Bool} (h : ax.getD k (1, false) = (N, neg)) :
    stepsN ax inv (k + 1) = (stepsN ax inv k ++ (if neg && !inv then [twS k] else []) ++ (stgS N).1.map (sgS k)) ++ (if inv then [twS k] else []) := by
  rw [stepsN, stepsA, h]
  simp only [List.append_assoc]
  rfl
theorem stgL_len (l : List Int) : (stgL l).length = l.length := by simp [stgL]
theorem smooth_stg {n : Int} (h : smoothS n = true) : (stgS n).2 = 0 ∧ (stgS n).1.length ≤ 12 := by
  have h1 : (facS n).2 = 0 := by unfold smoothS at h; exact beq_iff_eq.1 h
  rw [stgS_ok h1]
  exact ⟨rfl, by dsimp only; rw [stgL_len]; exact (facS_ok h1).1.len⟩
theorem stepsN_len {ax : List (Int × Bool)} (hs : ∀ a ∈ ax, smoothS a.1 = true) (inv : Bool) : ∀ k, k ≤ ax.length → (stepsN ax inv k).length ≤ 14 * k
  | 0, _ => Nat.le_refl _
  | k + 1, h => by
    have ih := stepsN_len hs inv k (by omega)
    have hk : k < ax.length := by omega
    have e : ax.getD k (1, false) = ax[k] := by rw [List.getD_eq_getElem?_getD, List.getElem?_eq_getElem hk]; rfl
    have h2 := (smooth_stg (hs _ (List.getElem_mem hk))).2
    rw [stepsN_next ax inv (k := k) (N := ax[k].1) (neg := ax[k].2) e]
    simp only [List.length_append, List.length_map]
    have h3 : ∀ b : Bool, (if b then [twS k] else []).length ≤ 1 := by intro b; cases b <;> simp
    have h4 := h3 (ax[k].2 && !inv)
    have h5 := h3 inv
    omega
theorem take_map_succ {α β : Type} (f : α → β) (l : List α) {j : Nat} (h : j < l.length) : (l.take (j + 1)).map f = (l.take j).map f ++ [f l[j]] := by
  rw [List.take_add_one, List.getElem?_eq_getElem h, List.map_append]; rfl
end Go.Proofs.YtohcoidbncbijaaDoor.P
