/- Slices as lists: what the cells of a slice hold, and that it stays so. Under no condition beside those of each lemma. -/
import Derived.Below
import Derived.Deep.Draws
import Derived.Lib.Hide
import Derived.Deep.OwnRows
import Derived.Deep.AppendLies
import Derived.OwnWalk
import Derived.Laws.OwnMore
import Derived.Test.YtkofhmiakfmcaaaLib0
namespace Go.Proofs.Ytkofhmiakfmcaaa.P
open Go.RowKit

/-- The cells of whole numbers. -/
def nums (k : IntKind) (xs : List Int) : List Value := xs.map (Value.int k)
theorem nums_length (k : IntKind) (xs : List Int) : (nums k xs).length = xs.length := by simp [nums]
theorem nums_get (k : IntKind) (xs : List Int) (i : Nat) (h : i < xs.length) : (nums k xs)[i]? = some (.int k xs[i]) := by simp [nums, h]

/-- From the address on the cells hold these values. -/
def Row (w : World) (A : Option Addr) (cs : List Value) : Prop := cs = [] ∨ ∃ x, A = some x ∧ ∀ i u, cs[i]? = some u → w.cell? (x.add i) = some u
theorem Row.nil (w : World) (A : Option Addr) : Row w A [] := .inl rfl
theorem Row.cell {w : World} {x : Addr} {cs : List Value} (h : Row w (some x) cs) {i : Nat} {u : Value} (hi : cs[i]? = some u) : w.cell? (x.add i) = some u := by
  rcases h with rfl | ⟨y, hy, hc⟩
  · simp at hi
  · cases hy; exact hc i u hi
theorem Row.num {w : World} {x : Addr} {k : IntKind} {l : List Int} (h : Row w (some x) (nums k l)) {i : Nat} (hi : i < l.length) : w.cell? (x.add i) = some (.int k l[i]) :=
  h.cell (nums_get k l i hi)
theorem Row.of_same {w w' : World} {A : Option Addr} {cs : List Value} (h : Row w A cs) (hs : ∀ p v, w.cell? p = some v → w'.cell? p = some v) : Row w' A cs := by
  rcases h with h | ⟨x, hx, hc⟩
  · exact .inl h
  · exact .inr ⟨x, hx, fun i u hi => hs _ _ (hc i u hi)⟩
theorem Row.below {w w' : World} {A : Option Addr} {cs : List Value} (h : Row w A cs) (hb : Below w.heap.size w w') : Row w' A cs :=
  h.of_same fun p _ hp => (hb.cell (World.block_lt_of_cell? w p hp)).trans hp
theorem Row.drewN {w : World} {A : Option Addr} {cs : List Value} (h : Row w A cs) (n : Nat) : Row (w.drewN n) A cs := h
theorem Row.some_of {w : World} {A : Option Addr} {cs : List Value} (h : Row w A cs) (hne : cs ≠ []) : ∃ x, A = some x := by
  rcases h with h | ⟨x, hx, _⟩
  · exact absurd h hne
  · exact ⟨x, hx⟩
/-- Nothing but draws. -/
def Drawn0 (w w' : World) : Prop := ∃ n, w' = w.drewN n
theorem Drawn0.below {w w' : World} (h : Drawn0 w w') (B : Nat) : Below B w w' := by obtain ⟨n, rfl⟩ := h; exact ⟨rfl, rfl, rfl, Nat.le_refl _, fun _ _ => rfl⟩
theorem below_drewN {B : Nat} {w w' : World} (h : Below B w w') (n : Nat) : Below B w (w'.drewN n) := h.trans ⟨rfl, rfl, rfl, Nat.le_refl _, fun _ _ => rfl⟩
/-- A new block reads as what it was made of. -/
theorem row_new (w : World) (vs : List Value) (t : TypeId) : Row (w.alloc (.cells vs.toArray t)) (some ⟨w.heap.size, 0, none⟩) vs :=
  .inr ⟨_, rfl, fun i u hi => World.news_of_block (cs := vs.toArray) (t := t) (fr := (0, 0)) (heap_alloc_new w (.cells vs.toArray t)) i u (by simpa using hi)⟩
theorem cell_new1 (w : World) (v : Value) (t : TypeId) : (w.alloc (.cells #[v] t)).cell? ⟨w.heap.size, 0, none⟩ = some v :=
  World.news_of_block (cs := #[v]) (t := t) (fr := (0, 0)) (heap_alloc_new w (.cells #[v] t)) 0 v rfl
end Go.Proofs.Ytkofhmiakfmcaaa.P
