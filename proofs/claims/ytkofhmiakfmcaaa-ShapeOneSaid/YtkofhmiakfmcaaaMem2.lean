/- Slices that a call has made: they read as lists, and stay so. Under no condition beside those of each lemma. -/
import Derived.Test.YtkofhmiakfmcaaaMem
import Derived.Laws.MakeOwn
namespace Go.Proofs.Ytkofhmiakfmcaaa.P
open Go.RowKit

/-- A slice value whose row is the call's own (from block B on), with these cells; E: the element's type, s: its cells. -/
def Own (w : World) (B : Nat) (E : TypeId) (s : Nat) (A : Option Addr) (n c : Nat) (cs : List Value) : Prop := w.ownsRow B E s (.slice A n c) n cs
theorem Own.nil (w : World) (B : Nat) (E : TypeId) (s : Nat) : Own w B E s none 0 0 [] := World.ownsRow_nil w B E s
theorem Own.row {w : World} {B : Nat} {E : TypeId} {s : Nat} {A : Option Addr} {n c : Nat} {cs : List Value} (h : Own w B E s A n c cs) : Row w A cs := by
  cases cs with
  | nil => exact .inl rfl
  | cons v cs =>
    have h1 := h.1
    have hn : 0 < n := by
      rcases Nat.eq_zero_or_pos n with h0 | h0
      · subst h0; simp at h1
      · exact h0
    obtain ⟨g, cap, hv, _, _⟩ := World.ownsRow.form h hn
    cases hv
    exact .inr ⟨_, rfl, World.ownsRow.cells h rfl⟩
theorem Own.len {w : World} {B : Nat} {E : TypeId} {s : Nat} {A : Option Addr} {n c : Nat} {cs : List Value} (h : Own w B E s A n c cs) : cs.length = n * s := h.1
theorem Own.grown {w w' : World} {B : Nat} {E : TypeId} {s : Nat} {A : Option Addr} {n c : Nat} {cs : List Value} (h : Own w B E s A n c cs) (hb : Below w.heap.size w w') : Own w' B E s A n c cs := by
  refine World.ownsRow.kept (row := none) h ⟨hb.os, hb.tape, hb.output, hb.size, fun k hk _ => hb.block k hk⟩ ?_
  cases A with
  | none => exact .inl rfl
  | some a => exact .inr (by simp [Value.ownBlock])
theorem Own.drewN {w : World} {B : Nat} {E : TypeId} {s : Nat} {A : Option Addr} {n c : Nat} {cs : List Value} (h : Own w B E s A n c cs) (k : Nat) : Own (w.drewN k) B E s A n c cs := h
theorem Own.mono {w : World} {B B' : Nat} {E : TypeId} {s : Nat} {A : Option Addr} {n c : Nat} {cs : List Value} (h : Own w B E s A n c cs) (hB : B' ≤ B) : Own w B' E s A n c cs := by
  refine ⟨h.1, ?_⟩
  rcases h.2 with h2 | ⟨g, cap, cur, hv, hg, r⟩
  · exact .inl h2
  · exact .inr ⟨g, cap, cur, hv, Nat.le_trans hB hg, r⟩
theorem Own.cap {w : World} {B : Nat} {E : TypeId} {s : Nat} {A : Option Addr} {n c : Nat} {cs : List Value} (h : Own w B E s A n c cs) : n ≤ c ∧ c ≤ 9223372036854775807 := by
  rcases h.2 with ⟨hv, hn⟩ | ⟨g, cap, cur, hv, hg, hh, h1, h2, _⟩
  · cases hv; exact ⟨Nat.le_refl _, by omega⟩
  · cases hv; exact ⟨h1, by unfold maxLen at h2; omega⟩
/-- The zeros of a make. -/
theorem madeCells_one (v : Value) (n : Nat) : (madeCells #[v] n).toList = List.replicate n v := by
  apply List.ext_getElem
  · simp [madeCells]
  · intro i h1 h2; simp [madeCells, Nat.mod_one]
theorem own_made (w : World) (B : Nat) (E : TypeId) (v : Value) (n : Nat) (hB : B ≤ w.heap.size) (hn : n ≤ 9223372036854775807) :
    Own (w.alloc (.cells (madeCells #[v] n) E)) B E 1 (some ⟨w.heap.size, 0, none⟩) n n (List.replicate n v) := by
  refine ⟨by simp, .inr ⟨w.heap.size, n, madeCells #[v] n, rfl, hB, heap_alloc_new w _, Nat.le_refl _, by unfold maxLen; omega, by simp [madeCells], ?_⟩⟩
  rw [madeCells_one]; simp
theorem Own.cellAt {w : World} {B : Nat} {E : TypeId} {g n c : Nat} {cs : List Value} (h : Own w B E 1 (some ⟨g, 0, none⟩) n c cs) (j : Nat) (hj : j < n) : w.cell? ⟨g, j, none⟩ = cs[j]? :=
  World.ownsRow.cellAt h j (by omega)
theorem Own.frozenAt {w : World} {B : Nat} {E : TypeId} {s g n c : Nat} {cs : List Value} (h : Own w B E s (some ⟨g, 0, none⟩) n c cs) (j : Nat) : w.frozen? ⟨g, j, none⟩ = false :=
  World.ownsRow.frozenAt h j
theorem Own.stored {w : World} {B : Nat} {E : TypeId} {s g n c : Nat} {cs : List Value} (h : Own w B E s (some ⟨g, 0, none⟩) n c cs) (j : Nat) (u : Value) :
    Own (w.setCell ⟨g, j, none⟩ u) B E s (some ⟨g, 0, none⟩) n c (cs.set j u) := (World.ownsRow.stored h j u).1
theorem Own.base {w : World} {B : Nat} {E : TypeId} {s g n c : Nat} {cs : List Value} (h : Own w B E s (some ⟨g, 0, none⟩) n c cs) : B ≤ g ∧ g < w.heap.size := World.ownsRow.lt h g rfl
theorem nums_replicate (k : IntKind) (n : Nat) (v : Int) : List.replicate n (Value.int k v) = nums k (List.replicate n v) := by simp [nums]
theorem nums_set (k : IntKind) (l : List Int) (j : Nat) (v : Int) : (nums k l).set j (.int k v) = nums k (l.set j v) := by simp [nums, List.map_set]
/-- Draws ahead of a call don't matter to what the call leaves. -/
theorem below_pre {w w1 : World} {n : Nat} (h : Below (w.drewN n).heap.size (w.drewN n) w1) : Below w.heap.size w w1 :=
  ⟨h.os, h.tape, h.output, h.size, h.block⟩
end Go.Proofs.Ytkofhmiakfmcaaa.P
