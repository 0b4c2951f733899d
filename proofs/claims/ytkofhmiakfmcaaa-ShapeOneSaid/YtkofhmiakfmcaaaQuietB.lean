/- A region that draws its order, whose operations read or make memory alone: one walk in the text's order serves. Under no condition beside those of each lemma. -/
import Derived.Test.YtkofhmiakfmcaaaMem2
import Derived.Deep.QuietTactic
import Derived.BigQuiet
namespace Go.Proofs.Ytkofhmiakfmcaaa.P
open Go.RowKit
theorem wp_region_below {P : Program} {id : Nat} {Q : Exit → Act → World → Prop} {a : Act} {w : World} {l : List Oper} (hm : P.follows .mixedOrders = true) (hB : Region.lexB .any l.toArray = true)
    (h : wpQuiet P l.toArray (fun w' => Below w.heap.size w w') (fun a' => ∀ w', Below w.heap.size w w' → Q .normal a' w') l a) : (Code.region id l.toArray true).wp P Q a w :=
  wp_region_quiet (C := fun w' => Below w.heap.size w w') hm hB ⟨rfl, rfl, rfl, Nat.le_refl _, fun _ _ => rfl⟩ (by simpa using h)
theorem qb_make {P : Program} {f : FuncId} {args : Array Value} {w W : World} {v : Value} (h : Calls P f args W fun e w' => e = .returned v ∧ Below W.heap.size W w') (hW : Below w.heap.size w W) :
    Calls P f args W fun e w' => e = .returned v ∧ Below w.heap.size w w' := h.mono fun _ _ ⟨he, hb⟩ => ⟨he, hW.trans (hb.mono hW.size)⟩
theorem qb_drawn {P : Program} {f : FuncId} {args : Array Value} {w W : World} {v : Value} (h : Calls P f args W fun e w' => e = .returned v ∧ Drawn0 W w') (hW : Below w.heap.size w W) :
    Calls P f args W fun e w' => e = .returned v ∧ Below w.heap.size w w' := h.mono fun _ _ ⟨he, hb⟩ => ⟨he, hW.trans (hb.below _)⟩
theorem qb_same {P : Program} {f : FuncId} {args : Array Value} {w W : World} {v : Value} (h : Calls P f args W fun e w' => e = .returned v ∧ w' = W) (hW : Below w.heap.size w W) :
    Calls P f args W fun e w' => e = .returned v ∧ Below w.heap.size w w' := h.mono fun _ _ ⟨he, hb⟩ => ⟨he, by rw [hb]; exact hW⟩
end Go.Proofs.Ytkofhmiakfmcaaa.P
