
/- The contracts of slices.Equal at stages, brackenref04's SameStages. Conditions: slices read as lists. -/
import Derived.Test.YtohcoidbncbijaaDoorFac1
import Derived.Test.YtohcoidbncbijaaDoorShapeB
import Derived.Test.YtohcoidbncbijaaDoorRef05B
import Derived.Deep.Slices
namespace Go.Proofs.YtohcoidbncbijaaDoor.P
open Go.RowKit
set_option linter.unusedVariables false
set_option linter.unusedSimpArgs false
theorem add_next (x : Addr) (i j : Nat) (hj : j ≠ 0) : (⟨(x.add i).block, (x.add i).off + j, none⟩ : Addr) = x.add (i + j) := by
  rw [← Go.Deep.add_add]
  show _ = (if j = 0 then x.add i else ⟨(x.add i).block, (x.add i).off + j, none⟩)
  rw [if_neg hj]
theorem stg_cells {w : World} {x : Addr} {l : List (Int × Int × Int)} (h : Row w (some x) (stR3 l)) {k : Nat} (hk : k < l.length) :
    w.cell? (x.add (k * 3)) = some (.int .i64 l[k].1) ∧ w.cell? ⟨(x.add (k * 3)).block, (x.add (k * 3)).off + 1, none⟩ = some (.int .i64 l[k].2.1) ∧ w.cell? ⟨(x.add (k * 3)).block, (x.add (k * 3)).off + 2, none⟩ = some (.int .i64 l[k].2.2) := by
  have e : ∀ j, j < 3 → (stR3 l)[k * 3 + j]? = (stC3 l[k])[j]? := fun j hj => flat_get stC3 3 (fun _ => rfl) l k hk j hj
  rw [add_next x _ 1 (by decide), add_next x _ 2 (by decide)]
  exact ⟨h.cell (e 0 (by decide)), h.cell (e 1 (by decide)), h.cell (e 2 (by decide))⟩
/- GENERATED below by gen/fac2.py -/
theorem stgS_len (n : Int) : (stgS n).1.length ≤ 9223372036854775807 := by
  by_cases h : (facS n).2 = 0
  · rw [stgS_ok h]
    have := (facS_ok h).1.len
    simp [stgL]; omega
  · rw [stgS_no h]; simp
end Go.Proofs.YtohcoidbncbijaaDoor.P
