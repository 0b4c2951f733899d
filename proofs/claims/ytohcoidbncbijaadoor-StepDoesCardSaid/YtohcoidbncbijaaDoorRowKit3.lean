
/- From a row's arguments to numbers: structs by value. Under no condition beside those of each lemma. -/
import Derived.Lib.SmallJoins
import Derived.Test.YtohcoidbncbijaaDoorRowKit2
namespace Go.Proofs.YtohcoidbncbijaaDoor.P
open Go.ChangeShapes Go.WideShapes Go.ChangeAt Go.RowKit Go.Deep Go.Joins
set_option linter.unusedVariables false
/-- An axis by value that came in. -/
theorem open_axis {H : Type} {enc : TypeId × Value → H} {P : Program} {W : World} {r : Reach} {b0 : Nat} {base : Nat} {spare : Nat → Bool} {held : Bool} {t : TypeId} {v : Value} {d : DataW H} {ps : List MemPlace} {f0 f1 : Field}
    (hv : Value.okWide P W r b0 t v) (hu : P.underlying t = some (.struct #[f0, f1])) (hone : oneCellFields P #[f0, f1] = true) (hc : P.cellsOf t = 2) (k0 : P.underlying f0.type = some (.int .i64)) (k1 : P.underlying f1.type = some .bool)
    (h : DataW.Trod enc P W base spare held t v d ps) : ∃ (a : Int) (b : Bool), v = .agg #[.int .i64 a, .bool b] ∧ (Lit.int .i64 a).wf = true := by
  obtain ⟨c0, c1, y0, y1, m, rfl, rfl, rfl, hy0, hy1⟩ := open_agg2 hu hone hc hv h
  obtain ⟨z, hz, _, hw⟩ := DataW.trod_int k0 hy0
  obtain ⟨b, hb, _⟩ := DataW.trod_bool k1 hy1
  simp at hz hb
  subst hz hb
  exact ⟨z, b, rfl, hw⟩
end Go.Proofs.YtohcoidbncbijaaDoor.P
