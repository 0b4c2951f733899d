/- The row of the law ShapeLines: for every input it returns true and leaves its arguments as they were; no condition. -/
import Derived.Test.YtkofhmiakfmcaaaRows
import Derived.Test.YtkofhmiakfmcaaaRowKit
import Derived.Test.YtkofhmiakfmcaaaHead
import Derived.Test.YtkofhmiakfmcaaaLawSl
import Derived.JoinedOf
namespace Go.Proofs.Ytkofhmiakfmcaaa.shapeLines
open Go.ChangeShapes Go.WideShapes Go.ChangeAt Go.RowKit
set_option linter.unusedVariables false
theorem own : ownKnob Try.prog.godebug = none := by kernel_rfl
theorem laidOut : laidOutB Try.prog = true := by kernel_rfl
set_option maxRecDepth 100000 in
theorem lifted (os : Os) (started : os.Started) (H : Type) (enc : TypeId × Value → H) :
    ReturnsInHanded {} Try.checked os 3 .any (Rows.shapeLinesSpec.pre6 enc Try.prog Try.f3 Rows.shapeLinesRow.domain false) (Rows.shapeLinesSpec.post enc Try.prog Try.f3 false true false false) := by
  refine returnsInHanded_of_change_sized (C := Try.checked) own started (by kernel_rfl) Try.func3
    (ChangeSpec.witness6 (enc := enc) (C := Try.checked) false ⟨#[], #[.slice none 0 0, .int .i64 0], []⟩ 8 (by kernel_rfl) (by kernel_rfl) (by kernel_rfl) (by kernel_rfl)) ?_
  intro W base args ds gs before hval0 hW hcnd hsz0 _
  have hsz : (DataW.weightsEach Try.prog (Try.f3.params.toList ++ Rows.shapeLinesSpec.plain.varTypes Try.prog) (ds ++ gs)).all (· ≤ reachBytes) = true := hsz0
  have hval : ∀ (j : Nat) t v, Try.f3.params[j]? = some t → args[j]? = some v → Value.okWide Try.prog W .any base t v := hval0
  have hW' := hW
  obtain ⟨p, q, hA0, hV, rfl, hfz, hnd⟩ := hW
  have hA : DataW.TrodAll enc Try.prog W 0 (fun _ => true) true Try.f3.params.toList args.toList ds p := hA0
  rw [Try.params3] at hA hval hsz
  obtain ⟨v0, vs0, d0, ds0, p0, q0, hargs, rfl, rfl, h0, r0⟩ := trodAll_cons hA
  obtain ⟨v1, vs1, d1, ds1, p1, q1, rfl, rfl, rfl, h1, r1⟩ := trodAll_cons r0
  obtain ⟨rfl, rfl, rfl⟩ := trodAll_nil r1
  obtain rfl : args = #[v0, v1] := by cases args; simp_all
  obtain ⟨rfl, rfl⟩ := trodVars_none hV
  have k0 := h0
  have lt0 := P.block_lt_trod k0
  obtain ⟨A0, c0, l0, rfl, x0, y0, z0, b0, w0⟩ := P.open_nums (hval 0 22 v0 rfl rfl) hsz (j := 0) rfl rfl Try.underlying22 Try.underlying3 (by kernel_rfl) (B := 8) (by kernel_rfl) h0
  obtain ⟨a1, rfl, rfl, rfl, w1⟩ := open_int Try.underlying3 (hval 1 3 v1 rfl rfl) h1
  clear hA0 hval0 hsz0 hsz
  refine (P.shapeLines_walk A0 c0 l0 a1 W x0 y0 z0 w0 (P.i64_wf w1)).mono fun e W' ⟨he, bel⟩ => ?_
  subst he
  exact ⟨_, rfl, _, _, _, [], _, [], hW', trodAll_mk1 (shut_bool Try.underlying4 _), (trodAll_cons_mk (Below.trod laidOut (by kernel_rfl) (of_decide_eq_true (by kernel_rfl)) k0 bel lt0) (trodAll_cons_mk (shut_int Try.underlying3 w1) trodAll_mk0)), rfl, bel.frame _, fun h => by cases h⟩
set_option maxRecDepth 100000 in
theorem closed : joinedFacts Try.prog 3 Try.f3 Rows.shapeLinesSpec Rows.shapeLinesRow = true := by
  unfold joinedFacts
  rw [P.mayEnter, P.liftsFinal, P.make_is]
  kernel_rfl
theorem over : Rows.shapeLinesRow.holds Try.pinned (OpenSpec.ofChange Rows.shapeLinesSpec) :=
  OpenClaim.holds_of_wide 3 Try.f3 rfl rfl rfl rfl rfl rfl rfl ⟨rfl, rfl, rfl, rfl, rfl⟩ rfl rfl rfl rfl rfl (by kernel_rfl) Try.func3 closed
    (of_decide_eq_true (by kernel_rfl)) (by unfold Func.isWrapper; first | (rw [if_pos (by decide +kernel)]; kernel_rfl) | (rw [if_neg (by decide +kernel)]; exact ⟨rfl, rfl⟩))
    (fun os started H enc _ => lifted os started H enc)
end Go.Proofs.Ytkofhmiakfmcaaa.shapeLines
namespace Go.Proofs.Ytkofhmiakfmcaaa
/-- The row, under a short name, for the claim. -/
theorem shapeLines_holds : Rows.ShapeLinesSaid := shapeLines.over
end Go.Proofs.Ytkofhmiakfmcaaa
