/- The row and the card of the law StepDoes: for every input it returns true and leaves its arguments as they were; the library's table lies as the program's text lays it. -/
import Derived.Test.YtohcoidbncbijaaDoorRows
import Derived.Test.YtohcoidbncbijaaDoorCards
import Derived.Test.YtohcoidbncbijaaDoorTie
import Derived.Test.YtohcoidbncbijaaDoorRowKit2
import Derived.Test.YtohcoidbncbijaaDoorDoorKit
import Derived.Test.YtohcoidbncbijaaDoorHead
import Derived.Test.YtohcoidbncbijaaDoorSwH
import Derived.Test.YtohcoidbncbijaaDoorRowKit3
import Derived.Test.YtohcoidbncbijaaDoorRowKit4
import Derived.JoinedOf
import Derived.SevenTiedAt
namespace Go.Proofs.YtohcoidbncbijaaDoor.stepDoes
open Go.ChangeShapes Go.WideShapes Go.ChangeAt Go.RowKit
set_option linter.unusedVariables false
theorem own : ownKnob Tryd.prog.godebug = none := by kernel_rfl
theorem laidOut : laidOutB Tryd.prog = true := by kernel_rfl
set_option maxRecDepth 100000 in
theorem lifted (os : Os) (started : os.Started) (H : Type) (enc : TypeId × Value → H) :
    ReturnsInHanded {} Tryd.checked os 16 .any (fun w args => (Rows.stepDoesSpec.pre enc Tryd.prog Tryd.f16 [] false w args ∧ laidMetH Tryd.prog P.laidL w) ∧ sizedMet enc Tryd.prog Tryd.f16 (OpenSpec.ofChange Rows.stepDoesSpec) false w args) (Rows.stepDoesSpec.post enc Tryd.prog Tryd.f16 false true false false) := by
  refine returnsInHanded_of_change_and (C := Tryd.checked) (X := fun w _ => laidMetH Tryd.prog P.laidL w) (fun _ _ _ hh h => h.of_heap hh) own started (by kernel_rfl) Tryd.func16
    (ChangeSpec.witness_shaped (enc := enc) (C := Tryd.checked) (os := os) (X := fun w _ => laidMetH Tryd.prog P.laidL w) false (World.doorLaid Tryd.prog 400 os) #[.int .u64 0, .slice none 0 0, .bool false, .agg #[.int .i64 0, .bool false, .int .i64 0, .int .i64 0, .int .i64 0], .slice none 0 0] 8 rfl (World.shaped_of_RefB (by kernel_rfl) (by kernel_rfl)) (by kernel_rfl) (by kernel_rfl) (by kernel_rfl) (P.door_met os _)) ?_
  intro W base args ds gs before hval0 hW hcnd hsz0 hL _
  have hT := P.tab_of hL
  have hsz : (DataW.weightsEach Tryd.prog (Tryd.f16.params.toList ++ Rows.stepDoesSpec.plain.varTypes Tryd.prog) (ds ++ gs)).all (· ≤ reachBytes) = true := hsz0
  have hval : ∀ (j : Nat) t v, Tryd.f16.params[j]? = some t → args[j]? = some v → Value.okWide Tryd.prog W .any base t v := hval0
  have hW' := hW
  obtain ⟨p, q, hA0, hV, rfl, hfz, hnd⟩ := hW
  have hA : DataW.TrodAll enc Tryd.prog W 0 (fun _ => true) true Tryd.f16.params.toList args.toList ds p := hA0
  rw [Tryd.params16] at hA hval hsz
  obtain ⟨v0, vs0, d0, ds0, p0, q0, hargs, rfl, rfl, h0, r0⟩ := trodAll_cons hA
  obtain ⟨v1, vs1, d1, ds1, p1, q1, rfl, rfl, rfl, h1, r1⟩ := trodAll_cons r0
  obtain ⟨v2, vs2, d2, ds2, p2, q2, rfl, rfl, rfl, h2, r2⟩ := trodAll_cons r1
  obtain ⟨v3, vs3, d3, ds3, p3, q3, rfl, rfl, rfl, h3, r3⟩ := trodAll_cons r2
  obtain ⟨v4, vs4, d4, ds4, p4, q4, rfl, rfl, rfl, h4, r4⟩ := trodAll_cons r3
  obtain ⟨rfl, rfl, rfl⟩ := trodAll_nil r4
  obtain rfl : args = #[v0, v1, v2, v3, v4] := by cases args; simp_all
  obtain ⟨rfl, rfl⟩ := trodVars_none hV
  obtain ⟨a0, rfl, rfl, rfl, w0⟩ := open_int Tryd.underlying22 (hval 0 22 v0 rfl rfl) h0
  have k1 := h1
  have lt1 := P.block_lt_trod k1
  obtain ⟨A1, c1, l1, rfl, x1, y1, z1, b1, w1⟩ := P.open_axes (hval 1 23 v1 rfl rfl) hsz (j := 1) rfl rfl Tryd.underlying23 Tryd.underlying32 (by kernel_rfl) (B := 16) (by kernel_rfl) rfl rfl (by kernel_rfl) (by kernel_rfl) (by kernel_rfl) (by kernel_rfl) h1
  obtain ⟨a2, rfl, rfl, rfl⟩ := open_bool Tryd.underlying4 (hval 2 4 v2 rfl rfl) h2
  have k3 := h3
  have lt3 := P.block_lt_trod k3
  obtain ⟨s3, rfl, wa3, wb3, wc3, wd3⟩ := P.open_stp (hval 3 39 v3 rfl rfl) Tryd.underlying39 (by kernel_rfl) rfl rfl rfl (by kernel_rfl) (by kernel_rfl) (by kernel_rfl) Tryd.underlying3 Tryd.underlying4 Tryd.underlying37 rfl rfl rfl (by kernel_rfl) (by kernel_rfl) (by kernel_rfl) Tryd.underlying3 Tryd.underlying3 Tryd.underlying3 h3
  have k4 := h4
  have lt4 := P.block_lt_trod k4
  obtain ⟨A4, c4, l4, rfl, x4, y4, z4, b4, w4⟩ := P.open_nums (hval 4 41 v4 rfl rfl) hsz (j := 4) rfl rfl Tryd.underlying41 Tryd.underlying22 (by kernel_rfl) (B := 8) (by kernel_rfl) h4
  clear hA0 hval0 hsz0 hsz
  refine (P.stepDoes_walk a0 A1 c1 l1 a2 s3 A4 c4 l4 W (P.u64_wf w0) x1 y1 z1 w1 (P.i64_wf wa3) (P.i64_wf wb3) (P.i64_wf wc3) (P.i64_wf wd3) x4 y4 w4 hT).mono fun e W' ⟨he, bel⟩ => ?_
  subst he
  exact ⟨_, rfl, _, _, _, [], _, [], hW', trodAll_mk1 (shut_bool Tryd.underlying4 _), (trodAll_cons_mk (shut_int Tryd.underlying22 w0) (trodAll_cons_mk (Below.trod laidOut (by kernel_rfl) (of_decide_eq_true (by kernel_rfl)) k1 bel lt1) (trodAll_cons_mk (shut_bool Tryd.underlying4 _) (trodAll_cons_mk (Below.trod laidOut (by kernel_rfl) (of_decide_eq_true (by kernel_rfl)) k3 bel lt3) (trodAll_cons_mk (Below.trod laidOut (by kernel_rfl) (of_decide_eq_true (by kernel_rfl)) k4 bel lt4) trodAll_mk0))))), rfl, bel.frame _, fun h => by cases h⟩
set_option maxRecDepth 100000 in
theorem closed : joinedFacts Tryd.prog 16 Tryd.f16 Rows.stepDoesSpec Rows.stepDoesRow = true := by
  unfold joinedFacts
  rw [P.mayEnter, P.liftsFinal, P.make_is]
  kernel_rfl
theorem over : Rows.stepDoesRow.holds Tryd.pinned (OpenSpec.ofChange Rows.stepDoesSpec) :=
  OpenClaim.holds_of_wide 16 Tryd.f16 rfl rfl rfl rfl rfl rfl rfl ⟨rfl, rfl, rfl, rfl, rfl⟩ rfl rfl rfl rfl rfl (by kernel_rfl) Tryd.func16 closed
    (of_decide_eq_true (by kernel_rfl)) (by unfold Func.isWrapper; first | (rw [if_pos (by decide +kernel)]; kernel_rfl) | (rw [if_neg (by decide +kernel)]; exact ⟨rfl, rfl⟩))
    (fun os started H enc _ => lifted os started H enc)
theorem card : Rows.StepDoesCardSaid :=
  Claim7.holds_tied_plain_at .later [] [.data, .data] true (true, "976dc4b70abbf39700760d04c04fbfd44f6f72749ef933f314761116cca54319") false
    over (fun _ h => by cases h) (by kernel_rfl) (fun _ h => by cases h) stepDoes_row_tie rfl ⟨rfl, rfl⟩ (by kernel_rfl) rfl
    (fun f fn hf hfn => by
      obtain rfl : f = 16 := Option.some.inj ((show Tryd.prog.funcNamed "bracken/brackenlaw16.StepDoes" = some 16 by kernel_rfl).symm.trans hf) |>.symm
      obtain rfl : fn = Tryd.f16 := (Option.some.inj (Tryd.func16.symm.trans hfn)).symm
      exact ⟨by kernel_rfl, fun j t ht => by
        rw [Tryd.params16] at ht
        have hm : t ∈ [22, 23, 4, 39, 41] := by simpa using Array.mem_of_getElem? ht
        have hall : ([22, 23, 4, 39, 41].all fun u => !Tryd.prog.wantsStandIn u) = true := by kernel_rfl
        exact (show Tryd.prog.wantsStandIn t = false by simpa using List.all_eq_true.1 hall t hm)⟩)
    (by kernel_rfl)
end Go.Proofs.YtohcoidbncbijaaDoor.stepDoes
namespace Go.Proofs.YtohcoidbncbijaaDoor
/-- The card, under a short name, for the claim. -/
theorem stepDoes_holds : Rows.StepDoesCardSaid := stepDoes.card
end Go.Proofs.YtohcoidbncbijaaDoor
