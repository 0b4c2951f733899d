/- The row and the card of the law PlanFirst: for every input it returns true and leaves its arguments as they were; the library's table lies as the program's text lays it. -/
import Derived.Test.YtohcoidbncbijaaDoorRows
import Derived.Test.YtohcoidbncbijaaDoorCards
import Derived.Test.YtohcoidbncbijaaDoorTie
import Derived.Test.YtohcoidbncbijaaDoorRowKit2
import Derived.Test.YtohcoidbncbijaaDoorDoorKit
import Derived.Test.YtohcoidbncbijaaDoorHead
import Derived.Test.YtohcoidbncbijaaDoorPfW
import Derived.Test.YtohcoidbncbijaaDoorRowKit3
import Derived.Test.YtohcoidbncbijaaDoorRowKit4
import Derived.JoinedOf
import Derived.SevenTiedAt
namespace Go.Proofs.YtohcoidbncbijaaDoor.planFirst
open Go.ChangeShapes Go.WideShapes Go.ChangeAt Go.RowKit
set_option linter.unusedVariables false
theorem own : ownKnob Tryd.prog.godebug = none := by kernel_rfl
theorem laidOut : laidOutB Tryd.prog = true := by kernel_rfl
set_option maxRecDepth 100000 in
theorem lifted (os : Os) (started : os.Started) (H : Type) (enc : TypeId × Value → H) :
    ReturnsInHanded {} Tryd.checked os 5 .any (fun w args => (Rows.planFirstSpec.pre enc Tryd.prog Tryd.f5 [] false w args ∧ laidMetH Tryd.prog P.laidL w) ∧ sizedMet enc Tryd.prog Tryd.f5 (OpenSpec.ofChange Rows.planFirstSpec) false w args) (Rows.planFirstSpec.post enc Tryd.prog Tryd.f5 false true false false) := by
  refine returnsInHanded_of_change_and (C := Tryd.checked) (X := fun w _ => laidMetH Tryd.prog P.laidL w) (fun _ _ _ hh h => h.of_heap hh) own started (by kernel_rfl) Tryd.func5
    (ChangeSpec.witness_shaped (enc := enc) (C := Tryd.checked) (os := os) (X := fun w _ => laidMetH Tryd.prog P.laidL w) false (World.doorLaid Tryd.prog 400 os) #[.agg #[.int .u64 0, .slice none 0 0, .bool false, .int .i64 0, .slice none 0 0, .slice none 0 0, .int .i64 0, .int .i64 0], .int .u8 0, .int .u8 0] 8 rfl (World.shaped_of_RefB (by kernel_rfl) (by kernel_rfl)) (by kernel_rfl) (by kernel_rfl) (by kernel_rfl) (P.door_met os _)) ?_
  intro W base args ds gs before hval0 hW hcnd hsz0 hL _
  have hT := P.tab_of hL
  have hsz : (DataW.weightsEach Tryd.prog (Tryd.f5.params.toList ++ Rows.planFirstSpec.plain.varTypes Tryd.prog) (ds ++ gs)).all (· ≤ reachBytes) = true := hsz0
  have hval : ∀ (j : Nat) t v, Tryd.f5.params[j]? = some t → args[j]? = some v → Value.okWide Tryd.prog W .any base t v := hval0
  have hW' := hW
  obtain ⟨p, q, hA0, hV, rfl, hfz, hnd⟩ := hW
  have hA : DataW.TrodAll enc Tryd.prog W 0 (fun _ => true) true Tryd.f5.params.toList args.toList ds p := hA0
  rw [Tryd.params5] at hA hval hsz
  obtain ⟨v0, vs0, d0, ds0, p0, q0, hargs, rfl, rfl, h0, r0⟩ := trodAll_cons hA
  obtain ⟨v1, vs1, d1, ds1, p1, q1, rfl, rfl, rfl, h1, r1⟩ := trodAll_cons r0
  obtain ⟨v2, vs2, d2, ds2, p2, q2, rfl, rfl, rfl, h2, r2⟩ := trodAll_cons r1
  obtain ⟨rfl, rfl, rfl⟩ := trodAll_nil r2
  obtain rfl : args = #[v0, v1, v2] := by cases args; simp_all
  obtain ⟨rfl, rfl⟩ := trodVars_none hV
  have k0 := h0
  have lt0 := P.block_lt_trod k0
  obtain ⟨p0_, A0, ca0, ax0, iv0, b0, X0, cx0, x0, S0, cs0, sd0, rt0, ag0, rfl, wp0, wb0, wr0, wa0, gA0, gX0, gS0⟩ := P.open_req (hval 0 43 v0 rfl rfl) hsz (j := 0) rfl rfl Tryd.underlying43 (by kernel_rfl) (by kernel_rfl) Tryd.underlying22 Tryd.underlying23 Tryd.underlying4 Tryd.underlying3 Tryd.underlying41 Tryd.underlying41 Tryd.underlying3 Tryd.underlying3 Tryd.underlying32 (by kernel_rfl) (by kernel_rfl) rfl rfl (by kernel_rfl) (by kernel_rfl) Tryd.underlying3 Tryd.underlying4 Tryd.underlying22 (by kernel_rfl) (by kernel_rfl) Tryd.underlying22 (by kernel_rfl) (by kernel_rfl) h0
  obtain ⟨a1, rfl, rfl, rfl, w1⟩ := open_int Tryd.underlying5 (hval 1 5 v1 rfl rfl) h1
  obtain ⟨a2, rfl, rfl, rfl, w2⟩ := open_int Tryd.underlying5 (hval 2 5 v2 rfl rfl) h2
  clear hA0 hval0 hsz0 hsz
  refine (P.planFirst_walk p0_ A0 ca0 ax0 iv0 b0 X0 cx0 x0 S0 cs0 sd0 rt0 ag0 a1 a2 W (P.u64_wf wp0) (P.i64_wf wb0) (P.i64_wf wr0) (P.i64_wf wa0) gA0 gX0 gS0 (P.u8_wf w1) (P.u8_wf w2) hT).mono fun e W' ⟨he, bel⟩ => ?_
  subst he
  exact ⟨_, rfl, _, _, _, [], _, [], hW', trodAll_mk1 (shut_bool Tryd.underlying4 _), (trodAll_cons_mk (Below.trod laidOut (by kernel_rfl) (of_decide_eq_true (by kernel_rfl)) k0 bel lt0) (trodAll_cons_mk (shut_int Tryd.underlying5 w1) (trodAll_cons_mk (shut_int Tryd.underlying5 w2) trodAll_mk0))), rfl, bel.frame _, fun h => by cases h⟩
set_option maxRecDepth 100000 in
theorem closed : joinedFacts Tryd.prog 5 Tryd.f5 Rows.planFirstSpec Rows.planFirstRow = true := by
  unfold joinedFacts
  rw [P.mayEnter, P.liftsFinal, P.make_is]
  kernel_rfl
theorem over : Rows.planFirstRow.holds Tryd.pinned (OpenSpec.ofChange Rows.planFirstSpec) :=
  OpenClaim.holds_of_wide 5 Tryd.f5 rfl rfl rfl rfl rfl rfl rfl ⟨rfl, rfl, rfl, rfl, rfl⟩ rfl rfl rfl rfl rfl (by kernel_rfl) Tryd.func5 closed
    (of_decide_eq_true (by kernel_rfl)) (by unfold Func.isWrapper; first | (rw [if_pos (by decide +kernel)]; kernel_rfl) | (rw [if_neg (by decide +kernel)]; exact ⟨rfl, rfl⟩))
    (fun os started H enc _ => lifted os started H enc)
theorem card : Rows.PlanFirstCardSaid :=
  Claim7.holds_tied_plain_at .later [] [.data, .data] true (true, "976dc4b70abbf39700760d04c04fbfd44f6f72749ef933f314761116cca54319") false
    over (fun _ h => by cases h) (by kernel_rfl) (fun _ h => by cases h) planFirst_row_tie rfl ⟨rfl, rfl⟩ (by kernel_rfl) rfl
    (fun f fn hf hfn => by
      obtain rfl : f = 5 := Option.some.inj ((show Tryd.prog.funcNamed "bracken/brackenlaw17.PlanFirst" = some 5 by kernel_rfl).symm.trans hf) |>.symm
      obtain rfl : fn = Tryd.f5 := (Option.some.inj (Tryd.func5.symm.trans hfn)).symm
      exact ⟨by kernel_rfl, fun j t ht => by
        rw [Tryd.params5] at ht
        have hm : t ∈ [43, 5, 5] := by simpa using Array.mem_of_getElem? ht
        have hall : ([43, 5, 5].all fun u => !Tryd.prog.wantsStandIn u) = true := by kernel_rfl
        exact (show Tryd.prog.wantsStandIn t = false by simpa using List.all_eq_true.1 hall t hm)⟩)
    (by kernel_rfl)
end Go.Proofs.YtohcoidbncbijaaDoor.planFirst
namespace Go.Proofs.YtohcoidbncbijaaDoor
/-- The card, under a short name, for the claim. -/
theorem planFirst_holds : Rows.PlanFirstCardSaid := planFirst.card
end Go.Proofs.YtohcoidbncbijaaDoor
