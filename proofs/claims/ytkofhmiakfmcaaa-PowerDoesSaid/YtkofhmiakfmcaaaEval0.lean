/- The contract of package geom's Eval. Conditions: words of their kinds; the slice reads as a list. -/
import Derived.Test.YtkofhmiakfmcaaaRound
import Derived.Test.YtkofhmiakfmcaaaGeom0
import Derived.Test.YtkofhmiakfmcaaaGeomP
namespace Go.Proofs.Ytkofhmiakfmcaaa.P
open Go.RowKit Go.Shelf
set_option linter.unusedVariables false
set_option linter.unusedSimpArgs false
attribute [local go_sem] Oper.semAt_some
def foldBack (p r : Int) (pre : List (Nat × Int)) : Int := pre.foldl (fun s x => addS p (mulS p s r) x.2) 0
theorem foldBack_snoc (p r : Int) (pre : List (Nat × Int)) (x : Nat × Int) : foldBack p r (pre ++ [x]) = addS p (mulS p (foldBack p r pre) r) x.2 := by simp [foldBack]
theorem foldBack_all (p r : Int) (l : List Int) : foldBack p r (upto (backAt l) l.length) = evalG p r l := by
  have h1 : (upto (backAt l) l.length).map Prod.snd = l.reverse := by
    apply List.ext_getElem
    · simp [upto]
    · intro i h1 h2
      simp only [upto, List.map_map, List.getElem_map, List.getElem_range, Function.comp, backAt, List.getElem_reverse]
      have hi : i < l.length := by simpa using h2
      rw [List.getD_eq_getElem?_getD, List.getElem?_eq_getElem (by omega)]; rfl
  have h2 : ∀ (pre : List (Nat × Int)) (s : Int), pre.foldl (fun s x => addS p (mulS p s r) x.2) s = (pre.map Prod.snd).foldl (fun s x => addS p (mulS p s r) x) s := by
    intro pre
    induction pre with
    | nil => intro s; rfl
    | cons x pre ih => intro s; simp only [List.foldl_cons, List.map_cons]; exact ih _
  unfold foldBack evalG
  rw [h2, h1, List.foldl_reverse]
theorem u64_foldBack (p r : Int) (pre : List (Nat × Int)) : U64 (foldBack p r pre) := by
  rcases List.eq_nil_or_concat pre with h | ⟨q, x, h⟩
  · subst h; exact (show U64 0 by decide)
  · rw [h, List.concat_eq_append, foldBack_snoc]; exact u64_addS _ _ _
set_option maxRecDepth 100000 in
set_option maxHeartbeats 2000000 in
theorem eval_calls (p r : Int) (A : Option Addr) (c : Nat) (l : List Int) (w : World) (hp : U64 p) (hr : U64 r) (hR : Row w A (nums .u64 l)) (hl : l.length ≤ 9223372036854775807) (hw : ∀ a ∈ l, U64 a) :
    Calls Try.prog 78 #[.int .u64 p, .slice A l.length c, .int .u64 r] w fun e w' => e = .returned (.tuple #[.int .u64 (evalS p r l).1, .int .i64 (evalS p r l).2]) ∧ Below w.heap.size w w' := by
  have HP := Lib.hid hp
  have HR := Lib.hid hr
  have HRW := Lib.hid hR
  have HW := Lib.hid hw
  clear hp hr hR hw
  by_cases hk : knownS p = true
  · by_cases hlen : l.length ≤ 65536
    · have HF : Hid (evalS p r l = (evalG p r l, 0)) := Lib.hid (by rw [evalS, if_pos hk, if_pos hlen])
      have f1 : decide (65536 < (l.length : Int)) = false := by simp; omega
      refine (callsIn_wide (n := 6)).1 ?_
      refine callsIn_of_wp_marks Try.func78 rfl trivial ?_ rfl
      simp only [Try.ntmps78, List.size_toArray, List.length_cons, List.length_nil, Nat.reduceAdd, Nat.reduceSub, Array.replicate_succ, Array.replicate_zero, List.push_toArray, List.append_toArray, List.nil_append, List.cons_append]
      gi_wp2_with (first
        | (refine ⟨trivial, ?_⟩; gi_at_call 43; refine (callsIn_wide.2 (known_calls _ _)).mono ?_; rintro e w' ⟨rfl, rfl⟩)
        | (refine ⟨trivial, ?_⟩; gi_at_call 99; refine (back_in _ _ trivial rfl _ _ _ _).mono ?_; rintro e w' ⟨rfl, rfl⟩))
      have hA : ∀ x, A = some x → l ≠ [] → x.block < w.heap.size := fun x hx hne => by
        subst hx
        have h0 : 0 < l.length := List.length_pos_iff.2 hne
        have := World.block_lt_of_cell? w _ (HRW.out.num h0)
        unfold Addr.add at this
        split at this <;> exact this
      have bP := Boxed.new w 37 (.int .u64 p)
      have bR := Boxed.new (w.alloc (.cells #[.int .u64 p] 37)) 37 (.int .u64 r)
      have bS := Boxed.new ((w.alloc (.cells #[.int .u64 p] 37)).alloc (.cells #[.int .u64 r] 37)) 37 (.int .u64 0)
      have bN := Boxed.new (((w.alloc (.cells #[.int .u64 p] 37)).alloc (.cells #[.int .u64 r] 37)).alloc (.cells #[.int .u64 0] 37)) 47 (.slice A l.length c)
      simp only [World.size_alloc] at bR bS bN
      have hB0 : Below w.heap.size w ((((w.alloc (.cells #[.int .u64 p] 37)).alloc (.cells #[.int .u64 r] 37)).alloc (.cells #[.int .u64 0] 37)).alloc (.cells #[.slice A l.length c] 47)) :=
        ((((Below.refl _ w).alloc (Nat.le_refl _) _).alloc (by simp) _).alloc (by simp; omega) _).alloc (by simp; omega) _
      have hRN := HRW.out.below hB0
      refine wpIn_rangeFunc_ownG rfl (by omega) (gf := 107) (lb := #[.pointer (some ⟨w.heap.size + 1 + 1 + 1, 0, none⟩)]) rfl trivial (enters_of Try.func107 (by kernel_rfl) rfl)
        (back_stops Fence.wide (6 - 1) trivial rfl (by omega) (w.heap.size + 1 + 1 + 1) w.heap.size c A l _ (by simp) (by simp; omega) hl bN.cell hA hRN HW.out) (fun h k => K2.trans h k) (k2_b (by simp; omega) (by simp)) (Below.refl _ _) (fun _ => rfl)
        (fun pre W => (W.cell? ⟨w.heap.size + 1 + 1, 0, none⟩ = some (.int .u64 (foldBack p r (pre.map BW.val))) ∧ W.frozen? ⟨w.heap.size + 1 + 1, 0, none⟩ = false ∧ W.cell? ⟨w.heap.size, 0, none⟩ = some (.int .u64 p) ∧ W.cell? ⟨w.heap.size + 1, 0, none⟩ = some (.int .u64 r)) ∧ Below w.heap.size w W)
        (fun _ _ _ => False)
        (OwnFrom.and (Own.from (fun s A B row hs hg hr => ⟨cell_kept hs.1 hg hr, (frozen_kept hs.1 hg hr).trans hs.2.1, cell_kept hs.2.2.1 hg hr, cell_kept hs.2.2.2 hg hr⟩) _) (ownFrom_below (Nat.le_refl _) (by simp; omega)))
        (fun _ _ _ _ _ hs _ _ => hs)
        ⟨⟨(bS.alloc _).cell, (bS.alloc _).frozen, (((bP.alloc _).alloc _).alloc _).cell, ((bR.alloc _).alloc _).cell⟩, hB0⟩
        (fun x => { tmps := #[.int .u64 p, .slice A l.length c, .int .u64 r, .pointer (some ⟨w.heap.size, 0, none⟩), undef, .pointer (some ⟨w.heap.size + 1, 0, none⟩), .int .u64 0, .int .i64 0, .pointer (some ⟨w.heap.size + 1 + 1, 0, none⟩), undef, .int .u64 x.u, .bool false, .int .u64 p, .bool true, .bool false, .bool false, .slice A l.length c, .int .i64 l.length, .bool false, .slice A l.length c, .func (.func 107) #[] #[.pointer (some ⟨w.heap.size + 1 + 1 + 1, 0, none⟩)], .int .i64 (x.i : Int), .int .u64 x.u, undef, undef, undef, undef, undef, undef, undef, undef], defers := [] }) ?assign ?body ?done ?stop
      case assign =>
        intro li x W K hK
        gi_wp2
        exact hK
      case body =>
        rintro li pre x W ⟨⟨hc, hf, hcp, hcr⟩, hB⟩ hpre
        have HXU := Lib.hid x.hu
        have HFU := Lib.hid (u64_foldBack p r (pre.map BW.val))
        have HE : Hid (foldBack p r ((pre ++ [x]).map BW.val) = addS p (mulS p (foldBack p r (pre.map BW.val)) r) x.u) := Lib.hid (by
          rw [List.map_append, List.map_singleton, foldBack_snoc]; rfl)
        generalize foldBack p r (pre.map BW.val) = sv at *
        have hmx : Try.prog.follows .mixedOrders = true := by kernel_rfl
        have HBH := Lib.hid hB
        clear hB hpre hA bP bR bS bN hB0 hRN HW HRW HF f1 hlen hk hl
        gi_wp2
        refine region_round (k := 8) (S := (fun w' => w'.cell? ⟨w.heap.size, 0, none⟩ = some (.int .u64 p) ∧ w'.cell? ⟨w.heap.size + 1, 0, none⟩ = some (.int .u64 r) ∧ w'.cell? ⟨w.heap.size + 1 + 1, 0, none⟩ = some (.int .u64 sv))) (T := fun i => i != 7) hmx (by kernel_rfl) rfl ⟨hcp, hcr, hc⟩ (fun hS => ?_)
        refine wpAnyT_take (i := 0) (v := ?v0) rfl (by kernel_rfl) (by kernel_rfl) (by kernel_rfl) (by kernel_rfl) (fun _ _ _ h => h) hS (Or.inl ⟨by rfl, ?hy0⟩) ?rest0
        case hy0 => (intro w' hSw; (try dsimp only at hSw); go_simp; (try with_reducible rfl))
        (try simp only [Act.put, List.setIfInBounds_toArray, List.set_cons_zero, List.set_cons_succ])
        refine wpAnyT_take (i := 1) (v := ?v1) rfl (by kernel_rfl) (by kernel_rfl) (by kernel_rfl) (by kernel_rfl) (fun _ _ _ h => h) hS (Or.inl ⟨by rfl, ?hy1⟩) ?rest1
        case hy1 => (intro w' hSw; (try dsimp only at hSw); go_simp; (try with_reducible rfl))
        (try simp only [Act.put, List.setIfInBounds_toArray, List.set_cons_zero, List.set_cons_succ])
        refine wpAnyT_take (i := 2) (v := ?v2) rfl (by kernel_rfl) (by kernel_rfl) (by kernel_rfl) (by kernel_rfl) (fun _ _ _ h => h) hS (Or.inl ⟨by rfl, ?hy2⟩) ?rest2
        case hy2 => (intro w' hSw; (try dsimp only at hSw); go_simp; (try with_reducible rfl))
        (try simp only [Act.put, List.setIfInBounds_toArray, List.set_cons_zero, List.set_cons_succ])
        refine wpAnyT_take (i := 3) (v := ?v3) rfl (by kernel_rfl) (by kernel_rfl) (by kernel_rfl) (by kernel_rfl) (fun _ _ _ h => h) hS (Or.inl ⟨by rfl, ?hy3⟩) ?rest3
        case hy3 => (intro w' hSw; (try dsimp only at hSw); go_simp; (try with_reducible rfl))
        (try simp only [Act.put, List.setIfInBounds_toArray, List.set_cons_zero, List.set_cons_succ])
        refine wpAnyT_take (i := 5) (v := ?v4) rfl (by kernel_rfl) (by kernel_rfl) (by kernel_rfl) (by kernel_rfl) (fun _ _ _ h => h) hS (Or.inl ⟨by rfl, ?hy4⟩) ?rest4
        case hy4 => (intro w' hSw; (try dsimp only at hSw); go_simp; (try with_reducible rfl))
        (try simp only [Act.put, List.setIfInBounds_toArray, List.set_cons_zero, List.set_cons_succ])
        refine wpAnyT_one (i := 4) (by kernel_rfl) rfl (fun K hK => ?_)
        go_simp
        refine (mul_calls _ _ _ _ HP.out HFU.out HR.out).mono ?_
        rintro e w' ⟨rfl, ⟨q, rfl⟩⟩
        refine hK _ _ (fun _ => hS) ?_
        clear hK K
        (try simp only [Act.put, List.setIfInBounds_toArray, List.set_cons_zero, List.set_cons_succ])
        refine wpAnyT_one (i := 6) (by kernel_rfl) rfl (fun K hK => ?_)
        go_simp
        refine (add_calls _ _ _ _ HP.out (u64_mulS _ _ _) HXU.out).mono ?_
        rintro e w' ⟨rfl, rfl⟩
        refine hK _ _ (fun _ => hS) ?_
        clear hK K
        (try simp only [Act.put, List.setIfInBounds_toArray, List.set_cons_zero, List.set_cons_succ])
        refine wpAnyT_one (i := 7) (by kernel_rfl) rfl (fun K hK => ?_)
        go_simp
        refine hK _ _ (fun h => by cases h) ?_
        clear hK K
        (try simp only [Act.put, List.setIfInBounds_toArray, List.set_cons_zero, List.set_cons_succ])
        refine wpAnyT_done (by kernel_rfl) ?_ _
        have HBX := HBH.out
        refine ⟨keeps_set (W := W) (X := W.drewN (1 + q)) rfl _ _, ⟨Below.setCell (below_drewN (Below.refl _ W) (1 + q)) (by show _ ≤ w.heap.size + 1 + 1; omega) _, World.cell?_setCell_far _ _ _ _ (by simp)⟩, ⟨?_, ?_, ?_, ?_⟩, Below.setCell (below_drewN HBX (1 + q)) (by show _ ≤ w.heap.size + 1 + 1; omega) _⟩
        · rw [HE.out]
          exact World.cell?_setCell_same' _ _ _ (by show (W.cell? ⟨w.heap.size + 1 + 1, 0, none⟩).isSome = true; rw [hc]; rfl)
        · rw [World.frozen?_setCell]; exact hf
        · rw [World.cell?_setCell_far _ _ _ _ (show w.heap.size + 1 + 1 ≠ w.heap.size by omega)]; exact hcp
        · rw [World.cell?_setCell_far _ _ _ _ (show w.heap.size + 1 + 1 ≠ w.heap.size + 1 by omega)]; exact hcr
      case done =>
        rintro D ys W hD hys ⟨⟨hc, hf, hcp, hcr⟩, hB⟩ hK
        rw [hys, foldBack_all] at hc
        gi_wp2
        refine ⟨by simp, .inl ⟨_, _, rfl, run_takeDeferred hK, ?_⟩⟩
        exact ⟨_, results_tmp2 rfl _ _ _, by rw [HF.out]; rfl, hB.trans (belowK_b (w := w) (Nat.le_refl _) W D _ _ (by simp at hD; omega) hK rfl rfl)⟩
      case stop =>
        rintro D c pre W _ _ h _
        exact h.elim
    · have HF : Hid (evalS p r l = (0, 1)) := Lib.hid (by rw [evalS, if_pos hk, if_neg hlen])
      have f1 : decide (65536 < (l.length : Int)) = true := by simp; omega
      have HB : Hid (Below w.heap.size w ((w.alloc (.cells #[.int .u64 p] 37)).alloc (.cells #[.int .u64 r] 37))) := Lib.hid (((Below.refl _ w).alloc (Nat.le_refl _) _).alloc (by simp) _)
      rw [HF.out]
      clear hlen HRW HW
      go_enter Try.func78, Try.ntmps78
      go_wp2_with (go_at_call 43; refine (known_calls _ _).mono ?_; rintro e w' ⟨rfl, h⟩)
      subst h
      go_ret2
      exact ⟨rfl, HB.out⟩
  · have HF : Hid (evalS p r l = (0, 2)) := Lib.hid (by rw [evalS, if_neg hk])
    have hk2 : knownS p = false := by simpa using hk
    have HB : Hid (Below w.heap.size w ((w.alloc (.cells #[.int .u64 p] 37)).alloc (.cells #[.int .u64 r] 37))) := Lib.hid (((Below.refl _ w).alloc (Nat.le_refl _) _).alloc (by simp) _)
    rw [HF.out]
    clear hk HRW HW
    go_enter Try.func78, Try.ntmps78
    go_wp2_with (go_at_call 43; refine (known_calls _ _).mono ?_; rintro e w' ⟨rfl, h⟩)
    subst h
    go_ret2
    exact ⟨rfl, HB.out⟩
end Go.Proofs.Ytkofhmiakfmcaaa.P
