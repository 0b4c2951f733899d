
/- The contracts of brackenref04's Stages and Check. Conditions: numbers of their kinds; slices read as lists. -/
import Derived.Test.YtohcoidbncbijaaDoorFac3
namespace Go.Proofs.YtohcoidbncbijaaDoor.P
open Go.RowKit
set_option linter.unusedVariables false
set_option linter.unusedSimpArgs false
theorem step_append_cells {P : Program} {ops : Array Oper} {o : Oper} {a : Act} {K : Act → World → Prop} {Q : Exit → Act → World → Prop} {E' : Prop} (w : World) {T E : TypeId} {z : Value} {size by' : Nat}
    (hT : P.underlying T = some (.slice E)) (hI : (P.info? E).map (fun i => (i.zero, i.size, i.bytes)) = some (some z, size, by')) (hzs : z.cells.size = size) (hsz : 0 < size) (hgd : o.guard = none) (s x : Operand)
    (ho : o.op = .call { callee := .builtin .append, args := #[s, x], argTypes := #[T, T] }) (B n c m c2 : Nat) (A : Option Addr) (y : Addr) (xs us : List Value)
    (hs : a.eval s = .slice A n c) (hx : a.eval x = .slice (some y) m c2) (hown : Own w B E size A n c xs) (hy : Row w (some y) us) (hus : us.length = m * size) (h1 : ∀ u ∈ us, u.oneCell' = true) (hm : 0 < m) (hB : B ≤ w.heap.size)
    (h63 : n + m ≤ 9223372036854775807) (hbytes : (n + m) * by' ≤ 140737488355328)
    (h : ∀ g cap w', Own w' B E size (some ⟨g, 0, none⟩) (n + m) cap (xs ++ us) → Below B w w' → w.grownBy w' (Value.slice A n c).ownBlock → g < w'.heap.size → K (a.put o.dst (.slice (some ⟨g, 0, none⟩) (n + m) cap)) w') :
    if Region.wanted o (yielded ops a.tmps) = true then Oper.wp P o a w K Q else E' := by
  obtain ⟨i0, hi, hz0, hz1, hz2⟩ := info_parts hI
  refine step_append_lies w hgd s x T ho B E i0 z size by' hT hi hz0 hz1 hz2 hzs hsz _ n _ hs hown y m c2 us hx hus ?_ h1 hm (by unfold maxLen; omega) hbytes hB _ rfl ?_
  · intro j u hj
    exact hy.cell hj
  · intro g cap w' h1 h2 h3 h4
    refine h g cap w' h1 ?_ h2 h4
    refine ⟨h2.os, h2.tape, h2.output, h2.size, fun b hb => h2.block b (Nat.lt_of_lt_of_le hb hB) ?_⟩
    intro e
    rcases hown.2 with ⟨hv, _⟩ | ⟨g2, cap2, cur, hv, hg, _⟩
    · rw [hv] at e; simp [Value.ownBlock] at e
    · rw [hv] at e
      simp [Value.ownBlock] at e
      omega
theorem product_drop2 {x : Addr} {cy j : Nat} {l : List Int} (w : World) (hr : Row w (some x) (nums .i64 l)) (hp : Pos l) (hb : prodL l ≤ 4096) (hl : l.length ≤ 100) (hc : l.length ≤ cy) :
    Calls Tryd.prog 110 #[.slice (if cy = j then some x else some (x.add j)) (l.length - j) (cy - j)] w fun e w' => e = .returned (.int .i64 (prodL (l.drop j))) ∧ w' = w := by
  split
  · rename_i h
    rw [List.drop_eq_nil_of_le (by omega)]
    exact product_calls (some x) _ _ [] w (by simp; omega) (Row.nil _ _) (by omega) (fun d hd => by cases hd) (by simp [prodL])
  · exact product_calls _ _ _ _ w (by simp) (hr.drop j) (by omega) (hp.drop _) (by have := hp.drop_le j; omega)
set_option maxRecDepth 100000 in
theorem r04_stages (n : Int) (w : World) (hn : i64 n) :
    Calls Tryd.prog 71 #[.int .i64 n] w fun e w' => ∃ B b,
      e = .returned (.tuple #[.slice B (stgS n).1.length b, .int .i64 (stgS n).2]) ∧ Own w' w.heap.size 37 3 B (stgS n).1.length b (stR3 (stgS n).1) ∧ Below w.heap.size w w' := by
  have HI := Lib.hid hn
  clear hn
  by_cases hf : (facS n).2 = 0
  case neg =>
    have HF := Lib.hid (stgS_no hf)
    have HE := Lib.hid (facS_err hf)
    rw [HF.out]
    clear hf
    go_enter Tryd.func71, Tryd.ntmps71
    go_wp2_with fail
    refine (r04_radices n _ HI.out).mono ?_
    rw [HE.out]
    rintro e w' ⟨B, b, rfl, ho, hb⟩
    have HB := Lib.hid hb
    clear ho hb
    go_wp2
    go_ret2
    exact ⟨none, 0, rfl, Own.nil _ _ _ _, HB.out⟩
  have HF := Lib.hid (stgS_ok hf)
  obtain ⟨hok, he⟩ := facS_ok hf
  have HE := Lib.hid he
  have HOK := Lib.hid hok
  have hl12 := hok.len
  have HPOS := Lib.hid hok.posL
  have HPB : Hid (prodL (facS n).1 ≤ 4096) := Lib.hid (by rw [hok.prod]; exact hok.n2)
  clear hf he hok
  rw [HF.out]
  generalize (facS n).1 = l at *
  have HSL : Hid ((stgL l).length = l.length) := Lib.hid (by simp [stgL])
  have HL100 : Hid (l.length ≤ 100) := Lib.hid (by omega)
  rw [show ((stgL l, (0 : Int)).1) = stgL l from rfl, show ((stgL l, (0 : Int)).2) = 0 from rfl, HSL.out]
  have hmx : Tryd.prog.follows .mixedOrders = true := by kernel_rfl
  have HMX := Lib.hid hmx
  clear hmx
  go_enter Tryd.func71, Tryd.ntmps71
  go_wp2_with fail
  refine (r04_radices n _ HI.out).mono ?_
  rw [HE.out]
  rintro e w' ⟨Y, cy, rfl, ho, hb⟩
  have HB := Lib.hid hb
  have HRY := Lib.hid ho.row
  have hcap : l.length ≤ cy := ho.cap.1
  have HLL : Hid ((l, (0 : Int)).1.length = l.length) := Lib.hid rfl
  rw [HLL.out] at *
  clear ho hb
  go_wp2
  go_loopw [6, 19] (fun o i wr => ∃ (k : Nat) (Z : Option Addr) (z : Nat), k ≤ l.length ∧ i = .int .i64 k ∧ o = .slice Z k z ∧ Hid (Own wr w'.heap.size 37 3 Z k z (stR3 ((List.range k).map (stgF l)))) ∧ Hid (Below w'.heap.size w' wr)) (fun _ i _ => l.length - (intOf i).toNat)
  case atStart => exact ⟨0, none, 0, Nat.zero_le _, rfl, rfl, Lib.hid (Own.nil _ _ _ _), Lib.hid (Below.refl _ _)⟩
  case round =>
    obtain ⟨k, Z, z, hk, rfl, rfl, HO2, HB2⟩ := hrel
    by_cases hlt : k < l.length
    · obtain ⟨x, rfl⟩ := HRY.out.some_of (by intro h0; have := nums_length .i64 l; rw [h0] at this; simp at this; omega)
      have hc : wr.cell? (x.add k) = some (.int .i64 l[k]) := (HRY.out.below HB2.out).num hlt
      have hs := HOK.out.stage hlt
      have HRD : Hid (Row wr.drew (some x) (nums .i64 l)) := Lib.hid (by have h1 := HRY.out.below HB2.out; exact h1)
      have HTR : Hid (Row wr.drew (some x) (nums .i64 (l.take k))) := Lib.hid (take_row4 HRD.out k)
      have HTL : Hid ((l.take k).length = k) := Lib.hid (by simp; omega)
      have HTN : Hid (k ≤ 9223372036854775807) := Lib.hid (by omega)
      have HTP := Lib.hid (HPOS.out.take k)
      have HTB : Hid (prodL (l.take k) ≤ 4096) := Lib.hid (Int.le_trans (HPOS.out.take_le k) HPB.out)
      have HSZ := Lib.hid HB2.out.size
      have HST := Lib.hid hs.stg
      have HPP : Hid (prodL (l.take k) = prodL (l.take k)) := Lib.hid rfl
      have HQQ : Hid (prodL (l.drop (k + 1)) = prodL (l.drop (k + 1))) := Lib.hid rfl
      clear hs
      have hk1 : IntKind.i64.wrap ((k : Int) + 1) = ((k + 1 : Nat) : Int) := by rw [wrapI (by omega) (by omega)]; push_cast; rfl
      have hk2 : wrap64 ((k : Int) + 1) = ((k + 1 : Nat) : Int) := by rw [wrap64_id ⟨by omega, by omega⟩]; push_cast; rfl
      have g1 : (k : Int) ≤ (cy : Int) := by omega
      have g2 : (0 : Int) ≤ (k : Int) := by omega
      generalize hj : k + 1 = j at *
      have g3 : (j : Int) ≤ (l.length : Int) := by omega
      have g4 : (0 : Int) ≤ (j : Int) := by omega
      have g5 : (l.length : Int) ≤ (cy : Int) := by omega
      have HJ := Lib.hid hj
      clear hj
      go_wp2
      refine region_marks2 (k := 15) (S := fun _ => True) (T := fun _ => true) HMX.out rfl trivial (fun hS => ?_)
      refine wpAnyT_take3 (i := 0) (v := ?v0) rfl (by kernel_rfl) (by kernel_rfl) (by kernel_rfl) (by kernel_rfl) (by kernel_rfl) (fun _ _ _ h => h) hS (Or.inl ⟨by rfl, ?hy0⟩) ?rest0
      case hy0 => (intro w' hSw; (try dsimp only at hSw); go_simp; (try with_reducible rfl))
      (try simp only [Act.put, List.setIfInBounds_toArray, List.set_cons_zero, List.set_cons_succ])
      refine wpAnyT_take3 (i := 1) (v := ?v1) rfl (by kernel_rfl) (by kernel_rfl) (by kernel_rfl) (by kernel_rfl) (by kernel_rfl) (fun _ _ _ h => h) hS (Or.inl ⟨by rfl, ?hy1⟩) ?rest1
      case hy1 => (intro w' hSw; (try dsimp only at hSw); go_simp; (try with_reducible rfl))
      (try simp only [Act.put, List.setIfInBounds_toArray, List.set_cons_zero, List.set_cons_succ])
      refine wpAnyT_take3 (i := 2) (v := ?v2) rfl (by kernel_rfl) (by kernel_rfl) (by kernel_rfl) (by kernel_rfl) (by kernel_rfl) (fun _ _ _ h => h) hS (Or.inl ⟨by rfl, ?hy2⟩) ?rest2
      case hy2 => (intro w' hSw; (try dsimp only at hSw); go_simp; (try with_reducible rfl))
      (try simp only [Act.put, List.setIfInBounds_toArray, List.set_cons_zero, List.set_cons_succ])
      refine wpAnyT_take3 (i := 3) (v := ?v3) rfl (by kernel_rfl) (by kernel_rfl) (by kernel_rfl) (by kernel_rfl) (by kernel_rfl) (fun _ _ _ h => h) hS (Or.inl ⟨by rfl, ?hy3⟩) ?rest3
      case hy3 => (intro w' hSw; (try dsimp only at hSw); go_simp; (try with_reducible rfl))
      (try simp only [Act.put, List.setIfInBounds_toArray, List.set_cons_zero, List.set_cons_succ])
      refine wpAnyT_take3 (i := 4) (v := ?v4) rfl (by kernel_rfl) (by kernel_rfl) (by kernel_rfl) (by kernel_rfl) (by kernel_rfl) (fun _ _ _ h => h) hS (Or.inl ⟨by rfl, ?hy4⟩) ?rest4
      case hy4 => (intro w' hSw; (try dsimp only at hSw); go_simp; (try with_reducible rfl))
      (try simp only [Act.put, List.setIfInBounds_toArray, List.set_cons_zero, List.set_cons_succ])
      refine wpAnyT_take3 (i := 6) (v := ?v5) rfl (by kernel_rfl) (by kernel_rfl) (by kernel_rfl) (by kernel_rfl) (by kernel_rfl) (fun _ _ _ h => h) hS (Or.inl ⟨by rfl, ?hy5⟩) ?rest5
      case hy5 => (intro w' hSw; (try dsimp only at hSw); go_simp; (try with_reducible rfl))
      (try simp only [Act.put, List.setIfInBounds_toArray, List.set_cons_zero, List.set_cons_succ])
      refine wpAnyT_take3 (i := 7) (v := ?v6) rfl (by kernel_rfl) (by kernel_rfl) (by kernel_rfl) (by kernel_rfl) (by kernel_rfl) (fun _ _ _ h => h) hS (Or.inl ⟨by rfl, ?hy6⟩) ?rest6
      case hy6 => (intro w' hSw; (try dsimp only at hSw); go_simp; (try with_reducible rfl))
      (try simp only [Act.put, List.setIfInBounds_toArray, List.set_cons_zero, List.set_cons_succ])
      refine wpAnyT_take3 (i := 8) (v := ?v7) rfl (by kernel_rfl) (by kernel_rfl) (by kernel_rfl) (by kernel_rfl) (by kernel_rfl) (fun _ _ _ h => h) hS (Or.inl ⟨by rfl, ?hy7⟩) ?rest7
      case hy7 => (intro w' hSw; (try dsimp only at hSw); go_simp; (try with_reducible rfl))
      (try simp only [Act.put, List.setIfInBounds_toArray, List.set_cons_zero, List.set_cons_succ])
      refine wpAnyT_take3 (i := 9) (v := ?v8) rfl (by kernel_rfl) (by kernel_rfl) (by kernel_rfl) (by kernel_rfl) (by kernel_rfl) (fun _ _ _ h => h) hS (Or.inl ⟨by rfl, ?hy8⟩) ?rest8
      case hy8 => (intro w' hSw; (try dsimp only at hSw); go_simp; (try with_reducible rfl))
      (try simp only [Act.put, List.setIfInBounds_toArray, List.set_cons_zero, List.set_cons_succ])
      refine wpAnyT_one (i := 5) (by kernel_rfl) rfl (fun K hK => ?_)
      go_simp
      refine (product_calls _ _ _ (l.take k) _ HTL.out HTR.out HTN.out HTP.out HTB.out).mono ?_
      rintro e w2 ⟨rfl, rfl⟩
      refine hK _ _ (fun _ => trivial) ?_
      clear hK K
      (try simp only [Act.put, List.setIfInBounds_toArray, List.set_cons_zero, List.set_cons_succ])
      refine wpAnyT_one (i := 10) (by kernel_rfl) rfl (fun K hK => ?_)
      go_simp
      refine (product_drop2 _ HRD.out HPOS.out HPB.out HL100.out hcap).mono ?_
      rintro e w2 ⟨rfl, rfl⟩
      refine hK _ _ (fun _ => trivial) ?_
      clear hK K
      (try simp only [Act.put, List.setIfInBounds_toArray, List.set_cons_zero, List.set_cons_succ])
      refine wpAnyT_take3 (i := 11) (v := ?vb2) rfl (by kernel_rfl) (by kernel_rfl) (by kernel_rfl) (by kernel_rfl) (by kernel_rfl) (fun _ _ _ h => h) hS (Or.inl ⟨by rfl, ?hyb2⟩) ?restb2
      case hyb2 => (intro w' hSw; (try dsimp only at hSw); go_simp; (try with_reducible rfl))
      (try simp only [Act.put, List.setIfInBounds_toArray, List.set_cons_zero, List.set_cons_succ])
      refine wpAnyT_one (i := 12) (by kernel_rfl) rfl (fun K hK => ?_)
      go_simp
      refine hK _ _ (fun _ => trivial) ?_
      clear hK K
      (try simp only [Act.put, List.setIfInBounds_toArray, List.set_cons_zero, List.set_cons_succ])
      have HO3 : Hid (Own (wr.drew.alloc (.cells #[.int .i64 l[k], .int .i64 (prodL (l.take k)), .int .i64 (prodL (l.drop j))] 37)) w'.heap.size 37 3 Z k z (stR3 ((List.range k).map (stgF l)))) := Lib.hid (Own.grown (w := wr.drew) HO2.out ((Below.refl _ _).alloc (Nat.le_refl _) _))
      have HSX : Hid (w'.heap.size ≤ (wr.drew.alloc (.cells #[.int .i64 l[k], .int .i64 (prodL (l.take k)), .int .i64 (prodL (l.drop j))] 37)).heap.size) := Lib.hid (by rw [World.size_alloc]; exact Nat.le_succ_of_le HSZ.out)
      have HBX : Hid (Below w'.heap.size w' (wr.drew.alloc (.cells #[.int .i64 l[k], .int .i64 (prodL (l.take k)), .int .i64 (prodL (l.drop j))] 37))) := Lib.hid ((below_drewN HB2.out 1).alloc HSZ.out _)
      refine wpAnyT_one (i := 13) (by kernel_rfl) rfl (fun K hK => ?_)
      refine step_append_cells _ Tryd.underlying33 info_stage rfl (by decide) rfl _ _ rfl w'.heap.size k z 1 1 Z ⟨wr.drew.heap.size, 0, none⟩ (stR3 ((List.range k).map (stgF l))) (stC3 (l[k], prodL (l.take k), prodL (l.drop j))) rfl rfl HO3.out (row_new wr.drew [.int .i64 l[k], .int .i64 (prodL (l.take k)), .int .i64 (prodL (l.drop j))] 37) rfl (stC3_one _) (by decide) HSX.out (by omega) (by omega) ?_
      intro g cap2 w5 hown hbel hgrow hlt5
      refine hK _ _ (fun _ => trivial) ?_
      clear hK K
      (try simp only [Act.put, List.setIfInBounds_toArray, List.set_cons_zero, List.set_cons_succ])
      have HO5 : Hid (Own w5 w'.heap.size 37 3 (some ⟨g, 0, none⟩) (k + 1) cap2 (stR3 ((List.range (k + 1)).map (stgF l)))) := Lib.hid (by
        rw [List.range_succ, List.map_append, List.map_singleton, stR3_append, stR3_one, HST.out]; exact hown)
      have HB5 : Hid (Below w'.heap.size w' w5) := Lib.hid (HBX.out.trans (hbel.mono (Nat.le_refl _)))
      clear hown hbel hgrow hlt5
      refine wpAnyT_one (i := 14) (by kernel_rfl) rfl (fun K hK => ?_)
      go_simp
      refine hK _ _ (fun _ => trivial) ?_
      clear hK K
      (try simp only [Act.put, List.setIfInBounds_toArray, List.set_cons_zero, List.set_cons_succ])
      refine wpAnyT_done (by kernel_rfl) ?_ _
      refine NoPanic.normal ?_
      go_wp2
      have hj2 : k + 1 = j := HJ.out
      go_roundw
      case rel => exact ⟨k + 1, some ⟨g, 0, none⟩, cap2, by omega, by go_num, rfl, HO5, HB5⟩
      case measure => simp [intOf]; omega
    · have hke : k = l.length := by omega
      subst hke
      have HOE : Hid (Own wr w.heap.size 37 3 Z l.length z (stR3 (stgL l))) := Lib.hid (HO2.out.mono HB.out.size)
      go_wp2
      go_ret2
      exact ⟨_, _, rfl, HOE.out, HB.out.trans (HB2.out.mono HB.out.size)⟩
end Go.Proofs.YtohcoidbncbijaaDoor.P
