
/- The contract of step.Table. Conditions: words of their kinds; slices read as lists; the library's table lies as it was laid. -/
import Derived.Test.YtohcoidbncbijaaDoorStT
import Derived.Test.YtohcoidbncbijaaDoorDftD
namespace Go.Proofs.YtohcoidbncbijaaDoor.P
open Go.RowKit
set_option linter.unusedVariables false
set_option linter.unusedSimpArgs false
def lenOf : Value → Nat
  | .slice _ n _ => n
  | _ => 0
theorem make_u64c (n : Nat) (hn : n ≤ 35184372088832) (w : World) : (Instr.makeSlice 41 (.int .i64 0) (.int .i64 (n : Int))).run Tryd.prog w =
    .ok (.slice (some ⟨w.heap.size, 0, none⟩) 0 n) (w.alloc (.cells (madeCells #[.int .u64 0] n) 22)) := by
  obtain ⟨i0, hi, hz⟩ := Option.map_eq_some_iff.1 info_u64
  simp only [Prod.mk.injEq] at hz
  obtain ⟨h0, h1, h2⟩ := hz
  have h3 := run_make w 41 22 i0 (.int .u64 0) Tryd.underlying41 hi h0 .i64 .i64 0 n (by omega) (by omega) (by rw [h2]; omega) (by omega)
  rw [h1] at h3
  simpa [Value.cells] using h3
theorem own_cap (w : World) (n : Nat) (hn : n ≤ 9223372036854775807) : Own (w.alloc (.cells (madeCells #[.int .u64 0] n) 22)) w.heap.size 22 1 (some ⟨w.heap.size, 0, none⟩) 0 n (nums .u64 []) :=
  World.ownsRow_made w (madeCells #[.int .u64 0] n) n (Nat.le_refl _) (by unfold maxLen; omega) (by simp [madeCells])
theorem powersS_ok {p : Int} (hk : knownS p = true) (a : Int) {n : Nat} (h : n ≤ 65536) : powersS p a (n : Int) = ((List.range n).map (powS p a), 0) := by
  rw [powersS, if_pos hk, if_pos ⟨by omega, by omega⟩, Int.toNat_natCast]
theorem u64_backS (p n : Int) : U64 (backS p n).1 := by
  unfold backS
  split
  · first | exact u64_powS _ _ _ | exact u64_rootS _ _ | (unfold invS; split <;> first | exact u64_powS _ _ _ | (split <;> first | exact u64_powS _ _ _ | exact (show U64 0 by decide)) | exact (show U64 0 by decide))
  · exact (show U64 0 by decide)
theorem tw_map (p : Int) (N : Nat) (neg : Bool) : (List.range N).map (twF p N neg false) = (List.range N).map (powS p (if neg then rtS p ((N : Int) * 2) false else 1)) := by
  apply List.map_congr_left
  intro j _
  unfold twF; simp
theorem tw_map_inv (p : Int) (N : Nat) (neg : Bool) : (List.range N).map (twF p N neg true) = ((List.range N).map (powS p (if neg then rtS p ((N : Int) * 2) true else 1))).map fun a => mulS p a (invS p (N : Int)).1 := by
  rw [List.map_map]
  apply List.map_congr_left
  intro j _
  unfold twF; simp
theorem table_num {N r l m : Nat} (hs : StageK N r l m) (h4 : N ≤ 4096) : 0 ≤ (r : Int) * (m : Int) ∧ (r : Int) * (m : Int) ≤ 4096 ∧ IntKind.i64.wrap ((m : Int) * (r : Int)) = ((m * r : Nat) : Int) ∧ m * r ≤ 4096 := by
  have h1 := hs.rm
  have h2 : ((r * m : Nat) : Int) = (r : Int) * (m : Int) := by push_cast; rfl
  have h3 : r * m = m * r := Nat.mul_comm r m
  have h5 : ((m * r : Nat) : Int) = (m : Int) * (r : Int) := by push_cast; rfl
  rw [← h2, ← h5]
  generalize r * m = x at *
  generalize m * r = y at *
  exact ⟨by omega, by omega, wrapI (by omega) (by omega), by omega⟩
set_option maxRecDepth 100000 in
set_option maxHeartbeats 4000000 in
theorem stab_calls (p : Int) (A : Option Addr) (c n : Nat) (ax : List (Int × Bool)) (inv : Bool) (s0 : Int) (s1 : Bool) (s2 s3 s4 : Int) (w : World) (hn : ax.length = n) (hp : U64 p) (hr : Row w A (axR ax)) (hl : n ≤ 8796093022208) (hw : ∀ a ∈ ax, i64 a.1) (hT : Tab w) :
    Calls Tryd.prog 37 #[.int .u64 p, .slice A n c, .bool inv, .agg #[.int .i64 s0, .bool s1, .int .i64 s2, .int .i64 s3, .int .i64 s4]] w fun e w' => ∃ B b,
      e = .returned (.tuple #[.slice B (tabS p ax inv (s0, s1, s2, s3, s4)).1.length b, .int .i64 (tabS p ax inv (s0, s1, s2, s3, s4)).2]) ∧ Own w' w.heap.size 22 1 B (tabS p ax inv (s0, s1, s2, s3, s4)).1.length b (nums .u64 (tabS p ax inv (s0, s1, s2, s3, s4)).1) ∧ Below w.heap.size w w' := by
  have HP := Lib.hid hp
  have HR := Lib.hid hr
  have HN := Lib.hid hn
  have HW := Lib.hid hw
  have HT := Lib.hid hT
  clear hp hr hn hw hT
  obtain ⟨KB, hKB⟩ : ∃ KB : World → Prop, KB = fun ws => Below w.heap.size w ws ∧ w.heap.size < ws.heap.size ∧ ws.cell? ⟨w.heap.size, 0, none⟩ = some (.int .i64 s0) ∧ ws.cell? ⟨w.heap.size, 1, none⟩ = some (.bool s1) ∧ ws.cell? ⟨w.heap.size, 2, none⟩ = some (.int .i64 s2) ∧ ws.cell? ⟨w.heap.size, 3, none⟩ = some (.int .i64 s3) ∧ ws.cell? ⟨w.heap.size, 4, none⟩ = some (.int .i64 s4) := ⟨_, rfl⟩
  have HK0 : Hid (KB (w.alloc (.cells #[.int .i64 s0, .bool s1, .int .i64 s2, .int .i64 s3, .int .i64 s4] 39))) := Lib.hid (by rw [hKB]; exact ⟨(Below.refl _ _).alloc (Nat.le_refl _) _, by simp, World.news_of_block (cs := #[.int .i64 s0, .bool s1, .int .i64 s2, .int .i64 s3, .int .i64 s4]) (t := 39) (fr := (0, 0)) (heap_alloc_new w _) 0 _ rfl, World.news_of_block (cs := #[.int .i64 s0, .bool s1, .int .i64 s2, .int .i64 s3, .int .i64 s4]) (t := 39) (fr := (0, 0)) (heap_alloc_new w _) 1 _ rfl, World.news_of_block (cs := #[.int .i64 s0, .bool s1, .int .i64 s2, .int .i64 s3, .int .i64 s4]) (t := 39) (fr := (0, 0)) (heap_alloc_new w _) 2 _ rfl, World.news_of_block (cs := #[.int .i64 s0, .bool s1, .int .i64 s2, .int .i64 s3, .int .i64 s4]) (t := 39) (fr := (0, 0)) (heap_alloc_new w _) 3 _ rfl, World.news_of_block (cs := #[.int .i64 s0, .bool s1, .int .i64 s2, .int .i64 s3, .int .i64 s4]) (t := 39) (fr := (0, 0)) (heap_alloc_new w _) 4 _ rfl⟩)
  have HKW : Hid (∀ ws, KB ws → Below w.heap.size w ws) := Lib.hid fun ws h => by rw [hKB] at h; exact h.1
  have HKN : Hid (∀ ws ws', KB ws → Below ws.heap.size ws ws' → KB ws') := Lib.hid fun ws ws' h hb => by
    rw [hKB] at h ⊢
    obtain ⟨h1, h4, c0, c1, c2, c3, c4⟩ := h
    exact ⟨h1.trans (hb.mono (Nat.le_of_lt h4)), Nat.lt_of_lt_of_le h4 hb.size, (hb.cell h4).trans c0, (hb.cell h4).trans c1, (hb.cell h4).trans c2, (hb.cell h4).trans c3, (hb.cell h4).trans c4⟩
  have HKC : Hid (∀ ws, KB ws → ws.cell? ⟨w.heap.size, 0, none⟩ = some (.int .i64 s0) ∧ ws.cell? ⟨w.heap.size, 1, none⟩ = some (.bool s1) ∧ ws.cell? ⟨w.heap.size, 2, none⟩ = some (.int .i64 s2) ∧ ws.cell? ⟨w.heap.size, 3, none⟩ = some (.int .i64 s3) ∧ ws.cell? ⟨w.heap.size, 4, none⟩ = some (.int .i64 s4)) := Lib.hid fun ws h => by rw [hKB] at h; exact h.2.2
  have HKM : Hid (∀ B ws ws', KB ws → Below B ws ws' → w.heap.size < B → KB ws') := Lib.hid fun B ws ws' h hb hB => by
    rw [hKB] at h ⊢
    obtain ⟨h1, h4, c0, c1, c2, c3, c4⟩ := h
    exact ⟨h1.trans (hb.mono (Nat.le_of_lt hB)), Nat.lt_of_lt_of_le h4 hb.size, (hb.cell hB).trans c0, (hb.cell hB).trans c1, (hb.cell hB).trans c2, (hb.cell hB).trans c3, (hb.cell hB).trans c4⟩
  have HKS : Hid (∀ ws, KB ws → w.heap.size < ws.heap.size) := Lib.hid fun ws h => by rw [hKB] at h; exact h.2.1
  clear hKB
  by_cases hc : chk16 p ax (s0, s1, s2, s3, s4) = 0
  case neg =>
    have HF : Hid (tabS p ax inv (s0, s1, s2, s3, s4) = ([], chk16 p ax (s0, s1, s2, s3, s4))) := Lib.hid (by rw [tabS, if_neg hc])
    have t0 : (chk16 p ax (s0, s1, s2, s3, s4) != 0) = true := by simpa using hc
    rw [HF.out]
    clear hc
    go_enter Tryd.func37, Tryd.ntmps37
    go_wp2_with fail
    generalize (w.alloc (.cells #[.int .i64 s0, .bool s1, .int .i64 s2, .int .i64 s3, .int .i64 s4] 39)) = V0 at *
    refine (schk_calls p _ _ _ ax s0 s1 s2 s3 s4 _ HN.out HP.out (HR.out.below (HKW.out _ HK0.out)) hl HW.out (HT.out.below (HKW.out _ HK0.out))).mono ?_
    rintro e w2 ⟨rfl, hb⟩
    have HK2 := Lib.hid (HKN.out _ _ HK0.out hb)
    clear hb
    obtain ⟨hk0, hk1, hk2, hk3, hk4⟩ := HKC.out _ HK2.out
    go_wp2
    go_ret2
    exact ⟨none, 0, rfl, Own.nil _ _ _ _, HKW.out _ HK2.out⟩
  have HC := Lib.hid hc
  obtain ⟨k, N, neg, hK⟩ := chk16_ok hc
  have hsk := hK.axis
  dsimp only at hsk
  subst hsk
  have hka := hK.lt
  have hkn : k < n := by have := HN.out; omega
  have hge : ax[k] = ((N : Int), neg) := by
    have h1 := hK.get
    rw [List.getD_eq_getElem?_getD, List.getElem?_eq_getElem hka] at h1
    exact h1
  have HF : Hid (tabS p ax inv ((k : Int), s1, s2, s3, s4) = (tabL p N neg inv ((k : Int), s1, s2, s3, s4), 0)) := Lib.hid (by
    rw [tabS, if_pos hc]
    dsimp only
    rw [Int.toNat_natCast, hK.get, hK.dim, Int.toNat_natCast])
  have h6 := hK.c6
  have hkn7 := hK.chk.known
  have hN1 := h6.n1
  have hN4 := h6.n2
  have HKN7 := Lib.hid hkn7
  obtain ⟨xa, rfl⟩ := HR.out.some_of (by intro h0; have h1 := axR_length ax; rw [h0] at h1; simp at h1; omega)
  have HAC : Hid (∀ ws, Row ws (some xa) (axR ax) → ws.cell? (xa.add (k * 2)) = some (.int .i64 (N : Int)) ∧ ws.cell? ⟨(xa.add (k * 2)).block, (xa.add (k * 2)).off + 1, none⟩ = some (.bool neg)) := Lib.hid fun ws h => by
    have h1 := ax_cells h hka
    rw [hge] at h1
    exact h1
  have f2 : decide (n ≤ k) = false := by simp; omega
  have hUR : ∀ q : Int, U64 (rtS p q inv) := fun q => by
    unfold rtS
    cases inv
    · exact u64_rootS p q
    · exact u64_backS p q
  rw [HF.out]
  rcases hK.kind with ⟨ht, hz⟩ | ⟨ht, hz⟩
  · dsimp only at ht hz
    subst ht
    simp only [Prod.mk.injEq] at hz
    obtain ⟨rfl, rfl, rfl⟩ := hz
    have HBS : Hid (baseS p (N : Int) neg inv true ((0 : Int) * (0 : Int)) = ((if neg then rtS p ((N : Int) * 2) inv else 1), 0)) := Lib.hid (base_twist h6 inv _)
    have HUW : Hid (U64 (if neg then rtS p ((N : Int) * 2) inv else 1)) := Lib.hid (by cases neg; exact (show U64 1 by decide); exact hUR _)
    have HTL : Hid (tabL p N neg inv ((k : Int), true, 0, 0, 0) = (List.range N).map (twF p N neg inv)) := Lib.hid (tabL_twist p N neg inv _ _ _ _)
    have HPW : Hid (∀ a : Int, powersS p a (N : Int) = ((List.range N).map (powS p a), 0)) := Lib.hid fun a => powersS_ok HKN7.out a (by omega)
    have HIV : Hid (invS p (N : Int) = ((invS p (N : Int)).1, 0)) := Lib.hid (by rw [invS_ok hkn7 hN1 (by omega)])
    have HN01 : Hid (0 ≤ (N : Int) ∧ (N : Int) ≤ 4096) := Lib.hid ⟨by omega, by omega⟩
    have HUN : Hid (U64 (N : Int)) := Lib.hid ⟨by omega, by omega⟩
    have HUL : Hid (U64 (invS p (N : Int)).1) := Lib.hid (by rw [invS_ok hkn7 hN1 (by omega)]; exact u64_powS _ _ _)
    have hcv : IntKind.u64.wrap (N : Int) = (N : Int) := by rw [IntKind.wrap_u64]; omega
    rw [HTL.out]
    clear hc hK hka hge h6 hkn7 hUR HF
    cases inv
    · skip
      have HTM := Lib.hid (tw_map p N neg)
      rw [HTM.out]
      generalize (if neg then rtS p ((N : Int) * 2) false else 1) = W at *
      have HLR : Hid (((List.range N).map (powS p W)).length = N) := Lib.hid (by simp)
      have HUR : Hid (∀ d ∈ (List.range N).map (powS p W), U64 d) := Lib.hid (by intro d hd; simp only [List.mem_map] at hd; obtain ⟨u, _, rfl⟩ := hd; exact u64_powS _ _ _)
      have HPP := Lib.hid (HPW.out W)
      generalize (List.range N).map (powS p W) = o at *
      rw [show ((o, (0 : Int)).1).length = N from HLR.out]
      go_enter Tryd.func37, Tryd.ntmps37
      go_wp2_with fail
      generalize (w.alloc (.cells #[.int .i64 (k : Int), .bool true, .int .i64 0, .int .i64 0, .int .i64 0] 39)) = V0 at *
      refine (schk_calls p _ _ _ ax (k : Int) true 0 0 0 _ HN.out HP.out (HR.out.below (HKW.out _ HK0.out)) hl HW.out (HT.out.below (HKW.out _ HK0.out))).mono ?_
      rw [HC.out]
      rintro e w2 ⟨rfl, hb⟩
      have HK2 := Lib.hid (HKN.out _ _ HK0.out hb)
      clear hb
      obtain ⟨hk0, hk1, hk2, hk3, hk4⟩ := HKC.out _ HK2.out
      obtain ⟨ha0, ha1⟩ := HAC.out _ (HR.out.below (HKW.out _ HK2.out))
      have HK3 := Lib.hid (HKN.out _ _ HK2.out ((Below.refl _ _).alloc (Nat.le_refl _) (.cells #[.int .i64 (N : Int), .bool neg] 32)))
      have HNC : Hid ((w2.alloc (.cells #[.int .i64 (N : Int), .bool neg] 32)).cell? ⟨w2.heap.size, 0, none⟩ = some (.int .i64 (N : Int))) := Lib.hid (World.news_of_block (cs := #[.int .i64 (N : Int), .bool neg]) (t := 32) (fr := (0, 0)) (heap_alloc_new w2 _) 0 _ rfl)
      obtain ⟨hj0, hj1, hj2, hj3, hj4⟩ := HKC.out _ HK3.out
      go_wp2_with fail
      refine (sbase_calls p (N : Int) neg false (k : Int) true 0 0 0 _ HP.out HN01.out.1 HN01.out.2 (by decide) (by decide)).mono ?_
      rw [HBS.out]
      dsimp only
      rintro e w4 ⟨rfl, hb⟩
      have HK4 := Lib.hid (HKN.out _ _ HK3.out hb)
      have hn4 := (hb.cell (p := ⟨w2.heap.size, 0, none⟩) (by simp)).trans HNC.out
      have HN4W := Lib.hid hn4
      have HS4 : Hid (w2.heap.size < w4.heap.size) := Lib.hid (by have h1 := hb.size; simp at h1; omega)
      clear hb hk0 hk1 hk2 hk3 hk4 ha0 ha1 hj0 hj1 hj2 hj3 hj4
      obtain ⟨hk0, hk1, hk2, hk3, hk4⟩ := HKC.out _ HK4.out
      go_wp2_with fail
      refine (powers_calls p W (N : Int) _ HP.out HUW.out ⟨by omega, by omega⟩).mono ?_
      rw [HPP.out]
      dsimp only
      rw [HLR.out]
      rintro e w7 ⟨Y, y, rfl, ho, hb⟩
      have HK7 := Lib.hid (HKN.out _ _ HK4.out hb)
      have HO7 := Lib.hid (ho.mono (Nat.le_of_lt (HKS.out _ HK4.out)))
      have hn7 := (hb.cell (p := ⟨w2.heap.size, 0, none⟩) HS4.out).trans HN4W.out
      clear ho hb hn4 hk0 hk1 hk2 hk3 hk4
      go_wp2
      go_ret2
      exact ⟨_, _, rfl, HO7.out, HKW.out _ HK7.out⟩
    · skip
      have HTM := Lib.hid (tw_map_inv p N neg)
      rw [HTM.out]
      generalize (if neg then rtS p ((N : Int) * 2) true else 1) = W at *
      have HLR : Hid (((List.range N).map (powS p W)).length = N) := Lib.hid (by simp)
      have HUR : Hid (∀ d ∈ (List.range N).map (powS p W), U64 d) := Lib.hid (by intro d hd; simp only [List.mem_map] at hd; obtain ⟨u, _, rfl⟩ := hd; exact u64_powS _ _ _)
      have HPP := Lib.hid (HPW.out W)
      generalize (List.range N).map (powS p W) = o at *
      have HLM : Hid ((o.map fun a => mulS p a (invS p (N : Int)).1).length = N) := Lib.hid (by rw [List.length_map]; exact HLR.out)
      rw [show ((o.map fun a => mulS p a (invS p (N : Int)).1, (0 : Int)).1).length = N from HLM.out]
      generalize (invS p (N : Int)).1 = lv at *
      go_enter Tryd.func37, Tryd.ntmps37
      go_wp2_with fail
      generalize (w.alloc (.cells #[.int .i64 (k : Int), .bool true, .int .i64 0, .int .i64 0, .int .i64 0] 39)) = V0 at *
      refine (schk_calls p _ _ _ ax (k : Int) true 0 0 0 _ HN.out HP.out (HR.out.below (HKW.out _ HK0.out)) hl HW.out (HT.out.below (HKW.out _ HK0.out))).mono ?_
      rw [HC.out]
      rintro e w2 ⟨rfl, hb⟩
      have HK2 := Lib.hid (HKN.out _ _ HK0.out hb)
      clear hb
      obtain ⟨hk0, hk1, hk2, hk3, hk4⟩ := HKC.out _ HK2.out
      obtain ⟨ha0, ha1⟩ := HAC.out _ (HR.out.below (HKW.out _ HK2.out))
      have HK3 := Lib.hid (HKN.out _ _ HK2.out ((Below.refl _ _).alloc (Nat.le_refl _) (.cells #[.int .i64 (N : Int), .bool neg] 32)))
      have HNC : Hid ((w2.alloc (.cells #[.int .i64 (N : Int), .bool neg] 32)).cell? ⟨w2.heap.size, 0, none⟩ = some (.int .i64 (N : Int))) := Lib.hid (World.news_of_block (cs := #[.int .i64 (N : Int), .bool neg]) (t := 32) (fr := (0, 0)) (heap_alloc_new w2 _) 0 _ rfl)
      obtain ⟨hj0, hj1, hj2, hj3, hj4⟩ := HKC.out _ HK3.out
      go_wp2_with fail
      refine (sbase_calls p (N : Int) neg true (k : Int) true 0 0 0 _ HP.out HN01.out.1 HN01.out.2 (by decide) (by decide)).mono ?_
      rw [HBS.out]
      dsimp only
      rintro e w4 ⟨rfl, hb⟩
      have HK4 := Lib.hid (HKN.out _ _ HK3.out hb)
      have hn4 := (hb.cell (p := ⟨w2.heap.size, 0, none⟩) (by simp)).trans HNC.out
      have HN4W := Lib.hid hn4
      have HS4 : Hid (w2.heap.size < w4.heap.size) := Lib.hid (by have h1 := hb.size; simp at h1; omega)
      clear hb hk0 hk1 hk2 hk3 hk4 ha0 ha1 hj0 hj1 hj2 hj3 hj4
      obtain ⟨hk0, hk1, hk2, hk3, hk4⟩ := HKC.out _ HK4.out
      go_wp2_with fail
      refine (powers_calls p W (N : Int) _ HP.out HUW.out ⟨by omega, by omega⟩).mono ?_
      rw [HPP.out]
      dsimp only
      rw [HLR.out]
      rintro e w7 ⟨Y, y, rfl, ho, hb⟩
      have HK7 := Lib.hid (HKN.out _ _ HK4.out hb)
      have HO7 := Lib.hid (ho.mono (Nat.le_of_lt (HKS.out _ HK4.out)))
      have hn7 := (hb.cell (p := ⟨w2.heap.size, 0, none⟩) HS4.out).trans HN4W.out
      clear ho hb hn4 hk0 hk1 hk2 hk3 hk4
      go_wp2_with fail
      refine (inv_calls p (N : Int) _ HP.out HUN.out).mono ?_
      rw [HIV.out]
      dsimp only
      rintro e w8 ⟨rfl, ⟨q8, rfl⟩⟩
      have HB8 := Lib.hid (below_drewN (HKW.out _ HK7.out) q8)
      have HO8 := Lib.hid (HO7.out.drewN q8)
      generalize w7.drewN q8 = w8 at *
      obtain ⟨g, cap, hzv, _, _⟩ := World.ownsRow.form HO8.out (show 0 < N by omega)
      cases hzv
      have HG := Lib.hid HO8.out.base
      have HO9 : Hid (Own w8 w.heap.size 22 1 (some ⟨g, 0, none⟩) N y (nums .u64 (mapL (fun a => mulS p a lv) o 0))) := Lib.hid (by rw [mapL_zero]; exact HO8.out)
      go_wp2
      go_loopw [115] (fun q wr => ∃ j : Nat, j ≤ N ∧ q = .int .i64 j ∧ Hid (Own wr w.heap.size 22 1 (some ⟨g, 0, none⟩) N y (nums .u64 (mapL (fun a => mulS p a lv) o j))) ∧ Hid (Below w.heap.size w wr)) (fun q _ => N - (intOf q).toNat)
      case atStart => exact ⟨0, Nat.zero_le _, rfl, HO9, HB8⟩
      case round =>
        obtain ⟨j, hjn, rfl, HO6, HB6⟩ := hrel
        by_cases hlt : j < N
        · have hko : j < o.length := by rw [HLR.out]; exact hlt
          have hcc : wr.cell? ⟨g, j, none⟩ = some (.int .u64 o[j]) := by
            rw [HO6.out.cellAt j hlt, nums_get .u64 _ j (by rw [mapL_length]; exact hko), mapL_at _ _ _ hko]
          have hff : wr.frozen? ⟨g, j, none⟩ = false := HO6.out.frozenAt j
          have HUO : Hid (U64 o[j]) := Lib.hid (HUR.out _ (List.getElem_mem hko))
          have HST : Hid (∀ m, Own ((wr.drewN m).setCell ⟨g, j, none⟩ (.int .u64 (mulS p o[j] lv))) w.heap.size 22 1 (some ⟨g, 0, none⟩) N y (nums .u64 (mapL (fun a => mulS p a lv) o (j + 1)))) := Lib.hid fun m => by
            have h1 := (HO6.out.drewN m).stored j (.int .u64 (mulS p o[j] lv))
            rw [nums_set, mapL_set (fun a => mulS p a lv) o j hko] at h1
            exact h1
          generalize o[j] = d at *
          go_wp2_with (go_at_call 41; refine (mul_calls _ _ _ _ HP.out HUO.out HUL.out).mono ?_; rintro e w7 ⟨rfl, ⟨n7, rfl⟩⟩)
          go_roundw
          case rel => exact ⟨j + 1, by omega, by go_num, HST.out _, Lib.hid ((below_drewN HB6.out _).setCell HG.out.1 _)⟩
          case measure => simp [intOf]; omega
        · have hke : j = N := by omega
          subst hke
          have HZ : Hid (mapL (fun a => mulS p a lv) o j = o.map fun a => mulS p a lv) := Lib.hid (by have h1 := mapL_all (fun a => mulS p a lv) o; rw [HLR.out] at h1; exact h1)
          go_wp2
          go_ret2
          exact ⟨_, _, rfl, by rw [← HZ.out]; exact HO6.out, HB6.out⟩
  · dsimp only at ht hz
    subst ht
    obtain ⟨r, l, m, hrlm, hS⟩ := stg_mem h6.smooth hz
    simp only [Prod.mk.injEq] at hrlm
    obtain ⟨rfl, rfl, rfl⟩ := hrlm
    have HBS : Hid (baseS p (N : Int) neg inv false ((r : Int) * (m : Int)) = (rtS p ((r : Int) * (m : Int)) inv, 0)) := Lib.hid (base_stage h6 hS inv)
    have HUW : Hid (U64 (rtS p ((r : Int) * (m : Int)) inv)) := Lib.hid (hUR _)
    have HTL : Hid (tabL p N neg inv ((k : Int), false, (r : Int), (l : Int), (m : Int)) = tabR p (rtS p ((r : Int) * (m : Int)) inv) r m) := Lib.hid (tabL_stage p N neg inv _ hS)
    obtain ⟨hb0, hb1, o1, hmr⟩ := table_num hS hN4
    have hr1 : 0 < r := by have := hS.r2; omega
    have hr5 := hS.r5
    have HB0 := Lib.hid hb0
    have HB1 := Lib.hid hb1
    have HTN : Hid (∀ a, tabR p (rtS p ((r : Int) * (m : Int)) inv) r (a + 1) = tabR p (rtS p ((r : Int) * (m : Int)) inv) r a ++ (List.range r).map (powS p (powS p (rtS p ((r : Int) * (m : Int)) inv) a))) := Lib.hid fun a => tabR_succ p _ hr1 a
    have HT0 : Hid (tabR p (rtS p ((r : Int) * (m : Int)) inv) r 0 = []) := Lib.hid (tabR_zero _ _ _)
    have HTE : Hid ((tabR p (rtS p ((r : Int) * (m : Int)) inv) r m).length = m * r) := Lib.hid (tabR_length _ _ _ _)
    have HPW : Hid (∀ a : Int, powersS p a (r : Int) = ((List.range r).map (powS p a), 0)) := Lib.hid fun a => powersS_ok HKN7.out a (by omega)
    have HP0 : Hid (powS p (rtS p ((r : Int) * (m : Int)) inv) 0 = 1) := Lib.hid (by rw [powS_zero]; exact one_red hkn7)
    have HPS : Hid (∀ a, mulS p (powS p (rtS p ((r : Int) * (m : Int)) inv) a) (rtS p ((r : Int) * (m : Int)) inv) = powS p (rtS p ((r : Int) * (m : Int)) inv) (a + 1)) := Lib.hid fun a => powS_succ p _ a
    have HN01 : Hid (0 ≤ (N : Int) ∧ (N : Int) ≤ 4096) := Lib.hid ⟨by omega, by omega⟩
    rw [HTL.out]
    clear hc hK hka hge h6 hkn7 hN1 hN4 hz hUR hb0 hb1 hS HF
    generalize rtS p ((r : Int) * (m : Int)) inv = W at *
    obtain ⟨mr, hmre⟩ : ∃ mr, m * r = mr := ⟨_, rfl⟩
    rw [hmre] at o1 hmr HTE
    have HMR := Lib.hid hmre
    have HLE : Hid (((tabR p W r m, (0 : Int)).1).length = mr) := HTE
    rw [show ((tabR p W r m, (0 : Int)).1).length = mr from HTE.out]
    have hmk := make_u64c mr (by omega)
    clear hmre
    go_enter Tryd.func37, Tryd.ntmps37
    go_wp2_with fail
    generalize (w.alloc (.cells #[.int .i64 (k : Int), .bool false, .int .i64 (r : Int), .int .i64 (l : Int), .int .i64 (m : Int)] 39)) = V0 at *
    refine (schk_calls p _ _ _ ax (k : Int) false (r : Int) (l : Int) (m : Int) _ HN.out HP.out (HR.out.below (HKW.out _ HK0.out)) hl HW.out (HT.out.below (HKW.out _ HK0.out))).mono ?_
    rw [HC.out]
    rintro e w2 ⟨rfl, hb⟩
    have HK2 := Lib.hid (HKN.out _ _ HK0.out hb)
    clear hb
    obtain ⟨hk0, hk1, hk2, hk3, hk4⟩ := HKC.out _ HK2.out
    obtain ⟨ha0, ha1⟩ := HAC.out _ (HR.out.below (HKW.out _ HK2.out))
    have HK3 := Lib.hid (HKN.out _ _ HK2.out ((Below.refl _ _).alloc (Nat.le_refl _) (.cells #[.int .i64 (N : Int), .bool neg] 32)))
    obtain ⟨hj0, hj1, hj2, hj3, hj4⟩ := HKC.out _ HK3.out
    go_wp2_with fail
    refine (sbase_calls p (N : Int) neg inv (k : Int) false (r : Int) (l : Int) (m : Int) _ HP.out HN01.out.1 HN01.out.2 HB0.out HB1.out).mono ?_
    rw [HBS.out]
    dsimp only
    rintro e w4 ⟨rfl, hb⟩
    have HK4 := Lib.hid (HKN.out _ _ HK3.out hb)
    clear hb hk0 hk1 hk2 hk3 hk4 ha0 ha1 hj0 hj1 hj2 hj3 hj4
    have HK5 := Lib.hid (HKN.out _ _ HK4.out ((Below.refl _ _).alloc (Nat.le_refl _) (.cells (madeCells #[.int .u64 0] mr) 22)))
    have HSW : Hid (w.heap.size < w4.heap.size) := Lib.hid (HKS.out _ HK4.out)
    have HOX : Hid (Own (w4.alloc (.cells (madeCells #[.int .u64 0] mr) 22)) w4.heap.size 22 1 (some ⟨w4.heap.size, 0, none⟩) 0 mr (nums .u64 [])) := Lib.hid (own_cap w4 mr (by omega))
    have HSX : Hid (w4.heap.size ≤ (w4.alloc (.cells (madeCells #[.int .u64 0] mr) 22)).heap.size) := Lib.hid (by simp)
    obtain ⟨hk0, hk1, hk2, hk3, hk4⟩ := HKC.out _ HK4.out
    go_wp2
    clear hk0 hk1 hk2 hk3 hk4 hmk
    generalize (w4.alloc (.cells (madeCells #[.int .u64 0] mr) 22)) = W5 at *
    generalize w4.heap.size = B4 at *
    go_loopw [14, 15] (fun o v wr => ∃ (a : Nat) (Z : Option Addr) (z : Nat), a ≤ m ∧ o = .slice Z (a * r) z ∧ v = .int .u64 (powS p W a) ∧ Hid (Own wr B4 22 1 Z (a * r) z (nums .u64 (tabR p W r a))) ∧ Hid (B4 ≤ wr.heap.size) ∧ Hid (KB wr)) (fun o _ _ => mr - lenOf o)
    case atStart => exact ⟨0, some ⟨B4, 0, none⟩, mr, Nat.zero_le _, by rw [Nat.zero_mul], by rw [HP0.out], Lib.hid (by rw [Nat.zero_mul, HT0.out]; exact HOX.out), HSX, HK5⟩
    case round =>
      obtain ⟨a, Z, z, ham, rfl, rfl, HO6, HS6, HK6⟩ := hrel
      obtain ⟨hk0, hk1, hk2, hk3, hk4⟩ := HKC.out _ HK6.out
      by_cases hlt : a < m
      · have hlt2 : a * r < mr := by rw [← HMR.out]; exact Nat.mul_lt_mul_of_pos_right hlt hr1
        have hsm : (a + 1) * r = a * r + r := Nat.succ_mul a r
        have hle2 : (a + 1) * r ≤ mr := by rw [← HMR.out]; exact Nat.mul_le_mul hlt (Nat.le_refl _)
        have HSM := Lib.hid hsm
        have HTA := Lib.hid (HTN.out a)
        have HPA := Lib.hid (HPS.out a)
        have HUS : Hid (U64 (powS p W a)) := Lib.hid (u64_powS _ _ _)
        have HLR : Hid (((List.range r).map (powS p (powS p W a))).length = r) := Lib.hid (by simp)
        have HPP := Lib.hid (HPW.out (powS p W a))
        rw [hsm] at hle2
        clear hsm
        generalize powS p W a = st at *
        obtain ⟨ar, har⟩ : ∃ ar, a * r = ar := ⟨_, rfl⟩
        rw [har] at hlt2 hle2 HSM HO6
        rw [har]
        have f1 : decide ((ar : Int) < (mr : Int)) = true := by simp; omega
        have f3 : decide (ar < mr) = true := by simp; omega
        go_wp2_with fail
        refine (powers_calls p st (r : Int) _ HP.out HUS.out ⟨by omega, by omega⟩).mono ?_
        rw [HPP.out]
        dsimp only
        rw [HLR.out]
        rintro e w7 ⟨Y, y, rfl, ho, hb⟩
        have HK7 := Lib.hid (HKN.out _ _ HK6.out hb)
        have HO7 := Lib.hid (HO6.out.grown hb)
        have HRY := Lib.hid ho.row
        have HS7 : Hid (B4 ≤ w7.heap.size) := Lib.hid (Nat.le_trans HS6.out hb.size)
        clear ho hb hk0 hk1 hk2 hk3 hk4
        obtain ⟨hk0, hk1, hk2, hk3, hk4⟩ := HKC.out _ HK7.out
        go_wp2_with (at_builtin; go_loud (refine append_any _ Tryd.underlying41 info_u64 rfl _ _ rfl B4 ar z r y Z Y (tabR p W r a) ((List.range r).map (powS p st)) rfl rfl HO7.out HRY.out HLR.out HS7.out (by omega) (by omega) ?_); intro U cu w8 hown hbel hgrow)
        have HO8 : Hid (Own w8 B4 22 1 U ((a + 1) * r) cu (nums .u64 (tabR p W r (a + 1)))) := Lib.hid (by rw [HTA.out, HSM.out]; exact hown)
        have HK8 := Lib.hid (HKM.out _ _ _ HK7.out hbel HSW.out)
        have HS8 : Hid (B4 ≤ w8.heap.size) := Lib.hid (Nat.le_trans HS7.out hbel.size)
        clear hown hbel hgrow hk0 hk1 hk2 hk3 hk4
        refine (mul_calls p st W _ HP.out HUS.out HUW.out).mono ?_
        rw [HPA.out]
        rintro e w9 ⟨rfl, ⟨q9, rfl⟩⟩
        have HK9 := Lib.hid (HKN.out _ _ HK8.out (below_drewN (Below.refl _ _) q9))
        have HO9 := Lib.hid (HO8.out.drewN q9)
        go_wp2
        go_roundw
        case rel => exact ⟨a + 1, U, cu, by omega, by rw [HSM.out], rfl, HO9, HS8, HK9⟩
        case measure => simp [lenOf]; omega
      · have hae : a = m := by omega
        subst hae
        rw [HMR.out]
        have f1 : decide ((mr : Int) < (mr : Int)) = false := by simp
        have f3 : decide (mr < mr) = false := by simp
        have HOE : Hid (Own wr w.heap.size 22 1 Z mr z (nums .u64 (tabR p W r a))) := Lib.hid (by
          have h1 := HO6.out.mono (Nat.le_of_lt HSW.out)
          rw [HMR.out] at h1
          exact h1)
        clear hlt
        go_wp2
        go_ret2
        exact ⟨_, _, rfl, HOE.out, HKW.out _ HK6.out⟩
end Go.Proofs.YtohcoidbncbijaaDoor.P
