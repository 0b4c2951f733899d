
/- The contracts of package factor's Smooth, Stages and Check. Conditions: a number of 64 bits; the slice reads as a list; the library's table lies as it was laid. -/
import Derived.Test.YtohcoidbncbijaaDoorRadB
import Derived.Test.YtohcoidbncbijaaDoorShapeB
import Derived.Test.YtohcoidbncbijaaDoorRefB
import Derived.Deep.QuietTactic
namespace Go.Proofs.YtohcoidbncbijaaDoor.P
open Go.RowKit
set_option linter.unusedVariables false
set_option linter.unusedSimpArgs false
theorem blT {w W W' : World} (h : Below w.heap.size w W) (hb : Below W.heap.size W W') : Below w.heap.size w W' := h.trans (hb.mono h.size)
theorem smooth_calls (n : Int) (w : World) (hn : i64 n) (hT : Tab w) :
    Calls Tryd.prog 61 #[.int .i64 n] w fun e w' => e = .returned (.bool (smoothS n)) ∧ Below w.heap.size w w' := by
  have HT := Lib.hid hT
  have HI := Lib.hid hn
  clear hT hn
  go_enter Tryd.func61, Tryd.ntmps61
  go_wp2_with fail
  refine (radices_calls n _ HI.out HT.out).mono ?_
  rintro e w' ⟨B, b, rfl, ho, hb⟩
  have HB := Lib.hid hb
  clear ho hb
  go_wp2
  go_ret
  exact ⟨rfl, HB.out⟩
theorem info_stage : (Tryd.prog.info? 37).map (fun i => (i.zero, i.size, i.bytes)) = some (some (.agg #[.int .i64 0, .int .i64 0, .int .i64 0]), 3, 24) := by kernel_rfl
/-- append of rows of cells onto a slice that the call owns. -/
theorem append_cells {P : Program} {ops : Array Oper} {rest : List Oper} {o : Oper} {a : Act} {Q : Exit → Act → World → Prop} (w : World) {T E : TypeId} {z : Value} {size by' : Nat}
    (hT : P.underlying T = some (.slice E)) (hI : (P.info? E).map (fun i => (i.zero, i.size, i.bytes)) = some (some z, size, by')) (hzs : z.cells.size = size) (hsz : 0 < size) (hgd : o.guard = none) (s x : Operand)
    (ho : o.op = .call { callee := .builtin .append, args := #[s, x], argTypes := #[T, T] }) (B n c m c2 : Nat) (A : Option Addr) (y : Addr) (xs us : List Value)
    (hs : a.eval s = .slice A n c) (hx : a.eval x = .slice (some y) m c2) (hown : Own w B E size A n c xs) (hy : Row w (some y) us) (hus : us.length = m * size) (h1 : ∀ u ∈ us, u.oneCell' = true) (hm : 0 < m) (hB : B ≤ w.heap.size)
    (h63 : n + m ≤ 9223372036854775807) (hbytes : (n + m) * by' ≤ 140737488355328)
    (h : ∀ g cap w', Own w' B E size (some ⟨g, 0, none⟩) (n + m) cap (xs ++ us) → Below B w w' → w.grownBy w' (Value.slice A n c).ownBlock → g < w'.heap.size → wpList P ops Q rest (a.put o.dst (.slice (some ⟨g, 0, none⟩) (n + m) cap)) w') :
    wpList P ops Q (o :: rest) a w := by
  obtain ⟨i0, hi, hz0, hz1, hz2⟩ := info_parts hI
  refine wpList_append_lies w hgd s x T ho B E i0 z size by' hT hi hz0 hz1 hz2 hzs hsz _ n _ hs hown y m c2 us hx hus ?_ h1 hm (by unfold maxLen; omega) hbytes hB _ rfl ?_
  · intro j u hj
    exact hy.cell hj
  · intro g cap w' h1 h2 h3 h4
    refine h g cap w' h1 ?_ h2 h4
    refine ⟨h2.os, h2.tape, h2.output, h2.size, fun b hb => h2.block b (Nat.lt_of_lt_of_le hb hB) ?_⟩
    intro e
    rcases hown.2 with ⟨hv, _⟩ | ⟨g2, cap2, cur, hv, hg, _⟩
    · rw [hv] at e; simp [Value.ownBlock] at e
    · rw [hv] at e
      simp [Value.ownBlock] at e
      omega
theorem stR3_one (s : Int × Int × Int) : stR3 [s] = stC3 s := by simp [stR3]
theorem stR3_append (l m : List (Int × Int × Int)) : stR3 (l ++ m) = stR3 l ++ stR3 m := by simp [stR3]
theorem stR3_length (l : List (Int × Int × Int)) : (stR3 l).length = l.length * 3 := flat_len stC3 3 (fun _ => rfl) l
theorem stC3_one (s : Int × Int × Int) : ∀ u ∈ stC3 s, u.oneCell' = true := by
  intro u hu
  simp only [stC3, List.mem_cons, List.not_mem_nil, or_false] at hu
  rcases hu with rfl | rfl | rfl <;> rfl
theorem stages_calls (n : Int) (w : World) (hn : i64 n) (hT : Tab w) :
    Calls Tryd.prog 24 #[.int .i64 n] w fun e w' => ∃ B b,
      e = .returned (.tuple #[.slice B (stgS n).1.length b, .int .i64 (stgS n).2]) ∧ Own w' w.heap.size 37 3 B (stgS n).1.length b (stR3 (stgS n).1) ∧ Below w.heap.size w w' := by
  have HT := Lib.hid hT
  have HI := Lib.hid hn
  clear hT hn
  by_cases hf : (facS n).2 = 0
  case neg =>
    have HF := Lib.hid (stgS_no hf)
    have HE := Lib.hid (facS_err hf)
    rw [HF.out]
    clear hf
    go_enter Tryd.func24, Tryd.ntmps24
    go_wp2_with fail
    refine (radices_calls n _ HI.out HT.out).mono ?_
    rw [HE.out]
    rintro e w' ⟨B, b, rfl, ho, hb⟩
    have HB := Lib.hid hb
    clear ho hb
    go_wp2
    go_ret2
    exact ⟨none, 0, rfl, Own.nil _ _ _ _, HB.out⟩
  have HF := Lib.hid (stgS_ok hf)
  obtain ⟨hok, he⟩ := facS_ok hf
  have HE := Lib.hid he
  have HOK := Lib.hid hok
  have hl12 := hok.len
  have hn1 := hok.n1
  have hn2 := hok.n2
  clear hf he hok
  rw [HF.out]
  generalize (facS n).1 = l at *
  have HSL : Hid ((stgL l).length = l.length) := Lib.hid (by simp [stgL])
  rw [show ((stgL l, (0 : Int)).1) = stgL l from rfl, show ((stgL l, (0 : Int)).2) = 0 from rfl, HSL.out]
  go_enter Tryd.func24, Tryd.ntmps24
  go_wp2_with fail
  refine (radices_calls n _ HI.out HT.out).mono ?_
  rw [HE.out]
  rintro e w' ⟨Y, cy, rfl, ho, hb⟩
  have HB := Lib.hid hb
  have HRY := Lib.hid ho.row
  have HLL : Hid ((l, (0 : Int)).1.length = l.length) := Lib.hid rfl
  rw [HLL.out] at *
  clear ho hb
  go_wp2
  go_loopw [2, 6, 19] (fun o q i wr => ∃ (k : Nat) (Z : Option Addr) (z : Nat), k ≤ l.length ∧ i = .int .i64 k ∧ q = .int .i64 (prodL (l.take k)) ∧ o = .slice Z k z ∧ Hid (Own wr w'.heap.size 37 3 Z k z (stR3 ((List.range k).map (stgF l)))) ∧ Hid (Below w'.heap.size w' wr)) (fun _ _ i _ => l.length - (intOf i).toNat)
  case atStart => exact ⟨0, none, 0, Nat.zero_le _, rfl, rfl, rfl, Lib.hid (Own.nil _ _ _ _), Lib.hid (Below.refl _ _)⟩
  case round =>
    obtain ⟨k, Z, z, hk, rfl, rfl, rfl, HO2, HB2⟩ := hrel
    by_cases hlt : k < l.length
    · obtain ⟨x, rfl⟩ := HRY.out.some_of (by intro h0; have := nums_length .i64 l; rw [h0] at this; simp at this; omega)
      have hc : wr.cell? (x.add k) = some (.int .i64 l[k]) := (HRY.out.below HB2.out).num hlt
      have hs := HOK.out.stage hlt
      have HSZ := Lib.hid HB2.out.size
      have HNX := Lib.hid hs.next
      have HST := Lib.hid hs.stg
      generalize l[k] = r at *
      generalize prodL (l.take k) = P at *
      generalize prodL (l.drop (k + 1)) = Q at *
      have h1 := hs.divP
      have h2 := hs.divR
      have hr2 := hs.r2
      have hP1 := hs.P1
      have hQ1 := hs.Q1
      have hrQ := hs.rQ
      have hPr := hs.PrN
      have hPN := hs.PN
      have hr5 := hs.r5
      have hQQ : Q ≤ r * Q := by rw [Int.mul_comm]; exact mul_mono (by omega) (by omega)
      have hPP : P ≤ P * r := mul_mono (by omega) (by omega)
      clear hs
      generalize hm : r * Q = m at *
      generalize hv : P * r = v at *
      have ht1 : n.tdiv P = n / P := Int.tdiv_eq_ediv_of_nonneg (by omega)
      have ht2 : m.tdiv r = m / r := Int.tdiv_eq_ediv_of_nonneg (by omega)
      have hw1 : IntKind.i64.wrap m = m := wrapI (by omega) (by omega)
      have hw2 : IntKind.i64.wrap Q = Q := wrapI (by omega) (by omega)
      have hw3 : IntKind.i64.wrap v = v := wrapI (by omega) (by omega)
      have hw4 : wrap64 m = m := wrap64_id ⟨by omega, by omega⟩
      have hw5 : wrap64 Q = Q := wrap64_id ⟨by omega, by omega⟩
      have hw6 : wrap64 v = v := wrap64_id ⟨by omega, by omega⟩
      have hP0 : ¬ P = 0 := by omega
      have hr0 : ¬ r = 0 := by omega
      have HM := Lib.hid hm
      clear hm
      go_wp2_with (at_builtin; refine append_cells _ Tryd.underlying33 info_stage rfl (by decide) rfl _ _ rfl w'.heap.size k z 1 1 Z ⟨wr.heap.size, 0, none⟩ (stR3 ((List.range k).map (stgF l))) (stC3 (r, P, Q)) rfl rfl (HO2.out.grown ((Below.refl _ _).alloc (Nat.le_refl _) _)) (row_new wr [.int .i64 r, .int .i64 P, .int .i64 Q] 37) rfl (stC3_one _) (by decide) (Nat.le_trans HSZ.out (by simp)) (by omega) (by omega) ?_; intro g cap2 w5 hown hbel hgrow hlt5)
      have HO5 : Hid (Own w5 w'.heap.size 37 3 (some ⟨g, 0, none⟩) (k + 1) cap2 (stR3 ((List.range (k + 1)).map (stgF l)))) := Lib.hid (by
        rw [List.range_succ, List.map_append, List.map_singleton, stR3_append, stR3_one, HST.out]; exact hown)
      have HB5 : Hid (Below w'.heap.size w' w5) := Lib.hid ((HB2.out.alloc HSZ.out _).trans (hbel.mono (Nat.le_refl _)))
      clear hown hbel hgrow hlt5
      go_wp2
      go_roundw
      case rel => exact ⟨k + 1, some ⟨g, 0, none⟩, cap2, by omega, by go_num, by rw [HNX.out], rfl, HO5, HB5⟩
      case measure => simp [intOf]; omega
    · have hke : k = l.length := by omega
      subst hke
      have HOE : Hid (Own wr w.heap.size 37 3 Z l.length z (stR3 (stgL l))) := Lib.hid (HO2.out.mono HB.out.size)
      go_wp2
      go_ret2
      exact ⟨_, _, rfl, HOE.out, HB.out.trans (HB2.out.mono HB.out.size)⟩
end Go.Proofs.YtohcoidbncbijaaDoor.P
