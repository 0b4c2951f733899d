/- The contract of slices.Backward over words: for every loop body that keeps what lay below n₀. Turned from the kit's worked text on slices.All (GgSlicesIterAtTheDump). Conditions: the slice reads as a list. -/
import Derived.RangeFuncBox
import Derived.RangeFuncLeaves
import Derived.RangeFuncNested
import Derived.RangeFuncBound
import Derived.RangeFuncCalls
import Derived.Shelf.Abstract
import Derived.Shelf.RegionOpen
import Derived.WalkKit
import Derived.OwnWalkIn
import Derived.TacticsInMore
import Derived.LoopNIn
import Derived.LoopIn
import Derived.Test.YtkofhmiakfmcaaaPow2
namespace Go.Proofs.Ytkofhmiakfmcaaa.P
open Go.RowKit Go.Shelf
set_option linter.unusedVariables false
set_option linter.unusedSimpArgs false
attribute [local go_sem] Oper.semAt_some
/-- What a round keeps: what lay below n₀, and the box of the slice. -/
def K2 (n₀ Bs : Nat) (W W' : World) : Prop := Below n₀ W W' ∧ W'.cell? ⟨Bs, 0, none⟩ = W.cell? ⟨Bs, 0, none⟩
theorem K2.refl (n₀ Bs : Nat) (W : World) : K2 n₀ Bs W W := ⟨Below.refl _ _, rfl⟩
theorem K2.trans {n₀ Bs : Nat} {A B C : World} (h : K2 n₀ Bs A B) (k : K2 n₀ Bs B C) : K2 n₀ Bs A C := ⟨h.1.trans k.1, k.2.trans h.2⟩
theorem k2_b {n₀ Bs : Nat} {w : World} (h : n₀ ≤ w.heap.size) (hb : Bs < w.heap.size) (W : World) (l : Nat) (o o' : Obj) (hl : w.heap.size ≤ l) (ho : W.heap[l]? = some o) (hc : o.isCells = false) (hw : o.isWalk = false) : K2 n₀ Bs W (W.putObj l o') :=
  ⟨belowK_b (w := w) h W l o o' hl ho hc hw, (belowK_b (w := w) (n₀ := Bs + 1) hb W l o o' hl ho hc hw).cell (p := ⟨Bs, 0, none⟩) (Nat.lt_succ_self _)⟩
/-- What has come when k rounds are over. -/
def upto {α : Type} (f : Nat → α) (k : Nat) : List α := (List.range k).map f
theorem upto_succ {α : Type} (f : Nat → α) (k : Nat) : upto f (k + 1) = upto f k ++ [f k] := by simp [upto, List.range_succ]
theorem upto_length {α : Type} (f : Nat → α) (k : Nat) : (upto f k).length = k := by simp [upto]
/-- The t-th that Backward tells. -/
def backAt (l : List Int) (t : Nat) : Nat × Int := (l.length - 1 - t, l.getD (l.length - 1 - t) 0)
/-- What comes: an index that is in the slice, and a word. -/
structure BW (n : Nat) where
  i : Nat
  u : Int
  hi : i < n
  hu : U64 u
def BW.val {n : Nat} (x : BW n) : Nat × Int := (x.i, x.u)
set_option maxRecDepth 100000 in
set_option maxHeartbeats 2000000 in
theorem back1_in (F : Fence) (n : Nat) (h8 : F.fn 107) (hro : F.round = none) (hn : 1 ≤ n) (li Bs n₀ cap : Nat) (x : Addr) (l : List Int) (hb : x.block < n₀) (hlen : l.length ≤ 9223372036854775807) (hwu : ∀ a ∈ l, U64 a) (J Jx : List (BW l.length) → World → Prop)
    (hY : ∀ pre v W, J pre W → pre.length < l.length → YieldAt F (n - 1) Try.prog li #[.int .i64 (v.i : Int), .int .u64 v.u] W fun e W' =>
      (e = .returned (.bool true) ∧ J (pre ++ [v]) W' ∧ K2 n₀ Bs W W') ∨ (e = .returned (.bool false) ∧ Jx (pre ++ [v]) W'))
    (W : World) (hBs : W.cell? ⟨Bs, 0, none⟩ = some (.slice (some x) l.length cap)) (hc : Row W (some x) (nums .u64 l)) (h0 : J [] W) :
    CallsIn F n Try.prog 107 #[.func (.yield li) #[] #[], .pointer (some ⟨Bs, 0, none⟩)] W fun e W' => (∃ v, e = .returned v) ∧
      ((∃ ys, ys.map BW.val = upto (backAt l) l.length ∧ J ys W') ∨ (∃ pre, (∃ k, k ≤ l.length ∧ pre.map BW.val = upto (backAt l) k) ∧ Jx pre W')) := by
  refine callsIn_of_wp Try.func107 rfl h8 ?_ hro
  simp only [Try.ntmps107, List.size_toArray, List.length_cons, List.length_nil, Nat.reduceAdd, Nat.reduceSub, Array.replicate_succ, Array.replicate_zero, List.push_toArray, List.append_toArray, List.nil_append, List.cons_append]
  gi_wp2
  gi_loopw [3] (fun i wr => ∃ k : Nat, k ≤ l.length ∧ i = .int .i64 ((l.length : Int) - 1 - k) ∧ (∃ pre, pre.map BW.val = upto (backAt l) k ∧ J pre wr) ∧ K2 n₀ Bs W wr)
    (fun i _ => (intOf i + 1).toNat)
  case atStart => exact ⟨0, Nat.zero_le _, by simp, ⟨[], rfl, h0⟩, K2.refl _ _ _⟩
  case round =>
    obtain ⟨k, hk, rfl, ⟨pre, hpre, hJs⟩, hnx⟩ := hrel
    have hBs' : wr.cell? ⟨Bs, 0, none⟩ = some (.slice (some x) l.length cap) := hnx.2.trans hBs
    by_cases hlt : k < l.length
    · obtain ⟨j, hj⟩ : ∃ j, l.length = k + 1 + j := ⟨l.length - (k + 1), by omega⟩
      have hjl : j < l.length := by omega
      have hji : (l.length : Int) - 1 - k = (j : Int) := by omega
      have hcx : wr.cell? (x.add j) = some (.int .u64 l[j]) := by
        rw [hnx.1.cell (p := x.add j) (by unfold Addr.add; split <;> exact hb)]
        exact hc.num hjl
      have hbk : backAt l k = (j, l[j]) := by
        unfold backAt
        rw [show l.length - 1 - k = j from by omega, List.getD_eq_getElem?_getD, List.getElem?_eq_getElem hjl]; rfl
      have HJ := Lib.hid hj
      have HUU : Hid (U64 l[j]) := Lib.hid (hwu _ (List.getElem_mem hjl))
      have HPL : Hid (pre.length < l.length) := Lib.hid (by
        have h1 := congrArg List.length hpre
        rw [upto_length, List.length_map] at h1
        omega)
      rw [hji]
      generalize l[j] = u at *
      have HBK := Lib.hid hbk
      have HJI := Lib.hid hji
      clear hj hbk hji
      obtain ⟨fn, tmps, assign, body, hy, hR⟩ := hY _ ⟨j, u, hjl, HUU.out⟩ wr hJs HPL.out
      dsimp only at hy
      gi_wp2
      refine hR.mono ?_
      rintro e W3 (⟨rfl, hJ3, hk3⟩ | ⟨rfl, hJx3⟩)
      · gi_wp2
        go_roundw
        case rel => exact ⟨k + 1, by omega, by have := HJI.out; have := HJ.out; go_num, ⟨_, by rw [upto_succ, HBK.out, List.map_append, hpre]; rfl, hJ3⟩, hnx.trans hk3⟩
        case measure => have := HJ.out; simp [intOf]
      · gi_wp2
        refine bodyPost_ret (results_none rfl _ _ _) rfl ?_
        exact ⟨⟨_, rfl⟩, .inr ⟨_, ⟨k + 1, by omega, by rw [upto_succ, HBK.out, List.map_append, hpre]; rfl⟩, hJx3⟩⟩
    · obtain rfl : k = l.length := by omega
      gi_wp2
      go_end0
      exact ⟨⟨_, rfl⟩, .inl ⟨_, hpre, hJs⟩⟩
set_option maxRecDepth 100000 in
set_option maxHeartbeats 1000000 in
/-- .. at a slice without elements: no round. -/
theorem back1_nil_in (F : Fence) (n : Nat) (h8 : F.fn 107) (hro : F.round = none) (li Bs cap : Nat) (A : Option Addr) {α : Type} (J : List α → World → Prop) (W : World) (hBs : W.cell? ⟨Bs, 0, none⟩ = some (.slice A 0 cap)) (h0 : J [] W) :
    CallsIn F n Try.prog 107 #[.func (.yield li) #[] #[], .pointer (some ⟨Bs, 0, none⟩)] W fun e W' => (∃ v, e = .returned v) ∧ J [] W' := by
  refine callsIn_of_wp Try.func107 rfl h8 ?_ hro
  simp only [Try.ntmps107, List.size_toArray, List.length_cons, List.length_nil, Nat.reduceAdd, Nat.reduceSub, Array.replicate_succ, Array.replicate_zero, List.push_toArray, List.append_toArray, List.nil_append, List.cons_append]
  gi_wp2
  gi_loopw [3] (fun i wr => i = .int .i64 (-1) ∧ J [] wr) (fun _ _ => 0)
  case atStart => exact ⟨rfl, h0⟩
  case round =>
    obtain ⟨rfl, hJs⟩ := hrel
    gi_wp2
    go_end0
    exact ⟨⟨_, rfl⟩, hJs⟩
set_option maxHeartbeats 1000000 in
/-- slices.Backward: the slice is boxed, the function value captures the box. -/
theorem back_in (F : Fence) (n : Nat) (h5 : F.fn 99) (hro : F.round = none) (a : Option Addr) (len cap : Nat) (w : World) :
    CallsIn F n Try.prog 99 #[.slice a len cap] w fun e w' => e = .returned (.func (.func 107) #[] #[.pointer (some ⟨w.heap.size, 0, none⟩)]) ∧ w' = w.alloc (.cells #[.slice a len cap] 47) := by
  refine callsIn_of_wp Try.func99 rfl h5 ?_ hro
  simp only [Try.ntmps99, List.size_toArray, List.length_cons, List.length_nil, Nat.reduceAdd, Nat.reduceSub, Array.replicate_succ, Array.replicate_zero, List.push_toArray, List.append_toArray, List.nil_append, List.cons_append]
  gi_wp2
  go_ret
  exact ⟨rfl, rfl⟩
theorem back_stops (F : Fence) (n : Nat) (h8 : F.fn 107) (hro : F.round = none) (hn : 1 ≤ n) (Bs n₀ cap : Nat) (A : Option Addr) (l : List Int) (w : World) (hBs : Bs < w.heap.size) (hn₀ : n₀ ≤ w.heap.size) (hlen : l.length ≤ 9223372036854775807)
    (hc : w.cell? ⟨Bs, 0, none⟩ = some (.slice A l.length cap)) (hb : ∀ x, A = some x → l ≠ [] → x.block < n₀) (hr : Row w A (nums .u64 l)) (hwu : ∀ a ∈ l, U64 a) :
    SeqStopsK F n Try.prog 107 #[.pointer (some ⟨Bs, 0, none⟩)] (fun x : BW l.length => #[Value.int .i64 (x.i : Int), Value.int .u64 x.u]) (K2 n₀ Bs) (fun ys => ys.map BW.val = upto (backAt l) l.length)
      (fun pre => ∃ k, k ≤ l.length ∧ pre.map BW.val = upto (backAt l) k) l.length w := fun li J Jx W hW _ _ hY h0 => by
  have hc' : W.cell? ⟨Bs, 0, none⟩ = some (.slice A l.length cap) := (hW.cell (p := ⟨Bs, 0, none⟩) hBs).trans hc
  cases l with
  | nil => exact (back1_nil_in F n h8 hro li Bs cap A J W hc' h0).mono fun e W' ⟨he, hj⟩ => ⟨he, .inl ⟨_, rfl, hj⟩⟩
  | cons d l =>
    obtain ⟨x, rfl⟩ := hr.some_of (by simp [nums])
    exact back1_in F n h8 hro hn li Bs n₀ cap x (d :: l) (hb x rfl (by simp)) hlen hwu J Jx hY W hc' (hr.below hW) h0
end Go.Proofs.Ytkofhmiakfmcaaa.P
