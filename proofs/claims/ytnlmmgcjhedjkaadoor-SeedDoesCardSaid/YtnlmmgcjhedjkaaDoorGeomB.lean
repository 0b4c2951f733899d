/- Several texts as one: Step2, Back0, Geom0, GeomP, Eval0, EvalN, Roots0, Ref08. Conditions: those of each lemma. -/
import Derived.Test.YtnlmmgcjhedjkaaDoorRadB
import Derived.Test.YtnlmmgcjhedjkaaDoorRefB
import Derived.Maps.OwnSet
import Derived.WalkMore
/- Appends at a step of a region that draws its order, the source maybe empty; two operations that may both come up. Under no condition beside those of each lemma. -/
namespace Go.Proofs.YtnlmmgcjhedjkaaDoor.P
open Go.RowKit
set_option linter.unusedVariables false
theorem step_append_any {P : Program} {ops : Array Oper} {o : Oper} {a : Act} {K : Act → World → Prop} {Q : Exit → Act → World → Prop} {E' : Prop} (w : World) {T E : TypeId} {k : IntKind} {by' : Nat}
    (hT : P.underlying T = some (.slice E)) (hI : (P.info? E).map (fun i => (i.zero, i.size, i.bytes)) = some (some (.int k 0), 1, by')) (hwant : Region.wanted o (yielded ops a.tmps) = true) (s x : Operand)
    (ho : o.op = .call { callee := .builtin .append, args := #[s, x], argTypes := #[T, T] }) (B n c m c2 : Nat) (A Y : Option Addr) (xs us : List Int)
    (hs : a.eval s = .slice A n c) (hx : a.eval x = .slice Y m c2) (hown : Own w B E 1 A n c (nums k xs)) (hy : Row w Y (nums k us)) (hus : us.length = m) (hB : B ≤ w.heap.size)
    (h63 : n + m ≤ 9223372036854775807) (hbytes : (n + m) * by' ≤ 140737488355328)
    (h : ∀ A' cap w', Own w' B E 1 A' (n + m) cap (nums k (xs ++ us)) → Below B w w' → K (a.put o.dst (.slice A' (n + m) cap)) w') :
    if Region.wanted o (yielded ops a.tmps) = true then Oper.wp P o a w K Q else E' := by
  rw [if_pos hwant]
  have hwg : Region.wanted { o with guard := none } (yielded #[] a.tmps) = true := rfl
  have hop : Oper.wp P { o with guard := none } a w K Q := by
    rcases Nat.eq_zero_or_pos m with h0 | h0
    · subst h0
      have hu : us = [] := List.length_eq_zero_iff.1 hus
      subst hu
      obtain ⟨i0, hi, hz0, hz1, hz2⟩ := info_parts hI
      have hnc := hown.cap.1
      have hrun : (Builtin.append_ #[T, T] o.type #[.slice A n c, .slice Y 0 c2]).run P w = .ok (.slice A n c) w := by
        cases Y <;> cases A <;> simp [Builtin.append_, run_underlying hT, sizeOf, typeInfo, hi, Builtin.lenOf, Builtin.firstCells, loadCells, loadCellsFrom, hnc, storeCells]
      unfold Oper.wp
      simp [execOp, ho, resolve, invoke, builtin, hs, hx, hrun, Result.andThen]
      exact h A c w (by simpa using hown) (Below.refl _ _)
    · obtain ⟨y, rfl⟩ := hy.some_of (by intro h1; have := nums_length k us; rw [h1] at this; simp at this; omega)
      have := step_append_row (P := P) (ops := #[]) (o := { o with guard := none }) (a := a) (K := K) (Q := Q) (E' := False) w hT hI rfl s x ho B n c m c2 A y xs us hs hx hown hy hus h0 hB h63 hbytes fun g cap w' h1 h2 _ _ => h _ cap w' h1 h2
      rw [if_pos hwg] at this
      exact this
  exact hop
section
variable {P : Program} {ops : Array Oper} {Q : Exit → Act → World → Prop} {md : Region.Mode} {S : World → Prop} {T : Nat → Bool}
/-- The two that may come up. -/
theorem wpAnyT_two {i j : Nat} {o o2 : Oper} {l l2 : List Oper} {fuel : Nat} {listed : Array Bool} {a : Act} {w : World} (hr : Region.ready md ops listed = [i, j]) (ho' : ops.toList.drop i = o :: l) (ho2' : ops.toList.drop j = o2 :: l2)
    (h : ∀ K : Act → World → Prop, (∀ a w, (T i = true → S w) → wpAnyT P md ops Q S T fuel (listed.setIfInBounds i true) a w → K a w) → if Region.wanted o (yielded ops a.tmps) = true then o.wp P a w K Q else K (a.put o.dst undef) w)
    (h2 : ∀ K : Act → World → Prop, (∀ a w, (T j = true → S w) → wpAnyT P md ops Q S T fuel (listed.setIfInBounds j true) a w → K a w) → if Region.wanted o2 (yielded ops a.tmps) = true then o2.wp P a w K Q else K (a.put o2.dst undef) w) :
    wpAnyT P md ops Q S T (fuel + 1) listed a w := by
  refine ⟨fun h0 => (by rw [hr] at h0; cases h0), fun t ht => ?_⟩
  rw [hr] at ht
  simp only [List.mem_cons, List.not_mem_nil, or_false] at ht
  have aux : ∀ {t : Nat} {o : Oper} {l : List Oper}, ops.toList.drop t = o :: l →
      (∀ K : Act → World → Prop, (∀ a w, (T t = true → S w) → wpAnyT P md ops Q S T fuel (listed.setIfInBounds t true) a w → K a w) → if Region.wanted o (yielded ops a.tmps) = true then o.wp P a w K Q else K (a.put o.dst undef) w) →
      wpOp P ops Q t (fun a' w' => (T t = true → S w') ∧ wpAnyT P md ops Q S T fuel (listed.setIfInBounds t true) a' w') a w := by
    intro t o l ho' h
    have ho := drop_at ho'
    unfold wpOp
    simp only [ho]
    have h1 := h (fun a' w' => (T t = true → S w') ∧ wpAnyT P md ops Q S T fuel (listed.setIfInBounds t true) a' w') (fun _ _ hS hK => ⟨hS, hK⟩)
    split
    · rename_i hw
      rw [if_pos hw] at h1
      exact .inl h1
    · rename_i hw
      rw [if_neg hw] at h1
      exact h1
  rcases ht with rfl | rfl
  · exact aux ho' h
  · exact aux ho2' h2
end
end Go.Proofs.YtnlmmgcjhedjkaaDoor.P
/- The contract of slices.Backward over words: for every loop body that keeps what lay below n₀. Turned from the kit's worked text on slices.All (GgSlicesIterAtTheDump). Conditions: the slice reads as a list. -/
namespace Go.Proofs.YtnlmmgcjhedjkaaDoor.P
open Go.RowKit Go.Shelf
set_option linter.unusedVariables false
set_option linter.unusedSimpArgs false
attribute [local go_sem] Oper.semAt_some
/-- The t-th that Backward tells. -/
def backAt (l : List Int) (t : Nat) : Nat × Int := (l.length - 1 - t, l.getD (l.length - 1 - t) 0)
/-- What comes: an index that is in the slice, and a word. -/
structure BW (n : Nat) where
  i : Nat
  u : Int
  hi : i < n
  hu : U64 u
def BW.val {n : Nat} (x : BW n) : Nat × Int := (x.i, x.u)
set_option maxRecDepth 100000 in
set_option maxHeartbeats 2000000 in
theorem back1_in (F : Fence) (n : Nat) (h8 : F.fn 133) (hro : F.round = none) (hn : 1 ≤ n) (li Bs n₀ cap : Nat) (x : Addr) (l : List Int) (hb : x.block < n₀) (hlen : l.length ≤ 9223372036854775807) (hwu : ∀ a ∈ l, U64 a) (J Jx : List (BW l.length) → World → Prop)
    (hY : ∀ pre v W, J pre W → pre.length < l.length → YieldAt F (n - 1) Tryd.prog li #[.int .i64 (v.i : Int), .int .u64 v.u] W fun e W' =>
      (e = .returned (.bool true) ∧ J (pre ++ [v]) W' ∧ K2 n₀ Bs W W') ∨ (e = .returned (.bool false) ∧ Jx (pre ++ [v]) W'))
    (W : World) (hBs : W.cell? ⟨Bs, 0, none⟩ = some (.slice (some x) l.length cap)) (hc : Row W (some x) (nums .u64 l)) (h0 : J [] W) :
    CallsIn F n Tryd.prog 133 #[.func (.yield li) #[] #[], .pointer (some ⟨Bs, 0, none⟩)] W fun e W' => (∃ v, e = .returned v) ∧
      ((∃ ys, ys.map BW.val = upto (backAt l) l.length ∧ J ys W') ∨ (∃ pre, (∃ k, k ≤ l.length ∧ pre.map BW.val = upto (backAt l) k) ∧ Jx pre W')) := by
  refine callsIn_of_wp Tryd.func133 rfl h8 ?_ hro
  simp only [Tryd.ntmps133, List.size_toArray, List.length_cons, List.length_nil, Nat.reduceAdd, Nat.reduceSub, Array.replicate_succ, Array.replicate_zero, List.push_toArray, List.append_toArray, List.nil_append, List.cons_append]
  gi_wp2
  gi_loopw [3] (fun i wr => ∃ k : Nat, k ≤ l.length ∧ i = .int .i64 ((l.length : Int) - 1 - k) ∧ (∃ pre, pre.map BW.val = upto (backAt l) k ∧ J pre wr) ∧ K2 n₀ Bs W wr)
    (fun i _ => (intOf i + 1).toNat)
  case atStart => exact ⟨0, Nat.zero_le _, by simp, ⟨[], rfl, h0⟩, K2.refl _ _ _⟩
  case round =>
    obtain ⟨k, hk, rfl, ⟨pre, hpre, hJs⟩, hnx⟩ := hrel
    have hBs' : wr.cell? ⟨Bs, 0, none⟩ = some (.slice (some x) l.length cap) := hnx.2.trans hBs
    by_cases hlt : k < l.length
    · obtain ⟨j, hj⟩ : ∃ j, l.length = k + 1 + j := ⟨l.length - (k + 1), by omega⟩
      have hjl : j < l.length := by omega
      have hji : (l.length : Int) - 1 - k = (j : Int) := by omega
      have hcx : wr.cell? (x.add j) = some (.int .u64 l[j]) := by
        rw [hnx.1.cell (p := x.add j) (by unfold Addr.add; split <;> exact hb)]
        exact hc.num hjl
      have hbk : backAt l k = (j, l[j]) := by
        unfold backAt
        rw [show l.length - 1 - k = j from by omega, List.getD_eq_getElem?_getD, List.getElem?_eq_getElem hjl]; rfl
      have HJ := Lib.hid hj
      have HUU : Hid (U64 l[j]) := Lib.hid (hwu _ (List.getElem_mem hjl))
      have HPL : Hid (pre.length < l.length) := Lib.hid (by
        have h1 := congrArg List.length hpre
        rw [upto_length, List.length_map] at h1
        omega)
      rw [hji]
      generalize l[j] = u at *
      have HBK := Lib.hid hbk
      have HJI := Lib.hid hji
      clear hj hbk hji
      obtain ⟨fn, tmps, assign, body, hy, hR⟩ := hY _ ⟨j, u, hjl, HUU.out⟩ wr hJs HPL.out
      dsimp only at hy
      gi_wp2
      refine hR.mono ?_
      rintro e W3 (⟨rfl, hJ3, hk3⟩ | ⟨rfl, hJx3⟩)
      · gi_wp2
        go_roundw
        case rel => exact ⟨k + 1, by omega, by have := HJI.out; have := HJ.out; go_num, ⟨_, by rw [upto_succ, HBK.out, List.map_append, hpre]; rfl, hJ3⟩, hnx.trans hk3⟩
        case measure => have := HJ.out; simp [intOf]
      · gi_wp2
        refine bodyPost_ret (results_none rfl _ _ _) rfl ?_
        exact ⟨⟨_, rfl⟩, .inr ⟨_, ⟨k + 1, by omega, by rw [upto_succ, HBK.out, List.map_append, hpre]; rfl⟩, hJx3⟩⟩
    · obtain rfl : k = l.length := by omega
      gi_wp2
      go_end0
      exact ⟨⟨_, rfl⟩, .inl ⟨_, hpre, hJs⟩⟩
set_option maxRecDepth 100000 in
set_option maxHeartbeats 1000000 in
/-- .. at a slice without elements: no round. -/
theorem back1_nil_in (F : Fence) (n : Nat) (h8 : F.fn 133) (hro : F.round = none) (li Bs cap : Nat) (A : Option Addr) {α : Type} (J : List α → World → Prop) (W : World) (hBs : W.cell? ⟨Bs, 0, none⟩ = some (.slice A 0 cap)) (h0 : J [] W) :
    CallsIn F n Tryd.prog 133 #[.func (.yield li) #[] #[], .pointer (some ⟨Bs, 0, none⟩)] W fun e W' => (∃ v, e = .returned v) ∧ J [] W' := by
  refine callsIn_of_wp Tryd.func133 rfl h8 ?_ hro
  simp only [Tryd.ntmps133, List.size_toArray, List.length_cons, List.length_nil, Nat.reduceAdd, Nat.reduceSub, Array.replicate_succ, Array.replicate_zero, List.push_toArray, List.append_toArray, List.nil_append, List.cons_append]
  gi_wp2
  gi_loopw [3] (fun i wr => i = .int .i64 (-1) ∧ J [] wr) (fun _ _ => 0)
  case atStart => exact ⟨rfl, h0⟩
  case round =>
    obtain ⟨rfl, hJs⟩ := hrel
    gi_wp2
    go_end0
    exact ⟨⟨_, rfl⟩, hJs⟩
set_option maxHeartbeats 1000000 in
/-- slices.Backward: the slice is boxed, the function value captures the box. -/
theorem back_in (F : Fence) (n : Nat) (h5 : F.fn 113) (hro : F.round = none) (a : Option Addr) (len cap : Nat) (w : World) :
    CallsIn F n Tryd.prog 113 #[.slice a len cap] w fun e w' => e = .returned (.func (.func 133) #[] #[.pointer (some ⟨w.heap.size, 0, none⟩)]) ∧ w' = w.alloc (.cells #[.slice a len cap] 41) := by
  refine callsIn_of_wp Tryd.func113 rfl h5 ?_ hro
  simp only [Tryd.ntmps113, List.size_toArray, List.length_cons, List.length_nil, Nat.reduceAdd, Nat.reduceSub, Array.replicate_succ, Array.replicate_zero, List.push_toArray, List.append_toArray, List.nil_append, List.cons_append]
  gi_wp2
  go_ret
  exact ⟨rfl, rfl⟩
theorem back_stops (F : Fence) (n : Nat) (h8 : F.fn 133) (hro : F.round = none) (hn : 1 ≤ n) (Bs n₀ cap : Nat) (A : Option Addr) (l : List Int) (w : World) (hBs : Bs < w.heap.size) (hn₀ : n₀ ≤ w.heap.size) (hlen : l.length ≤ 9223372036854775807)
    (hc : w.cell? ⟨Bs, 0, none⟩ = some (.slice A l.length cap)) (hb : ∀ x, A = some x → l ≠ [] → x.block < n₀) (hr : Row w A (nums .u64 l)) (hwu : ∀ a ∈ l, U64 a) :
    SeqStopsK F n Tryd.prog 133 #[.pointer (some ⟨Bs, 0, none⟩)] (fun x : BW l.length => #[Value.int .i64 (x.i : Int), Value.int .u64 x.u]) (K2 n₀ Bs) (fun ys => ys.map BW.val = upto (backAt l) l.length)
      (fun pre => ∃ k, k ≤ l.length ∧ pre.map BW.val = upto (backAt l) k) l.length w := fun li J Jx W hW _ _ hY h0 => by
  have hc' : W.cell? ⟨Bs, 0, none⟩ = some (.slice A l.length cap) := (hW.cell (p := ⟨Bs, 0, none⟩) hBs).trans hc
  cases l with
  | nil => exact (back1_nil_in F n h8 hro li Bs cap A J W hc' h0).mono fun e W' ⟨he, hj⟩ => ⟨he, .inl ⟨_, rfl, hj⟩⟩
  | cons d l =>
    obtain ⟨x, rfl⟩ := hr.some_of (by simp [nums])
    exact back1_in F n h8 hro hn li Bs n₀ cap x (d :: l) (hb x rfl (by simp)) hlen hwu J Jx hY W hc' (hr.below hW) h0
end Go.Proofs.YtnlmmgcjhedjkaaDoor.P
/- The contract of package geom's Sum, and sums of powers plainly. Conditions: words of their kinds. -/
namespace Go.Proofs.YtnlmmgcjhedjkaaDoor.P
open Go.RowKit
set_option linter.unusedVariables false
set_option linter.unusedSimpArgs false
theorem geoS_add (p z : Int) (a : Nat) : ∀ b, geoS p z (a + b) = addS p (geoS p z a) (mulS p (powS p z a) (geoS p z b))
  | 0 => by
    unfold addS mulS
    rw [geoS, Int.mul_zero, redS_zero, Int.add_zero, geoS_red]; rfl
  | b + 1 => by
    rw [show a + (b + 1) = (a + b) + 1 from rfl, geoS, geoS_add p z a b, geoS, powS_add]
    unfold addS mulS
    simp only [redS_add_left, redS_add_right, redS_mul_left, redS_mul_right]
    rw [Int.mul_add, Int.add_assoc]
theorem geoS_succ (p z : Int) (k : Nat) : geoS p z (k + 1) = addS p (mulS p (geoS p z k) z) 1 := by
  rw [Nat.add_comm, geoS_add p z 1 k, powS_one]
  have h1 : geoS p z 1 = redS p 1 := by
    show addS p 0 (powS p z 0) = _
    unfold addS
    rw [powS_zero, Int.zero_add, redS_redS]
  rw [h1]
  unfold addS mulS
  simp only [redS_add_left, redS_add_right, redS_mul_left, redS_mul_right]
  rw [Int.add_comm 1, Int.mul_comm]
theorem geoS_double (p z : Int) (D : Nat) : addS p (geoS p z D) (mulS p (powS p z D) (geoS p z D)) = geoS p z (2 * D) := by
  rw [Nat.two_mul, geoS_add]
/-- What Sum tells. -/
def sumS (p z n : Int) : Int × Int := if knownS p then (if 0 ≤ n ∧ n ≤ 65536 then (geoS p z n.toNat, 0) else (0, 1)) else (0, 2)
theorem wraps_i64 (n : Int) (h₀ : 0 ≤ n) (h₁ : n < 2 ^ 63) : IntKind.i64.wrap n = n := by rw [IntKind.wrap_i64]; omega
theorem and_one_i64 {x : Int} (h0 : 0 ≤ x) (h1 : x < 9223372036854775808) : Go.bits .and .i64 x 1 = x % 2 :=
  bits_mask .i64 63 (by decide) wraps_i64 1 (by decide) x h0 h1
theorem sum_calls (p z n : Int) (w : World) (hp : U64 p) (hz : U64 z) :
    Calls Tryd.prog 110 #[.int .u64 p, .int .u64 z, .int .i64 n] w fun e w' => e = .returned (.tuple #[.int .u64 (sumS p z n).1, .int .i64 (sumS p z n).2]) ∧ Drawn0 w w' := by
  have HZ := Lib.hid hz
  have HP := Lib.hid hp
  clear hz hp
  by_cases hk : knownS p = true
  · by_cases hr : 0 ≤ n ∧ n ≤ 65536
    · obtain ⟨r0, r1⟩ := hr
      obtain ⟨m, rfl⟩ := Int.eq_ofNat_of_zero_le r0
      have HF : Hid (sumS p z m = (geoS p z m, 0)) := Lib.hid (by rw [sumS, if_pos hk, if_pos ⟨r0, r1⟩, Int.toNat_natCast])
      have H1 : Hid (powS p z 0 = 1) := Lib.hid (by rw [powS_zero, one_red hk])
      obtain ⟨hb1, hb2⟩ := bitLen_lt m (by omega)
      have HB := Lib.hid hb1
      have f0 : decide ((m : Int) < 0) = false := by simp
      have f1 : decide (65536 < (m : Int)) = false := by simp; omega
      have hm : m ≤ 65536 := by omega
      clear hb1 r0 r1
      go_enter Tryd.func110, Tryd.ntmps110
      go_wp2_with (first
        | (go_at_call 78; refine (known_calls _ _).mono ?_; rintro e w' ⟨rfl, rfl⟩)
        | (go_at_call 132; refine (Tryd.bits_Len _ _ (by omega) (by omega)).mono ?_; rintro e w' ⟨rfl, rfl⟩; rw [Int.toNat_natCast]))
      go_loopw [8, 9, 10] (fun s o i wr => ∃ q : Int, -1 ≤ q ∧ q ≤ 63 ∧ i = .int .i64 q ∧ s = .int .u64 (geoS p z (m / 2 ^ (q + 1).toNat)) ∧ o = .int .u64 (powS p z (m / 2 ^ (q + 1).toNat)) ∧ Drawn0 w' wr) (fun _ _ i _ => (intOf i + 1).toNat)
      case atStart => exact ⟨(Lib.bitLen m : Int) - 1, by omega, by omega, rfl, by
        rw [show ((Lib.bitLen m : Int) - 1 + 1).toNat = Lib.bitLen m from by omega, Nat.div_eq_of_lt HB.out]; rfl, by
        rw [show ((Lib.bitLen m : Int) - 1 + 1).toNat = Lib.bitLen m from by omega, Nat.div_eq_of_lt HB.out, H1.out], ⟨0, rfl⟩⟩
      case round =>
        obtain ⟨q, hq0, hq1, rfl, rfl, rfl, ⟨n, rfl⟩⟩ := hrel
        by_cases hlt : 0 ≤ q
        · have hs : (m : Int) / 2 ^ q.toNat = ((m / 2 ^ q.toNat : Nat) : Int) := by simp
          have hlt2 : m / 2 ^ q.toNat ≤ 65536 := Nat.le_trans (Nat.div_le_self _ _) hm
          have hbit := bit_of m q.toNat
          rw [show q.toNat + 1 = (q + 1).toNat from by omega] at hbit
          have HQ : Hid ((q - 1 + 1).toNat = q.toNat) := Lib.hid (by omega)
          generalize hB : m / 2 ^ q.toNat = B at *
          generalize hD : m / 2 ^ (q + 1).toNat = D at *
          have HB2 := Lib.hid hB
          have hand : Go.bits .and .i64 (B : Int) 1 = (B : Int) % 2 := and_one_i64 (by omega) (by omega)
          have HX1 : Hid (addS p (geoS p z D) (mulS p (powS p z D) (geoS p z D)) = geoS p z (2 * D)) := Lib.hid (geoS_double p z D)
          have HX2 : Hid (mulS p (powS p z D) (powS p z D) = powS p z (2 * D)) := Lib.hid (powS_double p z D)
          clear hB hD
          by_cases hb1 : B % 2 = 1
          · have hb2 : ((B : Int) % 2 == 1) = true := by rw [beq_iff_eq]; omega
            have HX3 : Hid (addS p (mulS p (geoS p z (2 * D)) z) 1 = geoS p z B) := Lib.hid (by
              rw [← geoS_succ]; congr 1; omega)
            have HX4 : Hid (mulS p (powS p z (2 * D)) z = powS p z B) := Lib.hid (by
              rw [powS_succ]; congr 1; omega)
            clear hbit hb1
            go_wp2_with fail
            refine (mul_calls _ _ _ _ HP.out (u64_powS _ _ _) (u64_geoS _ _ _)).mono ?_
            rintro e w2 ⟨rfl, ⟨n2, rfl⟩⟩
            go_wp2_with fail
            refine (add_calls _ _ _ _ HP.out (u64_geoS _ _ _) (u64_mulS _ _ _)).mono ?_
            rintro e w2 ⟨rfl, rfl⟩
            rw [HX1.out]
            go_wp2_with fail
            refine (mul_calls _ _ _ _ HP.out (u64_powS _ _ _) (u64_powS _ _ _)).mono ?_
            rintro e w2 ⟨rfl, ⟨n3, rfl⟩⟩
            rw [HX2.out]
            go_wp2_with fail
            refine (mul_calls _ _ _ _ HP.out (u64_geoS _ _ _) HZ.out).mono ?_
            rintro e w2 ⟨rfl, ⟨n4, rfl⟩⟩
            go_wp2_with fail
            refine (add_calls _ _ _ _ HP.out (u64_mulS _ _ _) (by decide)).mono ?_
            rintro e w2 ⟨rfl, rfl⟩
            rw [HX3.out]
            go_wp2_with fail
            refine (mul_calls _ _ _ _ HP.out (u64_powS _ _ _) HZ.out).mono ?_
            rintro e w2 ⟨rfl, ⟨n5, rfl⟩⟩
            rw [HX4.out]
            go_wp2_with fail
            go_roundw
            case rel => exact ⟨q - 1, by omega, by omega, rfl, by rw [HQ.out, HB2.out], by rw [HQ.out, HB2.out], ⟨_, rfl⟩⟩
            case measure => simp [intOf]; omega
          · have hb2 : ((B : Int) % 2 == 1) = false := by rw [beq_eq_false_iff_ne]; omega
            have hBD : 2 * D = B := by omega
            clear hbit hb1
            rw [hBD] at HX1 HX2
            go_wp2_with fail
            refine (mul_calls _ _ _ _ HP.out (u64_powS _ _ _) (u64_geoS _ _ _)).mono ?_
            rintro e w2 ⟨rfl, ⟨n2, rfl⟩⟩
            go_wp2_with fail
            refine (add_calls _ _ _ _ HP.out (u64_geoS _ _ _) (u64_mulS _ _ _)).mono ?_
            rintro e w2 ⟨rfl, rfl⟩
            rw [HX1.out]
            go_wp2_with fail
            refine (mul_calls _ _ _ _ HP.out (u64_powS _ _ _) (u64_powS _ _ _)).mono ?_
            rintro e w2 ⟨rfl, ⟨n3, rfl⟩⟩
            rw [HX2.out]
            go_wp2_with fail
            go_roundw
            case rel => exact ⟨q - 1, by omega, by omega, rfl, by rw [HQ.out, HB2.out], by rw [HQ.out, HB2.out], ⟨_, rfl⟩⟩
            case measure => simp [intOf]; omega
        · have HE : Hid (geoS p z (m / 2 ^ (q + 1).toNat) = geoS p z m) := Lib.hid (by rw [show (q + 1).toNat = 0 from by omega]; simp)
          go_wp2
          go_ret2
          exact ⟨by rw [HF.out, ← HE.out]; rfl, ⟨_, rfl⟩⟩
    · have HF : Hid (sumS p z n = (0, 1)) := Lib.hid (by rw [sumS, if_pos hk, if_neg hr])
      by_cases h0 : n < 0
      · have f0 : decide (n < 0) = true := by simpa using h0
        go_enter Tryd.func110, Tryd.ntmps110
        go_wp2_with (go_at_call 78; refine (known_calls _ _).mono ?_; rintro e w' ⟨rfl, rfl⟩)
        go_ret2
        exact ⟨by rw [HF.out]; rfl, ⟨0, rfl⟩⟩
      · have f0 : decide (n < 0) = false := by simpa using h0
        have f1 : decide (65536 < n) = true := by simp; omega
        go_enter Tryd.func110, Tryd.ntmps110
        go_wp2_with (go_at_call 78; refine (known_calls _ _).mono ?_; rintro e w' ⟨rfl, rfl⟩)
        go_ret2
        exact ⟨by rw [HF.out]; rfl, ⟨0, rfl⟩⟩
  · have HF : Hid (sumS p z n = (0, 2)) := Lib.hid (by rw [sumS, if_neg hk])
    have hk2 : knownS p = false := by simpa using hk
    clear hk
    go_enter Tryd.func110, Tryd.ntmps110
    go_wp2_with (go_at_call 78; refine (known_calls _ _).mono ?_; rintro e w' ⟨rfl, rfl⟩)
    go_ret2
    exact ⟨by rw [HF.out]; rfl, ⟨0, rfl⟩⟩
end Go.Proofs.YtnlmmgcjhedjkaaDoor.P
/- Sums of numbers times powers, plainly. Under no condition beside those of each lemma. -/
namespace Go.Proofs.YtnlmmgcjhedjkaaDoor.P
set_option linter.unusedVariables false
def evalG (p r : Int) (l : List Int) : Int := l.foldr (fun a s => addS p (mulS p s r) a) 0
theorem evalG_ev (p r : Int) : ∀ l, evalG p r l = redS p (ev r l)
  | [] => (redS_zero p).symm
  | a :: l => by
    have e : evalG p r (a :: l) = addS p (mulS p (evalG p r l) r) a := rfl
    rw [e, evalG_ev p r l, ev]
    unfold addS mulS
    rw [redS_mul_left, redS_add_left]
theorem ev_S (r : Int) : ∀ l, ev r l = S l.length (fun i => l.getD i 0 * r ^ i)
  | [] => rfl
  | a :: l => by
    rw [ev, ev_S r l, List.length_cons, S_head]
    simp only [List.getD_cons_zero, List.getD_cons_succ, Int.pow_zero, Int.mul_one]
    rw [← S_mulr, Int.add_comm]
    congr 1
    exact S_congr fun i _ => by rw [Int.pow_succ, Int.mul_assoc]
theorem evalG_S (p r : Int) (l : List Int) : evalG p r l = redS p (S l.length (fun i => l.getD i 0 * r ^ i)) := by rw [evalG_ev, ev_S]
theorem u64_evalG (p r : Int) (l : List Int) : U64 (evalG p r l) := by rw [evalG_ev]; exact u64_redS _ _
def evalS (p r : Int) (l : List Int) : Int × Int := if knownS p then (if l.length ≤ 65536 then (evalG p r l, 0) else (0, 1)) else (0, 2)
theorem geoS_S (p x : Int) : ∀ n, geoS p x n = redS p (S n (fun i => x ^ i))
  | 0 => (redS_zero p).symm
  | n + 1 => by
    rw [geoS, geoS_S p x n, S]
    unfold addS powS
    rw [redS_add_left, redS_add_right]
/-- Sums of numbers, and numbers times one. -/
theorem evalG_sums (p r c : Int) (l m z : List Int) (hm : m.length = l.length) (hz : z.length = l.length) (h : ∀ t, t < l.length → z.getD t 0 = addS p (mulS p c (l.getD t 0)) (m.getD t 0)) :
    evalG p r z = addS p (mulS p c (evalG p r l)) (evalG p r m) := by
  rw [evalG_S, evalG_S, evalG_S, hm, hz]
  unfold addS mulS at *
  rw [redS_add_left, redS_add_right, ← redS_add_left, redS_mul_right, redS_add_left, ← S_mul, ← S_add]
  refine red_S fun t ht => ?_
  rw [h t ht, redS_add_left, redS_mul_left]
  congr 1
  rw [Int.add_mul, Int.mul_assoc]
/-- Of powers of a number it is a sum of powers. -/
theorem evalG_powers (p r c : Int) (n : Nat) : evalG p r ((List.range n).map (powS p c)) = geoS p (mulS p c r) n := by
  rw [evalG_S, geoS_S]
  have hl : ((List.range n).map (powS p c)).length = n := by simp
  rw [hl]
  refine red_S fun t ht => ?_
  have e : ((List.range n).map (powS p c)).getD t 0 = powS p c t := by rw [List.getD_eq_getElem?_getD]; simp [ht]
  rw [e]
  unfold powS mulS
  rw [redS_mul_left, red_pow (redS_redS p (c * r)), Int.mul_pow]
theorem evalG_ones (p r : Int) (n : Nat) : evalG p r (List.replicate n 1) = geoS p r n := by
  rw [evalG_S, geoS_S, List.length_replicate]
  refine red_S fun t ht => ?_
  have e : (List.replicate n (1 : Int)).getD t 0 = 1 := by rw [List.getD_eq_getElem?_getD]; simp [ht]
  rw [e, Int.one_mul]
/-- The sum of the first ones. -/
def evF (p r : Int) (l : List Int) (k : Nat) : Int := redS p (S k (fun i => l.getD i 0 * r ^ i))
theorem evF_step (p r : Int) (l : List Int) (k : Nat) : addS p (evF p r l k) (mulS p (l.getD k 0) (powS p r k)) = evF p r l (k + 1) := by
  unfold evF addS mulS powS
  rw [redS_add_left, redS_add_right, S]
  exact red_add rfl (redS_mul_right _ _ _)
theorem evF_all (p r : Int) (l : List Int) : evF p r l l.length = evalG p r l := (evalG_S p r l).symm
end Go.Proofs.YtnlmmgcjhedjkaaDoor.P
/- The contract of package geom's Eval. Conditions: words of their kinds; the slice reads as a list. -/
namespace Go.Proofs.YtnlmmgcjhedjkaaDoor.P
open Go.RowKit Go.Shelf
set_option linter.unusedVariables false
set_option linter.unusedSimpArgs false
attribute [local go_sem] Oper.semAt_some
def foldBack (p r : Int) (pre : List (Nat × Int)) : Int := pre.foldl (fun s x => addS p (mulS p s r) x.2) 0
theorem foldBack_snoc (p r : Int) (pre : List (Nat × Int)) (x : Nat × Int) : foldBack p r (pre ++ [x]) = addS p (mulS p (foldBack p r pre) r) x.2 := by simp [foldBack]
theorem foldBack_all (p r : Int) (l : List Int) : foldBack p r (upto (backAt l) l.length) = evalG p r l := by
  have h1 : (upto (backAt l) l.length).map Prod.snd = l.reverse := by
    apply List.ext_getElem
    · simp [upto]
    · intro i h1 h2
      simp only [upto, List.map_map, List.getElem_map, List.getElem_range, Function.comp, backAt, List.getElem_reverse]
      have hi : i < l.length := by simpa using h2
      rw [List.getD_eq_getElem?_getD, List.getElem?_eq_getElem (by omega)]; rfl
  have h2 : ∀ (pre : List (Nat × Int)) (s : Int), pre.foldl (fun s x => addS p (mulS p s r) x.2) s = (pre.map Prod.snd).foldl (fun s x => addS p (mulS p s r) x) s := by
    intro pre
    induction pre with
    | nil => intro s; rfl
    | cons x pre ih => intro s; simp only [List.foldl_cons, List.map_cons]; exact ih _
  unfold foldBack evalG
  rw [h2, h1, List.foldl_reverse]
theorem u64_foldBack (p r : Int) (pre : List (Nat × Int)) : U64 (foldBack p r pre) := by
  rcases List.eq_nil_or_concat pre with h | ⟨q, x, h⟩
  · subst h; exact (show U64 0 by decide)
  · rw [h, List.concat_eq_append, foldBack_snoc]; exact u64_addS _ _ _
set_option maxRecDepth 100000 in
set_option maxHeartbeats 2000000 in
theorem eval_calls (p r : Int) (A : Option Addr) (c : Nat) (l : List Int) (w : World) (hp : U64 p) (hr : U64 r) (hR : Row w A (nums .u64 l)) (hl : l.length ≤ 9223372036854775807) (hw : ∀ a ∈ l, U64 a) :
    Calls Tryd.prog 63 #[.int .u64 p, .slice A l.length c, .int .u64 r] w fun e w' => e = .returned (.tuple #[.int .u64 (evalS p r l).1, .int .i64 (evalS p r l).2]) ∧ Below w.heap.size w w' := by
  have HP := Lib.hid hp
  have HR := Lib.hid hr
  have HRW := Lib.hid hR
  have HW := Lib.hid hw
  clear hp hr hR hw
  by_cases hk : knownS p = true
  · by_cases hlen : l.length ≤ 65536
    · have HF : Hid (evalS p r l = (evalG p r l, 0)) := Lib.hid (by rw [evalS, if_pos hk, if_pos hlen])
      have f1 : decide (65536 < (l.length : Int)) = false := by simp; omega
      refine (callsIn_wide (n := 6)).1 ?_
      refine callsIn_of_wp_marks Tryd.func63 rfl trivial ?_ rfl
      simp only [Tryd.ntmps63, List.size_toArray, List.length_cons, List.length_nil, Nat.reduceAdd, Nat.reduceSub, Array.replicate_succ, Array.replicate_zero, List.push_toArray, List.append_toArray, List.nil_append, List.cons_append]
      gi_wp2_with (first
        | (refine ⟨trivial, ?_⟩; gi_at_call 78; refine (callsIn_wide.2 (known_calls _ _)).mono ?_; rintro e w' ⟨rfl, rfl⟩)
        | (refine ⟨trivial, ?_⟩; gi_at_call 113; refine (back_in _ _ trivial rfl _ _ _ _).mono ?_; rintro e w' ⟨rfl, rfl⟩))
      have hA : ∀ x, A = some x → l ≠ [] → x.block < w.heap.size := fun x hx hne => by
        subst hx
        have h0 : 0 < l.length := List.length_pos_iff.2 hne
        have := World.block_lt_of_cell? w _ (HRW.out.num h0)
        unfold Addr.add at this
        split at this <;> exact this
      have bP := Boxed.new w 40 (.int .u64 p)
      have bR := Boxed.new (w.alloc (.cells #[.int .u64 p] 40)) 40 (.int .u64 r)
      have bS := Boxed.new ((w.alloc (.cells #[.int .u64 p] 40)).alloc (.cells #[.int .u64 r] 40)) 40 (.int .u64 0)
      have bN := Boxed.new (((w.alloc (.cells #[.int .u64 p] 40)).alloc (.cells #[.int .u64 r] 40)).alloc (.cells #[.int .u64 0] 40)) 41 (.slice A l.length c)
      simp only [World.size_alloc] at bR bS bN
      have hB0 : Below w.heap.size w ((((w.alloc (.cells #[.int .u64 p] 40)).alloc (.cells #[.int .u64 r] 40)).alloc (.cells #[.int .u64 0] 40)).alloc (.cells #[.slice A l.length c] 41)) :=
        ((((Below.refl _ w).alloc (Nat.le_refl _) _).alloc (by simp) _).alloc (by simp; omega) _).alloc (by simp; omega) _
      have hRN := HRW.out.below hB0
      refine wpIn_rangeFunc_ownG rfl (by omega) (gf := 133) (lb := #[.pointer (some ⟨w.heap.size + 1 + 1 + 1, 0, none⟩)]) rfl trivial (enters_of Tryd.func133 (by kernel_rfl) rfl)
        (back_stops Fence.wide (6 - 1) trivial rfl (by omega) (w.heap.size + 1 + 1 + 1) w.heap.size c A l _ (by simp) (by simp; omega) hl bN.cell hA hRN HW.out) (fun h k => K2.trans h k) (k2_b (by simp; omega) (by simp)) (Below.refl _ _) (fun _ => rfl)
        (fun pre W => (W.cell? ⟨w.heap.size + 1 + 1, 0, none⟩ = some (.int .u64 (foldBack p r (pre.map BW.val))) ∧ W.frozen? ⟨w.heap.size + 1 + 1, 0, none⟩ = false ∧ W.cell? ⟨w.heap.size, 0, none⟩ = some (.int .u64 p) ∧ W.cell? ⟨w.heap.size + 1, 0, none⟩ = some (.int .u64 r)) ∧ Below w.heap.size w W)
        (fun _ _ _ => False)
        (OwnFrom.and (Own.from (fun s A B row hs hg hr => ⟨cell_kept hs.1 hg hr, (frozen_kept hs.1 hg hr).trans hs.2.1, cell_kept hs.2.2.1 hg hr, cell_kept hs.2.2.2 hg hr⟩) _) (ownFrom_below (Nat.le_refl _) (by simp; omega)))
        (fun _ _ _ _ _ hs _ _ => hs)
        ⟨⟨(bS.alloc _).cell, (bS.alloc _).frozen, (((bP.alloc _).alloc _).alloc _).cell, ((bR.alloc _).alloc _).cell⟩, hB0⟩
        (fun x => { tmps := #[.int .u64 p, .slice A l.length c, .int .u64 r, .pointer (some ⟨w.heap.size, 0, none⟩), undef, .pointer (some ⟨w.heap.size + 1, 0, none⟩), .int .u64 0, .int .i64 0, .pointer (some ⟨w.heap.size + 1 + 1, 0, none⟩), undef, .int .u64 x.u, .bool false, .int .u64 p, .bool true, .bool false, .bool false, .slice A l.length c, .int .i64 l.length, .bool false, .slice A l.length c, .func (.func 133) #[] #[.pointer (some ⟨w.heap.size + 1 + 1 + 1, 0, none⟩)], .int .i64 (x.i : Int), .int .u64 x.u, undef, undef, undef, undef, undef, undef, undef, undef], defers := [] }) ?assign ?body ?done ?stop
      case assign =>
        intro li x W K hK
        gi_wp2
        exact hK
      case body =>
        rintro li pre x W ⟨⟨hc, hf, hcp, hcr⟩, hB⟩ hpre
        have HXU := Lib.hid x.hu
        have HFU := Lib.hid (u64_foldBack p r (pre.map BW.val))
        have HE : Hid (foldBack p r ((pre ++ [x]).map BW.val) = addS p (mulS p (foldBack p r (pre.map BW.val)) r) x.u) := Lib.hid (by
          rw [List.map_append, List.map_singleton, foldBack_snoc]; rfl)
        generalize foldBack p r (pre.map BW.val) = sv at *
        have hmx : Tryd.prog.follows .mixedOrders = true := by kernel_rfl
        have HBH := Lib.hid hB
        clear hB hpre hA bP bR bS bN hB0 hRN HW HRW HF f1 hlen hk hl
        gi_wp2
        refine region_round (k := 8) (S := (fun w' => w'.cell? ⟨w.heap.size, 0, none⟩ = some (.int .u64 p) ∧ w'.cell? ⟨w.heap.size + 1, 0, none⟩ = some (.int .u64 r) ∧ w'.cell? ⟨w.heap.size + 1 + 1, 0, none⟩ = some (.int .u64 sv))) (T := fun i => i != 7) hmx (by kernel_rfl) rfl ⟨hcp, hcr, hc⟩ (fun hS => ?_)
        refine wpAnyT_take (i := 0) (v := ?v0) rfl (by kernel_rfl) (by kernel_rfl) (by kernel_rfl) (by kernel_rfl) (fun _ _ _ h => h) hS (Or.inl ⟨by rfl, ?hy0⟩) ?rest0
        case hy0 => (intro w' hSw; (try dsimp only at hSw); go_simp; (try with_reducible rfl))
        (try simp only [Act.put, List.setIfInBounds_toArray, List.set_cons_zero, List.set_cons_succ])
        refine wpAnyT_take (i := 1) (v := ?v1) rfl (by kernel_rfl) (by kernel_rfl) (by kernel_rfl) (by kernel_rfl) (fun _ _ _ h => h) hS (Or.inl ⟨by rfl, ?hy1⟩) ?rest1
        case hy1 => (intro w' hSw; (try dsimp only at hSw); go_simp; (try with_reducible rfl))
        (try simp only [Act.put, List.setIfInBounds_toArray, List.set_cons_zero, List.set_cons_succ])
        refine wpAnyT_take (i := 2) (v := ?v2) rfl (by kernel_rfl) (by kernel_rfl) (by kernel_rfl) (by kernel_rfl) (fun _ _ _ h => h) hS (Or.inl ⟨by rfl, ?hy2⟩) ?rest2
        case hy2 => (intro w' hSw; (try dsimp only at hSw); go_simp; (try with_reducible rfl))
        (try simp only [Act.put, List.setIfInBounds_toArray, List.set_cons_zero, List.set_cons_succ])
        refine wpAnyT_take (i := 3) (v := ?v3) rfl (by kernel_rfl) (by kernel_rfl) (by kernel_rfl) (by kernel_rfl) (fun _ _ _ h => h) hS (Or.inl ⟨by rfl, ?hy3⟩) ?rest3
        case hy3 => (intro w' hSw; (try dsimp only at hSw); go_simp; (try with_reducible rfl))
        (try simp only [Act.put, List.setIfInBounds_toArray, List.set_cons_zero, List.set_cons_succ])
        refine wpAnyT_take (i := 5) (v := ?v4) rfl (by kernel_rfl) (by kernel_rfl) (by kernel_rfl) (by kernel_rfl) (fun _ _ _ h => h) hS (Or.inl ⟨by rfl, ?hy4⟩) ?rest4
        case hy4 => (intro w' hSw; (try dsimp only at hSw); go_simp; (try with_reducible rfl))
        (try simp only [Act.put, List.setIfInBounds_toArray, List.set_cons_zero, List.set_cons_succ])
        refine wpAnyT_one (i := 4) (by kernel_rfl) rfl (fun K hK => ?_)
        go_simp
        refine (mul_calls _ _ _ _ HP.out HFU.out HR.out).mono ?_
        rintro e w' ⟨rfl, ⟨q, rfl⟩⟩
        refine hK _ _ (fun _ => hS) ?_
        clear hK K
        (try simp only [Act.put, List.setIfInBounds_toArray, List.set_cons_zero, List.set_cons_succ])
        refine wpAnyT_one (i := 6) (by kernel_rfl) rfl (fun K hK => ?_)
        go_simp
        refine (add_calls _ _ _ _ HP.out (u64_mulS _ _ _) HXU.out).mono ?_
        rintro e w' ⟨rfl, rfl⟩
        refine hK _ _ (fun _ => hS) ?_
        clear hK K
        (try simp only [Act.put, List.setIfInBounds_toArray, List.set_cons_zero, List.set_cons_succ])
        refine wpAnyT_one (i := 7) (by kernel_rfl) rfl (fun K hK => ?_)
        go_simp
        refine hK _ _ (fun h => by cases h) ?_
        clear hK K
        (try simp only [Act.put, List.setIfInBounds_toArray, List.set_cons_zero, List.set_cons_succ])
        refine wpAnyT_done (by kernel_rfl) ?_ _
        have HBX := HBH.out
        refine ⟨keeps_set (W := W) (X := W.drewN (1 + q)) rfl _ _, ⟨Below.setCell (below_drewN (Below.refl _ W) (1 + q)) (by show _ ≤ w.heap.size + 1 + 1; omega) _, World.cell?_setCell_far _ _ _ _ (by simp)⟩, ⟨?_, ?_, ?_, ?_⟩, Below.setCell (below_drewN HBX (1 + q)) (by show _ ≤ w.heap.size + 1 + 1; omega) _⟩
        · rw [HE.out]
          exact World.cell?_setCell_same' _ _ _ (by show (W.cell? ⟨w.heap.size + 1 + 1, 0, none⟩).isSome = true; rw [hc]; rfl)
        · rw [World.frozen?_setCell]; exact hf
        · rw [World.cell?_setCell_far _ _ _ _ (show w.heap.size + 1 + 1 ≠ w.heap.size by omega)]; exact hcp
        · rw [World.cell?_setCell_far _ _ _ _ (show w.heap.size + 1 + 1 ≠ w.heap.size + 1 by omega)]; exact hcr
      case done =>
        rintro D ys W hD hys ⟨⟨hc, hf, hcp, hcr⟩, hB⟩ hK
        rw [hys, foldBack_all] at hc
        gi_wp2
        refine ⟨by simp, .inl ⟨_, _, rfl, run_takeDeferred hK, ?_⟩⟩
        exact ⟨_, results_tmp2 rfl _ _ _, by rw [HF.out]; rfl, hB.trans (belowK_b (w := w) (Nat.le_refl _) W D _ _ (by simp at hD; omega) hK rfl rfl)⟩
      case stop =>
        rintro D c pre W _ _ h _
        exact h.elim
    · have HF : Hid (evalS p r l = (0, 1)) := Lib.hid (by rw [evalS, if_pos hk, if_neg hlen])
      have f1 : decide (65536 < (l.length : Int)) = true := by simp; omega
      have HB : Hid (Below w.heap.size w ((w.alloc (.cells #[.int .u64 p] 40)).alloc (.cells #[.int .u64 r] 40))) := Lib.hid (((Below.refl _ w).alloc (Nat.le_refl _) _).alloc (by simp) _)
      rw [HF.out]
      clear hlen HRW HW
      go_enter Tryd.func63, Tryd.ntmps63
      go_wp2_with (go_at_call 78; refine (known_calls _ _).mono ?_; rintro e w' ⟨rfl, h⟩)
      subst h
      go_ret2
      exact ⟨rfl, HB.out⟩
  · have HF : Hid (evalS p r l = (0, 2)) := Lib.hid (by rw [evalS, if_neg hk])
    have hk2 : knownS p = false := by simpa using hk
    have HB : Hid (Below w.heap.size w ((w.alloc (.cells #[.int .u64 p] 40)).alloc (.cells #[.int .u64 r] 40))) := Lib.hid (((Below.refl _ w).alloc (Nat.le_refl _) _).alloc (by simp) _)
    rw [HF.out]
    clear hk HRW HW
    go_enter Tryd.func63, Tryd.ntmps63
    go_wp2_with (go_at_call 78; refine (known_calls _ _).mono ?_; rintro e w' ⟨rfl, h⟩)
    subst h
    go_ret2
    exact ⟨rfl, HB.out⟩
end Go.Proofs.YtnlmmgcjhedjkaaDoor.P
/- The contract of package geom's Eval, the length as a number. Conditions: words of their kinds; the slice reads as a list. -/
namespace Go.Proofs.YtnlmmgcjhedjkaaDoor.P
open Go.RowKit
set_option linter.unusedVariables false
theorem blE {w W W' : World} (h : Below w.heap.size w W) (hb : Below W.heap.size W W') : Below w.heap.size w W' := h.trans (hb.mono h.size)
theorem eval_n (p r : Int) (A : Option Addr) (n c : Nat) (l : List Int) (w : World) (hn : l.length = n) (hp : U64 p) (hr : U64 r) (hR : Row w A (nums .u64 l)) (hl : n ≤ 9223372036854775807) (hw : ∀ a ∈ l, U64 a) :
    Calls Tryd.prog 63 #[.int .u64 p, .slice A n c, .int .u64 r] w fun e w' => e = .returned (.tuple #[.int .u64 (evalS p r l).1, .int .i64 (evalS p r l).2]) ∧ Below w.heap.size w w' := by
  subst hn; exact eval_calls p r A c l w hp hr hR hl hw
theorem evalS_ok {p r : Int} {l : List Int} (hk : knownS p = true) (h : l.length ≤ 65536) : evalS p r l = (evalG p r l, 0) := by rw [evalS, if_pos hk, if_pos h]
end Go.Proofs.YtnlmmgcjhedjkaaDoor.P
/- Seeds of which numbers are nothing: plainly, and the contract of package geom's Roots. Conditions: words of their kinds; the slices read as lists. -/
namespace Go.Proofs.YtnlmmgcjhedjkaaDoor.P
open Go.RowKit Go.Maps
set_option linter.unusedVariables false
set_option linter.unusedSimpArgs false
/-- The different seeds, among the first ones, of which the numbers are nothing. -/
def setL (p : Int) (l ss : List Int) : Nat → List Int
  | 0 => []
  | k + 1 => if evalG p (ss.getD k 0) l = 0 ∧ redS p (ss.getD k 0) ∉ setL p l ss k then setL p l ss k ++ [redS p (ss.getD k 0)] else setL p l ss k
theorem setL_yes {p : Int} {l ss : List Int} {k : Nat} (h : evalG p (ss.getD k 0) l = 0) (hn : redS p (ss.getD k 0) ∉ setL p l ss k) : setL p l ss (k + 1) = setL p l ss k ++ [redS p (ss.getD k 0)] := by
  rw [setL, if_pos ⟨h, hn⟩]
theorem setL_in {p : Int} {l ss : List Int} {k : Nat} (hn : redS p (ss.getD k 0) ∈ setL p l ss k) : setL p l ss (k + 1) = setL p l ss k := by
  rw [setL, if_neg (fun h => h.2 hn)]
theorem setL_no {p : Int} {l ss : List Int} {k : Nat} (h : evalG p (ss.getD k 0) l ≠ 0) : setL p l ss (k + 1) = setL p l ss k := by
  rw [setL, if_neg (fun h2 => h h2.1)]
theorem setL_mem {p : Int} {l ss : List Int} {z : Int} : ∀ {k : Nat}, z ∈ setL p l ss k → ∃ j, j < k ∧ z = redS p (ss.getD j 0) ∧ evalG p (ss.getD j 0) l = 0
  | 0, h => by cases h
  | k + 1, h => by
    rw [setL] at h
    split at h
    · rename_i h1
      rw [List.mem_append] at h
      rcases h with h | h
      · obtain ⟨j, hj, h2⟩ := setL_mem h
        exact ⟨j, by omega, h2⟩
      · rw [List.mem_singleton] at h
        exact ⟨k, by omega, h, h1.1⟩
    · obtain ⟨j, hj, h2⟩ := setL_mem h
      exact ⟨j, by omega, h2⟩
theorem setL_has {p : Int} {l ss : List Int} {j : Nat} (h : evalG p (ss.getD j 0) l = 0) : ∀ {k : Nat}, j < k → redS p (ss.getD j 0) ∈ setL p l ss k
  | k + 1, hj => by
    by_cases e : j = k
    · subst e
      by_cases hm : redS p (ss.getD j 0) ∈ setL p l ss j
      · rw [setL_in hm]; exact hm
      · rw [setL_yes h hm]; simp
    · have ih := setL_has h (show j < k by omega)
      rw [setL]
      split
      · exact List.mem_append_left _ ih
      · exact ih
theorem setL_nodup (p : Int) (l ss : List Int) : ∀ k, (setL p l ss k).Nodup
  | 0 => List.nodup_nil
  | k + 1 => by
    rw [setL]
    split
    · rename_i h
      rw [List.nodup_append]
      refine ⟨setL_nodup p l ss k, by simp, ?_⟩
      intro a ha b hb e
      rw [List.mem_singleton] at hb
      subst e; subst hb
      exact h.2 ha
    · exact setL_nodup p l ss k
theorem setL_le (p : Int) (l ss : List Int) : ∀ k, (setL p l ss k).length ≤ k
  | 0 => Nat.le_refl _
  | k + 1 => by
    have ih := setL_le p l ss k
    rw [setL]
    split
    · rw [List.length_append]; simp; omega
    · omega
theorem sub_length : ∀ (xs ys : List Int), xs.Nodup → (∀ x ∈ xs, x ∈ ys) → xs.length ≤ ys.length
  | [], ys, _, _ => Nat.zero_le _
  | x :: xs, ys, hn, h => by
    rw [List.nodup_cons] at hn
    have hx := h x List.mem_cons_self
    have ih := sub_length xs (ys.erase x) hn.2 fun y hy => (List.mem_erase_of_ne (fun e => hn.1 (by rw [← e]; exact hy))).2 (h y (List.mem_cons_of_mem _ hy))
    rw [List.length_erase_of_mem hx] at ih
    have : 0 < ys.length := List.length_pos_of_mem hx
    simp; omega
theorem ev_cong {p a b : Int} (h : redS p a = redS p b) : ∀ l, redS p (ev a l) = redS p (ev b l)
  | [] => rfl
  | c :: l => by rw [ev, ev]; exact red_add (red_mul (ev_cong h l) h) rfl
theorem evalG_cong {p a b : Int} (h : redS p a = redS p b) (l : List Int) : evalG p a l = evalG p b l := by rw [evalG_ev, evalG_ev, ev_cong h]
/-- A seed is new just if none ahead of it is the same. -/
theorem setL_iff {p : Int} {l ss : List Int} {k : Nat} (h : evalG p (ss.getD k 0) l = 0) : redS p (ss.getD k 0) ∈ setL p l ss k ↔ ∃ j, j < k ∧ redS p (ss.getD j 0) = redS p (ss.getD k 0) := by
  constructor
  · intro hm
    obtain ⟨j, hj, h1, _⟩ := setL_mem hm
    exact ⟨j, hj, h1.symm⟩
  · rintro ⟨j, hj, h1⟩
    rw [← h1]
    exact setL_has (by rw [evalG_cong h1]; exact h) hj
theorem ev_noughts {p r : Int} : ∀ {l : List Int}, (∀ a ∈ l, redS p a = 0) → redS p (ev r l) = 0
  | [], _ => redS_zero p
  | a :: l, h => by
    rw [ev, ← redS_add_left, ← redS_mul_left, ev_noughts (fun b hb => h b (List.mem_cons_of_mem _ hb)), Int.zero_mul, redS_zero, Int.zero_add]
    exact h a List.mem_cons_self
theorem setL_noughts {p : Int} {l : List Int} (h : ∀ a ∈ l, redS p a = 0) (ss : List Int) : ∀ k, setL p l ss k = setL p [] ss k
  | 0 => rfl
  | k + 1 => by
    have e1 : evalG p (ss.getD k 0) l = 0 := by rw [evalG_ev]; exact ev_noughts h
    have e2 : evalG p (ss.getD k 0) [] = 0 := rfl
    rw [setL, setL, setL_noughts h ss k, e1, e2]
theorem setL_few {p : Int} (hk : knownS p = true) {l : List Int} (h : ¬ ∀ a ∈ l, redS p a = 0) (ss : List Int) (k : Nat) : (setL p l ss k).length < l.length := by
  refine few_seeds hk l (setL p l ss k) (setL_nodup p l ss k) ?_ ?_ h
  · intro r hr
    obtain ⟨j, _, rfl, _⟩ := setL_mem hr
    exact ⟨redS_lo _ _, redS_hi _ hk⟩
  · intro r hr
    obtain ⟨j, _, rfl, h2⟩ := setL_mem hr
    rw [ev_cong (redS_redS p _), ← evalG_ev]; exact h2
theorem setL_all (p : Int) (l ss : List Int) (k : Nat) : (setL p l ss k).length ≤ (setL p [] ss k).length := by
  refine sub_length _ _ (setL_nodup p l ss k) fun x hx => ?_
  obtain ⟨j, hj, rfl, _⟩ := setL_mem hx
  exact setL_has rfl hj
def rootsS (p : Int) (l ss : List Int) : Int × Int :=
  if knownS p then (if l.length ≤ 65536 ∧ ss.length ≤ 65536 then (((setL p l ss ss.length).length : Int), 0) else (0, 1)) else (0, 2)
theorem lawU : Keyed Tryd.prog 40 := int_keyed Tryd.underlying40
theorem zeroI (w : World) : (zeroValue 3).run Tryd.prog w = .ok (.int .i64 0) w := by kernel_rfl
/-- What the map holds: the seeds of the set. -/
structure Met (D : DataW Unit) (L : List Int) : Prop where
  has : ∀ z, Maps.has D (.int .u64 z) = decide (z ∈ L)
  size : Maps.size D = L.length
theorem Met.put {D : DataW Unit} {L : List Int} (h : Met D L) (ht : Tidy D) (hm : IsMap D) (z : Int) (d : DataW Unit) : Met (D.put (.int .u64 z) d) (if z ∈ L then L else L ++ [z]) := by
  constructor
  · intro y
    by_cases e : y = z
    · subst e
      rw [has_put_same hm (by simp [WideAt.IsKeyLit])]
      symm
      rw [decide_eq_true_iff]
      split
      · assumption
      · simp
    · rw [has_put_other (by intro h1; injection h1 with _ h2; exact e h2), h.has]
      congr 1
      rw [eq_iff_iff]
      split
      · exact Iff.rfl
      · rw [List.mem_append, List.mem_singleton]
        exact ⟨fun h1 => .inl h1, fun h1 => h1.resolve_right e⟩
  · rw [size_put ht, h.has]
    by_cases hz : z ∈ L
    · rw [if_pos (by simpa using hz), if_pos hz]; exact h.size
    · rw [if_neg (by simpa using hz), if_neg hz, h.size]; simp
theorem met_nil : Met (.map []) [] := ⟨fun z => rfl, rfl⟩
end Go.Proofs.YtnlmmgcjhedjkaaDoor.P
/- The contracts of brackenref08's Eval, Sum and Roots. Conditions: words of their kinds; the slices read as lists. -/
namespace Go.Proofs.YtnlmmgcjhedjkaaDoor.P
open Go.RowKit
set_option linter.unusedVariables false
set_option linter.unusedSimpArgs false
theorem getD_in {l : List Int} {k : Nat} (h : k < l.length) (v : Int) : l.getD k v = l[k] := by
  rw [List.getD_eq_getElem?_getD, List.getElem?_eq_getElem h]; rfl
theorem evF_zero (p r : Int) (l : List Int) : evF p r l 0 = 0 := redS_zero p
theorem u64_evF (p r : Int) (l : List Int) (k : Nat) : U64 (evF p r l k) := u64_redS _ _
set_option maxRecDepth 100000 in
theorem r08_eval (p r : Int) (A : Option Addr) (n c : Nat) (l : List Int) (w : World) (hn : l.length = n) (hp : U64 p) (hr : U64 r) (hR : Row w A (nums .u64 l)) (hl : n ≤ 9223372036854775807) (hw : ∀ a ∈ l, U64 a) :
    Calls Tryd.prog 111 #[.int .u64 p, .slice A n c, .int .u64 r] w fun e w' => e = .returned (.tuple #[.int .u64 (evalS p r l).1, .int .i64 (evalS p r l).2]) ∧ Drawn0 w w' := by
  have HP := Lib.hid hp
  have HRU := Lib.hid hr
  have HR := Lib.hid hR
  have HW := Lib.hid hw
  have HN := Lib.hid hn
  clear hp hr hR hw
  by_cases hk : knownS p = true
  case neg =>
    have HF : Hid (evalS p r l = (0, 2)) := Lib.hid (by rw [evalS, if_neg hk])
    have hk2 : knownS p = false := by simpa using hk
    rw [HF.out]
    clear hk hn
    go_enter Tryd.func111, Tryd.ntmps111
    go_wp2_with (go_at_call 96; refine (r01_known _ _).mono ?_; rintro e w' ⟨rfl, rfl⟩)
    go_ret2
    exact ⟨rfl, ⟨0, rfl⟩⟩
  by_cases hlen : n ≤ 65536
  case neg =>
    have HF : Hid (evalS p r l = (0, 1)) := Lib.hid (by rw [evalS, if_pos hk, if_neg (by rw [hn]; exact hlen)])
    have f1 : decide (65536 < (n : Int)) = true := by simp; omega
    rw [HF.out]
    clear hn
    go_enter Tryd.func111, Tryd.ntmps111
    go_wp2_with (go_at_call 96; refine (r01_known _ _).mono ?_; rintro e w' ⟨rfl, rfl⟩)
    go_ret2
    exact ⟨rfl, ⟨0, rfl⟩⟩
  have HF : Hid (evalS p r l = (evF p r l n, 0)) := Lib.hid (by rw [evalS, if_pos hk, if_pos (by rw [hn]; exact hlen), ← evF_all, hn])
  have HP0 : Hid (powS p r 0 = 1) := Lib.hid (by rw [powS_zero, one_red hk])
  have f1 : decide (65536 < (n : Int)) = false := by simp; omega
  rw [HF.out]
  clear hn
  go_enter Tryd.func111, Tryd.ntmps111
  go_wp2_with (go_at_call 96; refine (r01_known _ _).mono ?_; rintro e w' ⟨rfl, rfl⟩)
  go_loopw [8, 9, 20] (fun s t q wr => ∃ k : Nat, k ≤ n ∧ q = .int .i64 k ∧ s = .int .u64 (evF p r l k) ∧ t = .int .u64 (powS p r k) ∧ Drawn0 w' wr) (fun _ _ q _ => n - (intOf q).toNat)
  case atStart => exact ⟨0, Nat.zero_le _, rfl, by rw [evF_zero], by rw [HP0.out], ⟨0, rfl⟩⟩
  case round =>
    obtain ⟨k, hkn, rfl, rfl, rfl, ⟨q, rfl⟩⟩ := hrel
    by_cases hlt : k < n
    · obtain ⟨x, rfl⟩ := HR.out.some_of (by intro h0; have h1 := nums_length .u64 l; rw [h0, HN.out] at h1; simp at h1; omega)
      have hltl : k < l.length := by have := HN.out; omega
      have hc : w'.cell? (x.add k) = some (.int .u64 l[k]) := HR.out.num hltl
      have HU : Hid (U64 l[k]) := Lib.hid (HW.out _ (List.getElem_mem hltl))
      have HS := Lib.hid (evF_step p r l k)
      rw [getD_in hltl] at HS
      have HT := Lib.hid (powS_succ p r k)
      have HU1 := Lib.hid (u64_evF p r l k)
      have HU2 := Lib.hid (u64_powS p r k)
      generalize l[k] = a at *
      generalize evF p r l k = s at *
      generalize powS p r k = t at *
      go_wp2_with fail
      refine (r01_mul p a t _ HP.out HU.out HU2.out).mono ?_
      rintro e w3 ⟨rfl, rfl⟩
      go_wp2_with fail
      refine (r01_add p s (mulS p a t) _ HP.out HU1.out (u64_mulS _ _ _)).mono ?_
      rintro e w3 ⟨rfl, ⟨q2, rfl⟩⟩
      go_wp2_with fail
      refine (r01_mul p t r _ HP.out HU2.out HRU.out).mono ?_
      rintro e w3 ⟨rfl, rfl⟩
      go_wp2
      go_roundw
      case rel => exact ⟨k + 1, by omega, by go_num, by rw [HS.out], by rw [HT.out], ⟨_, rfl⟩⟩
      case measure => simp [intOf]; omega
    · have hke : k = n := by omega
      subst hke
      go_wp2
      go_ret2
      exact ⟨rfl, ⟨_, rfl⟩⟩
/-- Whether one of the first seeds is the same as the seed number k. -/
def metS (p : Int) (ss : List Int) (k j : Nat) : Bool := (ss.take j).any fun s => redS p s == redS p (ss.getD k 0)
theorem metS_zero (p : Int) (ss : List Int) (k : Nat) : metS p ss k 0 = false := by simp [metS]
theorem metS_succ (p : Int) (ss : List Int) (k : Nat) {j : Nat} (h : j < ss.length) : metS p ss k (j + 1) = (metS p ss k j || (redS p ss[j] == redS p (ss.getD k 0))) := by
  unfold metS
  rw [List.take_succ_eq_append_getElem h, List.any_append]
  simp
theorem metS_iff (p : Int) (ss : List Int) {k : Nat} (h : k < ss.length) : metS p ss k k = true ↔ ∃ j, j < k ∧ redS p (ss.getD j 0) = redS p (ss.getD k 0) := by
  unfold metS
  rw [List.any_eq_true]
  constructor
  · rintro ⟨s, hs, he⟩
    obtain ⟨j, hj, rfl⟩ := List.getElem_of_mem hs
    rw [List.length_take] at hj
    refine ⟨j, by omega, ?_⟩
    rw [getD_in (show j < ss.length by omega)]
    simpa using he
  · rintro ⟨j, hj, he⟩
    refine ⟨ss.getD j 0, ?_, by simpa using he⟩
    rw [getD_in (show j < ss.length by omega), List.mem_take_iff_getElem]
    exact ⟨j, by omega, rfl⟩
end Go.Proofs.YtnlmmgcjhedjkaaDoor.P
