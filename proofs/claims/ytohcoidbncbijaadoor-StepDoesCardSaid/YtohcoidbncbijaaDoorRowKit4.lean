
/- From a row's arguments to numbers and lists: structs by value with slices, or a struct, among their fields. Under no condition beside those of each lemma. -/
import Derived.Lib.SmallJoins
import Derived.Test.YtohcoidbncbijaaDoorRowKit3
import Derived.Test.YtohcoidbncbijaaDoorPlQ
namespace Go.Proofs.YtohcoidbncbijaaDoor.P
open Go.ChangeShapes Go.WideShapes Go.ChangeAt Go.RowKit Go.Deep Go.Joins
set_option linter.unusedVariables false
/-- A slice of structs that came in, as a list. -/
theorem open_elemsX {α : Type} (f : α → List Value) (Good : α → Prop) (s : Nat) (s0 : 0 < s) (hs : ∀ a, (f a).length = s) {H : Type} {enc : TypeId × Value → H} {P : Program} {W : World} {base : Nat} {spare : Nat → Bool} {held : Bool} {t e : TypeId} {v : Value} {d : DataW H} {ps : List MemPlace} {ts : List TypeId} {ds : List (DataW H)} {j : Nat}
    (hv : ∃ (a : Option Addr) (len cap : Nat), v = .slice a len cap) (hsz : (DataW.weightsEach P ts ds).all (· ≤ reachBytes) = true) (ht : ts[j]? = some t) (hd : ds[j]? = some d) (hu : P.underlying t = some (.slice e)) (hc : P.cellsOf e = s) {B : Nat} (hB : P.bytesOf e = B)
    (hel : ∀ n cs x, cs.length = s → DataW.trod enc P W base spare held n e cs = some x → ∃ a, cs = f a ∧ Good a)
    (h : DataW.Trod enc P W base spare held t v d ps) :
    ∃ (A : Option Addr) (c : Nat) (l : List α), v = .slice A l.length c ∧ Row W A (l.flatMap f) ∧ l.length * B ≤ 140737488351232 ∧ l.length ≤ c ∧ l.length ≤ 9223372036854775807 ∧ ∀ x ∈ l, Good x := by
  obtain ⟨a, len, cap, rfl⟩ := hv
  obtain ⟨fuel, hf⟩ := h
  rcases open_slice hu hf with ⟨hcs, _⟩ | ⟨x, len', cap', m, n, D, Pl, hcs, hb, hl, hm, hmm, hx, hcell⟩
  · simp [Value.cells] at hcs
    obtain ⟨rfl, rfl, rfl⟩ := hcs
    exact ⟨none, 0, [], rfl, .inl rfl, by simp, by simp, by simp, by simp⟩
  · simp [Value.cells] at hcs
    obtain ⟨rfl, rfl, rfl⟩ := hcs
    obtain ⟨hx, _⟩ := Prod.mk.inj hx
    subst hx
    have z := sized_slice hsz ht hd hu
    rw [hB, List.length_map, List.length_range, List.length_map, List.length_range] at z
    have hlm : len ≤ m := by rw [hmm]; split <;> omega
    have each : ∀ i, i < len → ∃ q : α, (∀ j, j < s → W.cell? (x.add (i * s + j)) = (f q)[j]?) ∧ Good q := by
      intro i hi
      obtain ⟨cs', h1, h2⟩ := hcell i (by omega)
      rw [hc] at h1
      obtain ⟨_, hlen, hcells⟩ := World.cells?_some h1
      obtain ⟨q, hq, hg⟩ := hel _ _ _ hlen h2
      refine ⟨q, fun j hj => ?_, hg⟩
      have e0 := hcells j hj
      rw [add_add] at e0
      rw [e0, hq]
    obtain ⟨g, hg⟩ : ∃ g : Fin len → α, ∀ i : Fin len, (∀ j, j < s → W.cell? (x.add (i.1 * s + j)) = (f (g i))[j]?) ∧ Good (g i) := ⟨fun i => (each i.1 i.2).choose, fun i => (each i.1 i.2).choose_spec⟩
    have hlen : (List.ofFn g).length = len := by simp
    refine ⟨some x, cap, List.ofFn g, by rw [hlen], .inr ⟨x, rfl, fun i u hi => ?_⟩, ?_, by rw [hlen]; exact hl, by rw [hlen]; unfold maxLen at hm; omega, fun y hy => ?_⟩
    · have hi' : i < len * s := by
        rcases Nat.lt_or_ge i (len * s) with h | h
        · exact h
        · rw [List.getElem?_eq_none (by rw [flat_len f s hs, hlen]; exact h)] at hi; cases hi
      have hq : i / s < len := Nat.div_lt_of_lt_mul (by rw [Nat.mul_comm]; exact hi')
      have hr : i % s < s := Nat.mod_lt _ s0
      have e : i / s * s + i % s = i := by rw [Nat.mul_comm]; exact Nat.div_add_mod i s
      have h1 := flat_get f s hs (List.ofFn g) (i / s) (by rw [hlen]; exact hq) (i % s) hr
      rw [e, hi] at h1
      have h2 := (hg ⟨i / s, hq⟩).1 (i % s) hr
      rw [show (⟨i / s, hq⟩ : Fin len).1 * s + i % s = i from e] at h2
      rw [h2, h1]
      simp
    · rw [hlen]; exact Nat.le_trans (Nat.mul_le_mul_right _ (by omega)) z
    · rw [List.mem_ofFn] at hy
      obtain ⟨i, rfl⟩ := hy
      exact (hg i).2
theorem open_axesX {H : Type} {enc : TypeId × Value → H} {P : Program} {W : World} {base : Nat} {spare : Nat → Bool} {held : Bool} {t e : TypeId} {v : Value} {d : DataW H} {ps : List MemPlace} {ts : List TypeId} {ds : List (DataW H)} {j : Nat} {f0 f1 : Field}
    (hv : ∃ (a : Option Addr) (len cap : Nat), v = .slice a len cap) (hsz : (DataW.weightsEach P ts ds).all (· ≤ reachBytes) = true) (ht : ts[j]? = some t) (hd : ds[j]? = some d) (hu : P.underlying t = some (.slice e)) (he : P.underlying e = some (.struct #[f0, f1])) (hc : P.cellsOf e = 2) {B : Nat} (hB : P.bytesOf e = B)
    (o0 : f0.offset = 0) (o1 : f1.offset = 1) (c0 : P.cellsOf f0.type = 1) (c1 : P.cellsOf f1.type = 1) (k0 : P.underlying f0.type = some (.int .i64)) (k1 : P.underlying f1.type = some .bool)
    (h : DataW.Trod enc P W base spare held t v d ps) :
    ∃ (A : Option Addr) (c : Nat) (l : List (Int × Bool)), v = .slice A l.length c ∧ Row W A (axR l) ∧ l.length * B ≤ 140737488351232 ∧ l.length ≤ c ∧ l.length ≤ 9223372036854775807 ∧ ∀ x ∈ l, (Lit.int .i64 x.1).wf = true := by
  refine open_elemsX axC (fun x => (Lit.int .i64 x.1).wf = true) 2 (by decide) (fun _ => rfl) hv hsz ht hd hu hc hB ?_ h
  intro n cs x hl ht
  obtain ⟨xs, k, hk, hxy, _, hxl, hf⟩ := DataW.trod_struct he ht
  match xs, hxl, cs, hl with
  | [y0, y1], _, [v0, v1], _ =>
    have g0 := hf 0 f0 rfl
    have g1 := hf 1 f1 rfl
    simp [o0, o1, c0, c1] at g0 g1
    obtain ⟨z, hz, _, hw⟩ := DataW.trod_int k0 g0
    obtain ⟨b, hb, _⟩ := DataW.trod_bool k1 g1
    simp at hz hb
    subst hz hb
    exact ⟨(z, b), rfl, hw⟩
/-- A slice of whole numbers among a struct's fields. -/
theorem open_numsX {H : Type} {enc : TypeId × Value → H} {P : Program} {W : World} {base : Nat} {spare : Nat → Bool} {held : Bool} {t e : TypeId} {v : Value} {d : DataW H} {ps : List MemPlace} {ts : List TypeId} {ds : List (DataW H)} {j : Nat} {k : IntKind}
    (hv : ∃ (a : Option Addr) (len cap : Nat), v = .slice a len cap) (hsz : (DataW.weightsEach P ts ds).all (· ≤ reachBytes) = true) (ht : ts[j]? = some t) (hd : ds[j]? = some d) (hu : P.underlying t = some (.slice e)) (he : P.underlying e = some (.int k)) (hc : P.cellsOf e = 1) {B : Nat} (hB : P.bytesOf e = B)
    (h : DataW.Trod enc P W base spare held t v d ps) :
    ∃ (A : Option Addr) (c : Nat) (l : List Int), v = .slice A l.length c ∧ Row W A (nums k l) ∧ l.length * B ≤ 140737488351232 ∧ l.length ≤ c ∧ l.length ≤ 9223372036854775807 ∧ ∀ x ∈ l, (Lit.int k x).wf = true := by
  obtain ⟨A, c, l, h1, h2, h3⟩ := open_elemsX (fun x : Int => [.int k x]) (fun x => (Lit.int k x).wf = true) 1 (by decide) (fun _ => rfl) hv hsz ht hd hu hc hB (by
    intro n cs x hl ht
    match cs, hl with
    | [v0], _ =>
      obtain ⟨z, hz, _, hw⟩ := DataW.trod_int he ht
      simp at hz
      subst hz
      exact ⟨z, rfl, hw⟩) h
  refine ⟨A, c, l, h1, ?_, h3⟩
  have e : ∀ l : List Int, l.flatMap (fun x : Int => [Value.int k x]) = nums k l := fun l => by
    induction l with
    | nil => rfl
    | cons a l ih => rw [List.flatMap_cons, ih]; rfl
  rw [← e]; exact h2
theorem all_weights {H : Type} {P : Program} {ts : List TypeId} {ds : List (DataW H)} {j : Nat} {t : TypeId} {fs : Array Field} {parts : List (DataW H)} (hsz : (DataW.weightsEach P ts ds).all (· ≤ reachBytes) = true) (ht : ts[j]? = some t) (hd : ds[j]? = some (.agg parts))
    (hu : P.underlying t = some (.struct fs)) : (DataW.weightsEach P (fs.toList.map (·.type)) parts).all (· ≤ reachBytes) = true := by
  rw [List.all_eq_true] at hsz ⊢
  intro n hn
  refine hsz n (DataW.weights_mem_each ht hd n ?_)
  rw [DataW.weights, hu]
  exact hn
/-- A cell that reads as a slice is one. -/
theorem slice_cell {H : Type} {enc : TypeId × Value → H} {P : Program} {W : World} {base : Nat} {spare : Nat → Bool} {held : Bool} {t e : TypeId} {n : Nat} {c : Value} {x : DataW H × List MemPlace} (hu : P.underlying t = some (.slice e)) (h : DataW.trod enc P W base spare held n t [c] = some x) :
    (∃ (a : Option Addr) (len cap : Nat), c = .slice a len cap) ∧ DataW.Trod enc P W base spare held t c x.1 x.2 := by
  have hs : ∃ (a : Option Addr) (len cap : Nat), c = .slice a len cap := by
    rcases open_slice hu h with ⟨hcs, _⟩ | ⟨y, len, cap, m, n, D, Pl, hcs, _⟩
    · exact ⟨none, 0, 0, List.head_eq_of_cons_eq hcs⟩
    · exact ⟨some y, len, cap, List.head_eq_of_cons_eq hcs⟩
  refine ⟨hs, n, ?_⟩
  obtain ⟨a, len, cap, rfl⟩ := hs
  exact h
theorem rk_list8 {α : Type} {l : List α} (h : l.length = 8) : ∃ a b c d e f g i, l = [a, b, c, d, e, f, g, i] := by
  match l, h with
  | [a, b, c, d, e, f, g, i], _ => exact ⟨a, b, c, d, e, f, g, i, rfl⟩
theorem rk_list5 {α : Type} {l : List α} (h : l.length = 5) : ∃ a b c d e, l = [a, b, c, d, e] := by
  match l, h with
  | [a, b, c, d, e], _ => exact ⟨a, b, c, d, e, rfl⟩
theorem rk_list3 {α : Type} {l : List α} (h : l.length = 3) : ∃ a b c, l = [a, b, c] := by
  match l, h with
  | [a, b, c], _ => exact ⟨a, b, c, rfl⟩
/-- A request by value that came in. -/
theorem open_req {H : Type} {enc : TypeId × Value → H} {P : Program} {W : World} {r : Reach} {b0 : Nat} {base : Nat} {spare : Nat → Bool} {held : Bool} {t : TypeId} {v : Value} {d : DataW H} {ps : List MemPlace} {ts : List TypeId} {ds : List (DataW H)} {j : Nat} {f0 f1 f2 f3 f4 f5 f6 f7 g0 g1 : Field} {e1 e4 e5 : TypeId}
    (hv : Value.okWide P W r b0 t v) (hsz : (DataW.weightsEach P ts ds).all (· ≤ reachBytes) = true) (ht : ts[j]? = some t) (hd : ds[j]? = some d) (hu : P.underlying t = some (.struct #[f0, f1, f2, f3, f4, f5, f6, f7])) (hone : oneCellFields P #[f0, f1, f2, f3, f4, f5, f6, f7] = true) (hC : P.cellsOf t = 8)
    (k0 : P.underlying f0.type = some (.int .u64)) (k1 : P.underlying f1.type = some (.slice e1)) (k2 : P.underlying f2.type = some .bool) (k3 : P.underlying f3.type = some (.int .i64)) (k4 : P.underlying f4.type = some (.slice e4)) (k5 : P.underlying f5.type = some (.slice e5)) (k6 : P.underlying f6.type = some (.int .i64)) (k7 : P.underlying f7.type = some (.int .i64))
    (he1 : P.underlying e1 = some (.struct #[g0, g1])) (hc1 : P.cellsOf e1 = 2) (hB1 : P.bytesOf e1 = 16) (o0 : g0.offset = 0) (o1 : g1.offset = 1) (c0 : P.cellsOf g0.type = 1) (c1 : P.cellsOf g1.type = 1) (l0 : P.underlying g0.type = some (.int .i64)) (l1 : P.underlying g1.type = some .bool)
    (he4 : P.underlying e4 = some (.int .u64)) (hc4 : P.cellsOf e4 = 1) (hB4 : P.bytesOf e4 = 8) (he5 : P.underlying e5 = some (.int .u64)) (hc5 : P.cellsOf e5 = 1) (hB5 : P.bytesOf e5 = 8)
    (h : DataW.Trod enc P W base spare held t v d ps) :
    ∃ (p : Int) (A : Option Addr) (ca : Nat) (ax : List (Int × Bool)) (inv : Bool) (b : Int) (X : Option Addr) (cx : Nat) (x : List Int) (S : Option Addr) (cs : Nat) (sd : List Int) (rt ag : Int),
      v = .agg #[.int .u64 p, .slice A ax.length ca, .bool inv, .int .i64 b, .slice X x.length cx, .slice S sd.length cs, .int .i64 rt, .int .i64 ag] ∧ (Lit.int .u64 p).wf = true ∧ (Lit.int .i64 b).wf = true ∧ (Lit.int .i64 rt).wf = true ∧ (Lit.int .i64 ag).wf = true ∧
      (Row W A (axR ax) ∧ ax.length * 16 ≤ 140737488351232 ∧ ax.length ≤ ca ∧ ax.length ≤ 9223372036854775807 ∧ ∀ x ∈ ax, (Lit.int .i64 x.1).wf = true) ∧
      (Row W X (nums .u64 x) ∧ x.length * 8 ≤ 140737488351232 ∧ x.length ≤ cx ∧ x.length ≤ 9223372036854775807 ∧ ∀ y ∈ x, (Lit.int .u64 y).wf = true) ∧
      (Row W S (nums .u64 sd) ∧ sd.length * 8 ≤ 140737488351232 ∧ sd.length ≤ cs ∧ sd.length ≤ 9223372036854775807 ∧ ∀ y ∈ sd, (Lit.int .u64 y).wf = true) := by
  obtain ⟨cs, rfl, hcs⟩ := okWide_struct hu hv
  obtain ⟨fuel, hf⟩ := h
  obtain ⟨xs, n, _, hx, _, hlen, hfs⟩ := DataW.trod_struct hu hf
  obtain ⟨l⟩ := cs
  obtain ⟨v0, v1, v2, v3, v4, v5, v6, v7, rfl⟩ := rk_list8 (l := l) (by rw [hC] at hcs; simpa using hcs)
  obtain ⟨y0, y1, y2, y3, y4, y5, y6, y7, rfl⟩ := rk_list8 hlen
  have hd2 : d = .agg [y0.1, y1.1, y2.1, y3.1, y4.1, y5.1, y6.1, y7.1] := (Prod.mk.inj hx).1
  subst hd2
  have hw := all_weights hsz ht hd hu
  obtain ⟨p0, q0⟩ := hone_of hone 0 f0 rfl
  obtain ⟨p1, q1⟩ := hone_of hone 1 f1 rfl
  obtain ⟨p2, q2⟩ := hone_of hone 2 f2 rfl
  obtain ⟨p3, q3⟩ := hone_of hone 3 f3 rfl
  obtain ⟨p4, q4⟩ := hone_of hone 4 f4 rfl
  obtain ⟨p5, q5⟩ := hone_of hone 5 f5 rfl
  obtain ⟨p6, q6⟩ := hone_of hone 6 f6 rfl
  obtain ⟨p7, q7⟩ := hone_of hone 7 f7 rfl
  have i0 : DataW.trod enc P W base spare held n f0.type [v0] = some y0 := by simpa [Value.cells, p0, q0] using hfs 0 f0 rfl
  have i1 : DataW.trod enc P W base spare held n f1.type [v1] = some y1 := by simpa [Value.cells, p1, q1] using hfs 1 f1 rfl
  have i2 : DataW.trod enc P W base spare held n f2.type [v2] = some y2 := by simpa [Value.cells, p2, q2] using hfs 2 f2 rfl
  have i3 : DataW.trod enc P W base spare held n f3.type [v3] = some y3 := by simpa [Value.cells, p3, q3] using hfs 3 f3 rfl
  have i4 : DataW.trod enc P W base spare held n f4.type [v4] = some y4 := by simpa [Value.cells, p4, q4] using hfs 4 f4 rfl
  have i5 : DataW.trod enc P W base spare held n f5.type [v5] = some y5 := by simpa [Value.cells, p5, q5] using hfs 5 f5 rfl
  have i6 : DataW.trod enc P W base spare held n f6.type [v6] = some y6 := by simpa [Value.cells, p6, q6] using hfs 6 f6 rfl
  have i7 : DataW.trod enc P W base spare held n f7.type [v7] = some y7 := by simpa [Value.cells, p7, q7] using hfs 7 f7 rfl
  obtain ⟨z0, m0, _, w0⟩ := DataW.trod_int k0 i0
  obtain ⟨z2, m2, _⟩ := DataW.trod_bool k2 i2
  obtain ⟨z3, m3, _, w3⟩ := DataW.trod_int k3 i3
  obtain ⟨z6, m6, _, w6⟩ := DataW.trod_int k6 i6
  obtain ⟨z7, m7, _, w7⟩ := DataW.trod_int k7 i7
  simp at m0 m2 m3 m6 m7
  subst m0 m2 m3 m6 m7
  obtain ⟨s1, t1⟩ := slice_cell k1 i1
  obtain ⟨s4, t4⟩ := slice_cell k4 i4
  obtain ⟨s5, t5⟩ := slice_cell k5 i5
  obtain ⟨A, ca, ax, rfl, gA⟩ := open_axesX s1 hw (j := 1) rfl rfl k1 he1 hc1 hB1 o0 o1 c0 c1 l0 l1 t1
  obtain ⟨X, cx, x, rfl, gX⟩ := open_numsX s4 hw (j := 4) rfl rfl k4 he4 hc4 hB4 t4
  obtain ⟨S, cs, sd, rfl, gS⟩ := open_numsX s5 hw (j := 5) rfl rfl k5 he5 hc5 hB5 t5
  exact ⟨z0, A, ca, ax, z2, z3, X, cx, x, S, cs, sd, z6, z7, rfl, w0, w3, w6, w7, gA, gX, gS⟩
/-- A step by value that came in. -/
theorem open_stp {H : Type} {enc : TypeId × Value → H} {P : Program} {W : World} {r : Reach} {b0 : Nat} {base : Nat} {spare : Nat → Bool} {held : Bool} {t : TypeId} {v : Value} {d : DataW H} {ps : List MemPlace} {f0 f1 f2 g0 g1 g2 : Field}
    (hv : Value.okWide P W r b0 t v) (hu : P.underlying t = some (.struct #[f0, f1, f2])) (hC : P.cellsOf t = 5) (o0 : f0.offset = 0) (o1 : f1.offset = 1) (o2 : f2.offset = 2) (c0 : P.cellsOf f0.type = 1) (c1 : P.cellsOf f1.type = 1) (c2 : P.cellsOf f2.type = 3)
    (k0 : P.underlying f0.type = some (.int .i64)) (k1 : P.underlying f1.type = some .bool) (k2 : P.underlying f2.type = some (.struct #[g0, g1, g2]))
    (r0 : g0.offset = 0) (r1 : g1.offset = 1) (r2 : g2.offset = 2) (d0 : P.cellsOf g0.type = 1) (d1 : P.cellsOf g1.type = 1) (d2 : P.cellsOf g2.type = 1) (l0 : P.underlying g0.type = some (.int .i64)) (l1 : P.underlying g1.type = some (.int .i64)) (l2 : P.underlying g2.type = some (.int .i64))
    (h : DataW.Trod enc P W base spare held t v d ps) :
    ∃ s : Stp, v = .agg #[.int .i64 s.1, .bool s.2.1, .int .i64 s.2.2.1, .int .i64 s.2.2.2.1, .int .i64 s.2.2.2.2] ∧ (Lit.int .i64 s.1).wf = true ∧ (Lit.int .i64 s.2.2.1).wf = true ∧ (Lit.int .i64 s.2.2.2.1).wf = true ∧ (Lit.int .i64 s.2.2.2.2).wf = true := by
  obtain ⟨cs, rfl, hcs⟩ := okWide_struct hu hv
  obtain ⟨fuel, hf⟩ := h
  obtain ⟨xs, n, _, hx, _, hlen, hfs⟩ := DataW.trod_struct hu hf
  obtain ⟨l⟩ := cs
  obtain ⟨v0, v1, v2, v3, v4, rfl⟩ := rk_list5 (l := l) (by rw [hC] at hcs; simpa using hcs)
  obtain ⟨y0, y1, y2, rfl⟩ := rk_list3 hlen
  have i0 : DataW.trod enc P W base spare held n f0.type [v0] = some y0 := by simpa [Value.cells, o0, c0] using hfs 0 f0 rfl
  have i1 : DataW.trod enc P W base spare held n f1.type [v1] = some y1 := by simpa [Value.cells, o1, c1] using hfs 1 f1 rfl
  have i2 : DataW.trod enc P W base spare held n f2.type [v2, v3, v4] = some y2 := by simpa [Value.cells, o2, c2] using hfs 2 f2 rfl
  obtain ⟨xs2, n2, _, _, _, hlen2, hf2⟩ := DataW.trod_struct k2 i2
  obtain ⟨u0, u1, u2, rfl⟩ := rk_list3 hlen2
  have j0 : DataW.trod enc P W base spare held n2 g0.type [v2] = some u0 := by simpa [r0, d0] using hf2 0 g0 rfl
  have j1 : DataW.trod enc P W base spare held n2 g1.type [v3] = some u1 := by simpa [r1, d1] using hf2 1 g1 rfl
  have j2 : DataW.trod enc P W base spare held n2 g2.type [v4] = some u2 := by simpa [r2, d2] using hf2 2 g2 rfl
  obtain ⟨z0, m0, _, w0⟩ := DataW.trod_int k0 i0
  obtain ⟨z1, m1, _⟩ := DataW.trod_bool k1 i1
  obtain ⟨z2, m2, _, w2⟩ := DataW.trod_int l0 j0
  obtain ⟨z3, m3, _, w3⟩ := DataW.trod_int l1 j1
  obtain ⟨z4, m4, _, w4⟩ := DataW.trod_int l2 j2
  simp at m0 m1 m2 m3 m4
  subst m0 m1 m2 m3 m4
  exact ⟨(z0, z1, z2, z3, z4), rfl, w0, w2, w3, w4⟩
end Go.Proofs.YtohcoidbncbijaaDoor.P
