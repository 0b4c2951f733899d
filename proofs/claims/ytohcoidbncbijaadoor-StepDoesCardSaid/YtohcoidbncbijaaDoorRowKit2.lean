
/- From a row's arguments to lists: slices of structs. Under no condition beside those of each lemma. -/
import Derived.Deep.Slices
import Derived.Deep.Strs
import Derived.Test.YtohcoidbncbijaaDoorRowKit
import Derived.Test.YtohcoidbncbijaaDoorShapeB
namespace Go.Proofs.YtohcoidbncbijaaDoor.P
open Go.ChangeShapes Go.WideShapes Go.ChangeAt Go.RowKit Go.Deep
set_option linter.unusedVariables false
/-- A slice of structs that came in, as a list. -/
theorem open_elems {α : Type} (f : α → List Value) (Good : α → Prop) (s : Nat) (s0 : 0 < s) (hs : ∀ a, (f a).length = s) {H : Type} {enc : TypeId × Value → H} {P : Program} {W : World} {r : Reach} {b0 : Nat} {base : Nat} {spare : Nat → Bool} {held : Bool} {t e : TypeId} {v : Value} {d : DataW H} {ps : List MemPlace} {ts : List TypeId} {ds : List (DataW H)} {j : Nat}
    (hv : Value.okWide P W r b0 t v) (hsz : (DataW.weightsEach P ts ds).all (· ≤ reachBytes) = true) (ht : ts[j]? = some t) (hd : ds[j]? = some d) (hu : P.underlying t = some (.slice e)) (hc : P.cellsOf e = s) {B : Nat} (hB : P.bytesOf e = B)
    (hel : ∀ n cs x, cs.length = s → DataW.trod enc P W base spare held n e cs = some x → ∃ a, cs = f a ∧ Good a)
    (h : DataW.Trod enc P W base spare held t v d ps) :
    ∃ (A : Option Addr) (c : Nat) (l : List α), v = .slice A l.length c ∧ Row W A (l.flatMap f) ∧ l.length * B ≤ 140737488351232 ∧ l.length ≤ c ∧ l.length ≤ 9223372036854775807 ∧ ∀ x ∈ l, Good x := by
  obtain ⟨a, len, cap, rfl⟩ := okWide_slice hu hv
  obtain ⟨fuel, hf⟩ := h
  rcases open_slice hu hf with ⟨hcs, _⟩ | ⟨x, len', cap', m, n, D, Pl, hcs, hb, hl, hm, hmm, hx, hcell⟩
  · simp [Value.cells] at hcs
    obtain ⟨rfl, rfl, rfl⟩ := hcs
    exact ⟨none, 0, [], rfl, .inl rfl, by simp, by simp, by simp, by simp⟩
  · simp [Value.cells] at hcs
    obtain ⟨rfl, rfl, rfl⟩ := hcs
    obtain ⟨hx, _⟩ := Prod.mk.inj hx
    subst hx
    have z := sized_slice hsz ht hd hu
    rw [hB, List.length_map, List.length_range, List.length_map, List.length_range] at z
    have hlm : len ≤ m := by rw [hmm]; split <;> omega
    have each : ∀ i, i < len → ∃ q : α, (∀ j, j < s → W.cell? (x.add (i * s + j)) = (f q)[j]?) ∧ Good q := by
      intro i hi
      obtain ⟨cs', h1, h2⟩ := hcell i (by omega)
      rw [hc] at h1
      obtain ⟨_, hlen, hcells⟩ := World.cells?_some h1
      obtain ⟨q, hq, hg⟩ := hel _ _ _ hlen h2
      refine ⟨q, fun j hj => ?_, hg⟩
      have e0 := hcells j hj
      rw [add_add] at e0
      rw [e0, hq]
    obtain ⟨g, hg⟩ : ∃ g : Fin len → α, ∀ i : Fin len, (∀ j, j < s → W.cell? (x.add (i.1 * s + j)) = (f (g i))[j]?) ∧ Good (g i) := ⟨fun i => (each i.1 i.2).choose, fun i => (each i.1 i.2).choose_spec⟩
    have hlen : (List.ofFn g).length = len := by simp
    refine ⟨some x, cap, List.ofFn g, by rw [hlen], .inr ⟨x, rfl, fun i u hi => ?_⟩, ?_, by rw [hlen]; exact hl, by rw [hlen]; unfold maxLen at hm; omega, fun y hy => ?_⟩
    · have hi' : i < len * s := by
        rcases Nat.lt_or_ge i (len * s) with h | h
        · exact h
        · rw [List.getElem?_eq_none (by rw [flat_len f s hs, hlen]; exact h)] at hi; cases hi
      have hq : i / s < len := Nat.div_lt_of_lt_mul (by rw [Nat.mul_comm]; exact hi')
      have hr : i % s < s := Nat.mod_lt _ s0
      have e : i / s * s + i % s = i := by rw [Nat.mul_comm]; exact Nat.div_add_mod i s
      have h1 := flat_get f s hs (List.ofFn g) (i / s) (by rw [hlen]; exact hq) (i % s) hr
      rw [e, hi] at h1
      have h2 := (hg ⟨i / s, hq⟩).1 (i % s) hr
      rw [show (⟨i / s, hq⟩ : Fin len).1 * s + i % s = i from e] at h2
      rw [h2, h1]
      simp
    · rw [hlen]; exact Nat.le_trans (Nat.mul_le_mul_right _ (by omega)) z
    · rw [List.mem_ofFn] at hy
      obtain ⟨i, rfl⟩ := hy
      exact (hg i).2
theorem open_axes {H : Type} {enc : TypeId × Value → H} {P : Program} {W : World} {r : Reach} {b0 : Nat} {base : Nat} {spare : Nat → Bool} {held : Bool} {t e : TypeId} {v : Value} {d : DataW H} {ps : List MemPlace} {ts : List TypeId} {ds : List (DataW H)} {j : Nat} {f0 f1 : Field}
    (hv : Value.okWide P W r b0 t v) (hsz : (DataW.weightsEach P ts ds).all (· ≤ reachBytes) = true) (ht : ts[j]? = some t) (hd : ds[j]? = some d) (hu : P.underlying t = some (.slice e)) (he : P.underlying e = some (.struct #[f0, f1])) (hc : P.cellsOf e = 2) {B : Nat} (hB : P.bytesOf e = B)
    (o0 : f0.offset = 0) (o1 : f1.offset = 1) (c0 : P.cellsOf f0.type = 1) (c1 : P.cellsOf f1.type = 1) (k0 : P.underlying f0.type = some (.int .i64)) (k1 : P.underlying f1.type = some .bool)
    (h : DataW.Trod enc P W base spare held t v d ps) :
    ∃ (A : Option Addr) (c : Nat) (l : List (Int × Bool)), v = .slice A l.length c ∧ Row W A (axR l) ∧ l.length * B ≤ 140737488351232 ∧ l.length ≤ c ∧ l.length ≤ 9223372036854775807 ∧ ∀ x ∈ l, (Lit.int .i64 x.1).wf = true := by
  refine open_elems axC (fun x => (Lit.int .i64 x.1).wf = true) 2 (by decide) (fun _ => rfl) hv hsz ht hd hu hc hB ?_ h
  intro n cs x hl ht
  obtain ⟨xs, k, hk, hxy, _, hxl, hf⟩ := DataW.trod_struct he ht
  match xs, hxl, cs, hl with
  | [y0, y1], _, [v0, v1], _ =>
    have g0 := hf 0 f0 rfl
    have g1 := hf 1 f1 rfl
    simp [o0, o1, c0, c1] at g0 g1
    obtain ⟨z, hz, _, hw⟩ := DataW.trod_int k0 g0
    obtain ⟨b, hb, _⟩ := DataW.trod_bool k1 g1
    simp at hz hb
    subst hz hb
    exact ⟨(z, b), rfl, hw⟩
theorem open_stages {H : Type} {enc : TypeId × Value → H} {P : Program} {W : World} {r : Reach} {b0 : Nat} {base : Nat} {spare : Nat → Bool} {held : Bool} {t e : TypeId} {v : Value} {d : DataW H} {ps : List MemPlace} {ts : List TypeId} {ds : List (DataW H)} {j : Nat} {f0 f1 f2 : Field}
    (hv : Value.okWide P W r b0 t v) (hsz : (DataW.weightsEach P ts ds).all (· ≤ reachBytes) = true) (ht : ts[j]? = some t) (hd : ds[j]? = some d) (hu : P.underlying t = some (.slice e)) (he : P.underlying e = some (.struct #[f0, f1, f2])) (hc : P.cellsOf e = 3) {B : Nat} (hB : P.bytesOf e = B)
    (o0 : f0.offset = 0) (o1 : f1.offset = 1) (o2 : f2.offset = 2) (c0 : P.cellsOf f0.type = 1) (c1 : P.cellsOf f1.type = 1) (c2 : P.cellsOf f2.type = 1) (k0 : P.underlying f0.type = some (.int .i64)) (k1 : P.underlying f1.type = some (.int .i64)) (k2 : P.underlying f2.type = some (.int .i64))
    (h : DataW.Trod enc P W base spare held t v d ps) :
    ∃ (A : Option Addr) (c : Nat) (l : List (Int × Int × Int)), v = .slice A l.length c ∧ Row W A (stR3 l) ∧ l.length * B ≤ 140737488351232 ∧ l.length ≤ c ∧ l.length ≤ 9223372036854775807 ∧
      ∀ x ∈ l, (Lit.int .i64 x.1).wf = true ∧ (Lit.int .i64 x.2.1).wf = true ∧ (Lit.int .i64 x.2.2).wf = true := by
  refine open_elems stC3 (fun x => (Lit.int .i64 x.1).wf = true ∧ (Lit.int .i64 x.2.1).wf = true ∧ (Lit.int .i64 x.2.2).wf = true) 3 (by decide) (fun _ => rfl) hv hsz ht hd hu hc hB ?_ h
  intro n cs x hl ht
  obtain ⟨xs, k, hk, hxy, _, hxl, hf⟩ := DataW.trod_struct he ht
  match xs, hxl, cs, hl with
  | [y0, y1, y2], _, [v0, v1, v2], _ =>
    have g0 := hf 0 f0 rfl
    have g1 := hf 1 f1 rfl
    have g2 := hf 2 f2 rfl
    simp [o0, o1, o2, c0, c1, c2] at g0 g1 g2
    obtain ⟨z0, hz0, _, hw0⟩ := DataW.trod_int k0 g0
    obtain ⟨z1, hz1, _, hw1⟩ := DataW.trod_int k1 g1
    obtain ⟨z2, hz2, _, hw2⟩ := DataW.trod_int k2 g2
    simp at hz0 hz1 hz2
    subst hz0 hz1 hz2
    exact ⟨(z0, z1, z2), rfl, hw0, hw1, hw2⟩
end Go.Proofs.YtohcoidbncbijaaDoor.P
