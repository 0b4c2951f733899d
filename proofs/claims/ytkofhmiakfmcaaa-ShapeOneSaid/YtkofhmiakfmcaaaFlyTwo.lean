/- The contracts of package fly's two, three, four, five. Conditions: words of their kinds; the slices read as lists. -/
import Derived.Test.YtkofhmiakfmcaaaFlyPts
import Derived.Deep.RegionHeld3
namespace Go.Proofs.Ytkofhmiakfmcaaa.P
open Go.RowKit
set_option linter.unusedVariables false
set_option linter.unusedSimpArgs false
theorem keepc {w w' : World} {a : Addr} {v : Value} (hb : Below w.heap.size w w') (h : w.cell? a = some v) : w'.cell? a = some v := (hb.cell (World.block_lt_of_cell? w a h)).trans h
theorem keepa {w : World} {o : Obj} {a : Addr} {v : Value} (h : w.cell? a = some v) : (w.alloc o).cell? a = some v := keepc ((Below.refl _ _).alloc (Nat.le_refl _) _) h
theorem keep4 {w w' : World} {a b c d : Addr} {va vb vc vd : Value} (hb : Below w.heap.size w w') (h : w.cell? a = some va ∧ w.cell? b = some vb ∧ w.cell? c = some vc ∧ w.cell? d = some vd) :
    w'.cell? a = some va ∧ w'.cell? b = some vb ∧ w'.cell? c = some vc ∧ w'.cell? d = some vd := ⟨keepc hb h.1, keepc hb h.2.1, keepc hb h.2.2.1, keepc hb h.2.2.2⟩
theorem keep5 {w w' : World} {a b c d e : Addr} {va vb vc vd ve : Value} (hb : Below w.heap.size w w') (h : w.cell? a = some va ∧ w.cell? b = some vb ∧ w.cell? c = some vc ∧ w.cell? d = some vd ∧ w.cell? e = some ve) :
    w'.cell? a = some va ∧ w'.cell? b = some vb ∧ w'.cell? c = some vc ∧ w'.cell? d = some vd ∧ w'.cell? e = some ve := ⟨keepc hb h.1, keepc hb h.2.1, keepc hb h.2.2.1, keepc hb h.2.2.2.1, keepc hb h.2.2.2.2⟩
theorem keep6 {w w' : World} {a b c d e f : Addr} {va vb vc vd ve vf : Value} (hb : Below w.heap.size w w') (h : w.cell? a = some va ∧ w.cell? b = some vb ∧ w.cell? c = some vc ∧ w.cell? d = some vd ∧ w.cell? e = some ve ∧ w.cell? f = some vf) :
    w'.cell? a = some va ∧ w'.cell? b = some vb ∧ w'.cell? c = some vc ∧ w'.cell? d = some vd ∧ w'.cell? e = some ve ∧ w'.cell? f = some vf := ⟨keepc hb h.1, keepc hb h.2.1, keepc hb h.2.2.1, keepc hb h.2.2.2.1, keepc hb h.2.2.2.2.1, keepc hb h.2.2.2.2.2⟩
theorem blA {w W : World} (h : Below w.heap.size w W) (o : Obj) : Below w.heap.size w (W.alloc o) := h.alloc h.size o
theorem blD {w W : World} (h : Below w.heap.size w W) : Below w.heap.size w W.drew := below_drewN h 1
theorem blC {w W W' : World} (h : Below w.heap.size w W) (hb : Below W.heap.size W W') : Below w.heap.size w W' := h.trans (hb.mono h.size)
theorem own_lit (w : World) (B : Nat) (E : TypeId) (vs : List Value) (n : Nat) (hB : B ≤ w.heap.size) (hn : vs.length = n) (h : n ≤ 9223372036854775807) :
    Own (w.alloc (.cells vs.toArray E)) B E 1 (some ⟨w.heap.size, 0, none⟩) n n vs :=
  ⟨by simp [hn], .inr ⟨w.heap.size, n, vs.toArray, rfl, hB, heap_alloc_new w _, Nat.le_refl _, by unfold maxLen; omega, by simp [hn], by simp [List.take_of_length_le (Nat.le_of_eq hn)]⟩⟩
theorem row_new2 (w : World) (a b : Int) (t : TypeId) : Row (w.alloc (.cells #[.int .u64 a, .int .u64 b] t)) (some ⟨w.heap.size, 0, none⟩) (nums .u64 [a, b]) := row_new w [.int .u64 a, .int .u64 b] t
theorem row_new2e (w : World) (g : Nat) (a b : Int) (t : TypeId) (h : g = w.heap.size) : Row (w.alloc (.cells #[.int .u64 a, .int .u64 b] t)) (some ⟨g, 0, none⟩) (nums .u64 [a, b]) := by
  subst h; exact row_new2 w a b t
theorem Row.alloc {w : World} {A : Option Addr} {cs : List Value} (h : Row w A cs) (o : Obj) : Row (w.alloc o) A cs := h.below ((Below.refl _ _).alloc (Nat.le_refl _) _)
theorem Row.drew {w : World} {A : Option Addr} {cs : List Value} (h : Row w A cs) : Row w.drew A cs := h
set_option maxRecDepth 100000 in
set_option maxHeartbeats 4000000 in
theorem two_calls (p : Int) (W : Option Addr) (n c : Nat) (x : Addr) (ca : Nat) (x0 x1 : Int) (w : World) (hp : U64 p) (hr : Row w (some x) (nums .u64 [x0, x1])) (h0 : U64 x0) (h1 : U64 x1) :
    Calls Try.prog 102 #[wing p W n c, .slice (some x) 2 ca] w fun e w' => ∃ g b,
      e = .returned (.slice (some ⟨g, 0, none⟩) 2 b) ∧ Own w' w.heap.size 37 1 (some ⟨g, 0, none⟩) 2 b (nums .u64 (two p x0 x1)) ∧ Below w.heap.size w w' := by
  have HP := Lib.hid hp
  have H0 := Lib.hid h0
  have H1 := Lib.hid h1
  have HB : Hid (Below w.heap.size w (w.alloc (.cells #[.int .u64 p, .slice W n c] 99))) := Lib.hid ((Below.refl _ _).alloc (Nat.le_refl _) _)
  have HR := Lib.hid (hr.below HB.out)
  have hN : ∀ (i : Nat) (v : Value), #[Value.int .u64 p, .slice W n c].toList[i]? = some v → (w.alloc (.cells #[.int .u64 p, .slice W n c] 99)).cell? ((⟨w.heap.size, 0, none⟩ : Addr).add i) = some v := fun i v h => (row_new w [.int .u64 p, .slice W n c] 99).cell h
  have hc0 : (w.alloc (.cells #[.int .u64 p, .slice W n c] 99)).cell? ⟨w.heap.size, 0, none⟩ = some (.int .u64 p) := hN 0 _ rfl
  have hc1 : (w.alloc (.cells #[.int .u64 p, .slice W n c] 99)).cell? ⟨w.heap.size, 1, none⟩ = some (.slice W n c) := hN 1 _ rfl
  have hx0 : (w.alloc (.cells #[.int .u64 p, .slice W n c] 99)).cell? x = some (.int .u64 x0) := HR.out.cell (i := 0) rfl
  have hx1 : (w.alloc (.cells #[.int .u64 p, .slice W n c] 99)).cell? ⟨x.block, x.off + 1, none⟩ = some (.int .u64 x1) := HR.out.cell (i := 1) rfl
  clear hN hr hp h0 h1
  unfold wing
  go_enter Try.func102, Try.ntmps102
  go_wp2
  generalize hw1 : (w.alloc (.cells #[.int .u64 p, .slice W n c] 99)) = w1 at *
  generalize hH : w.heap.size = H at *
  go_region_held3 (fun w' => w'.cell? ⟨H, 0, none⟩ = some (.int .u64 p) ∧ w'.cell? ⟨H, 1, none⟩ = some (.slice W n c) ∧ w'.cell? x = some (.int .u64 x0) ∧ w'.cell? ⟨x.block, x.off + 1, none⟩ = some (.int .u64 x1))
    (first | exact keep4 (by assumption) (by assumption) | go_keep)
    (first
      | (go_at_call 109; (with_reducible refine (wadd_n p W n c _ 2 2 [x0, x1] _ rfl HP.out ?row (by decide) ?all).mono ?_); (case row => repeat (first | with_reducible exact row_new2 _ _ _ _ | refine Row.drew ?_ | refine Row.alloc ?_ _ | refine Row.below ?_ (by assumption))); (case all => simp [H0.out, H1.out]); rintro e w' ⟨rfl, hb⟩)
      | (go_at_call 110; refine (wsub_calls p W n c _ _ _ HP.out H0.out H1.out).mono ?_; rintro e w' ⟨rfl, hb⟩))
  subst hH
  go_wp2
  go_ret
  have hl : Below w.heap.size w w' := by repeat (first | exact HB.out | refine blA ?_ _ | refine blD ?_ | refine blC ?_ (by assumption))
  exact ⟨_, _, rfl, own_lit w' _ _ (nums .u64 (two p x0 x1)) 2 hl.size rfl (by omega), blA hl _⟩
set_option maxRecDepth 100000 in
set_option maxHeartbeats 4000000 in
theorem three_calls (p : Int) (y : Addr) (c : Nat) (x : Addr) (ca : Nat) (v0 v1 v2 x0 x1 x2 : Int) (w : World) (hp : U64 p) (hy : Row w (some y) (nums .u64 [v0, v1, v2])) (hr : Row w (some x) (nums .u64 [x0, x1, x2])) (hv : U64 v1) (h0 : U64 x0) (h1 : U64 x1) (h2 : U64 x2) :
    Calls Try.prog 103 #[wing p (some y) 3 c, .slice (some x) 3 ca] w fun e w' => ∃ g b,
      e = .returned (.slice (some ⟨g, 0, none⟩) 3 b) ∧ Own w' w.heap.size 37 1 (some ⟨g, 0, none⟩) 3 b (nums .u64 (three p v1 x0 x1 x2)) ∧ Below w.heap.size w w' := by
  have HP := Lib.hid hp
  have HV := Lib.hid hv
  have H0 := Lib.hid h0
  have H1 := Lib.hid h1
  have H2 := Lib.hid h2
  have HB : Hid (Below w.heap.size w (w.alloc (.cells #[.int .u64 p, .slice (some y) 3 c] 99))) := Lib.hid ((Below.refl _ _).alloc (Nat.le_refl _) _)
  have HR := Lib.hid (hr.below HB.out)
  have HY := Lib.hid (hy.below HB.out)
  have hN : ∀ (i : Nat) (v : Value), #[Value.int .u64 p, .slice (some y) 3 c].toList[i]? = some v → (w.alloc (.cells #[.int .u64 p, .slice (some y) 3 c] 99)).cell? ((⟨w.heap.size, 0, none⟩ : Addr).add i) = some v := fun i v h => (row_new w [.int .u64 p, .slice (some y) 3 c] 99).cell h
  have hc0 : (w.alloc (.cells #[.int .u64 p, .slice (some y) 3 c] 99)).cell? ⟨w.heap.size, 0, none⟩ = some (.int .u64 p) := hN 0 _ rfl
  have hc1 : (w.alloc (.cells #[.int .u64 p, .slice (some y) 3 c] 99)).cell? ⟨w.heap.size, 1, none⟩ = some (.slice (some y) 3 c) := hN 1 _ rfl
  have hx0 : (w.alloc (.cells #[.int .u64 p, .slice (some y) 3 c] 99)).cell? x = some (.int .u64 x0) := HR.out.cell (i := 0) rfl
  have hx1 : (w.alloc (.cells #[.int .u64 p, .slice (some y) 3 c] 99)).cell? ⟨x.block, x.off + 1, none⟩ = some (.int .u64 x1) := HR.out.cell (i := 1) rfl
  have hx2 : (w.alloc (.cells #[.int .u64 p, .slice (some y) 3 c] 99)).cell? ⟨x.block, x.off + 2, none⟩ = some (.int .u64 x2) := HR.out.cell (i := 2) rfl
  have hy1 : (w.alloc (.cells #[.int .u64 p, .slice (some y) 3 c] 99)).cell? ⟨y.block, y.off + 1, none⟩ = some (.int .u64 v1) := HY.out.cell (i := 1) rfl
  clear hN hr hp h0 h1 h2 hv hy HY
  unfold wing
  go_enter Try.func103, Try.ntmps103
  go_wp2
  generalize hw1 : (w.alloc (.cells #[.int .u64 p, .slice (some y) 3 c] 99)) = w1 at *
  generalize hH : w.heap.size = H at *
  go_region_held3 (fun w' => w'.cell? ⟨H, 0, none⟩ = some (.int .u64 p) ∧ w'.cell? ⟨H, 1, none⟩ = some (.slice (some y) 3 c) ∧ w'.cell? ⟨x.block, x.off + 1, none⟩ = some (.int .u64 x1) ∧ w'.cell? ⟨x.block, x.off + 2, none⟩ = some (.int .u64 x2) ∧ w'.cell? ⟨y.block, y.off + 1, none⟩ = some (.int .u64 v1))
    (first | exact keep5 (by assumption) (by assumption) | go_keep)
    (first
      | (go_at_call 111; refine (wmul_calls p (some y) 3 c _ _ _ HP.out (u64_subS _ _ _) HV.out).mono ?_; rintro e w' ⟨rfl, hb⟩)
      | (go_at_call 110; refine (wsub_calls p (some y) 3 c _ _ _ HP.out H1.out H2.out).mono ?_; rintro e w' ⟨rfl, hb⟩))
  have hb2 : Below w1.heap.size w1 w' := by repeat (first | exact Below.refl _ _ | refine blA ?_ _ | refine blD ?_ | refine blC ?_ (by assumption))
  have HB2 := Lib.hid hb2
  have HR2 := Lib.hid (HR.out.below hb2)
  have hc0 := keepc hb2 hc0
  have hc1 := keepc hb2 hc1
  have hx0 := keepc hb2 hx0
  have hx1 := keepc hb2 hx1
  have hx2 := keepc hb2 hx2
  clear hb2 hb
  go_wp2
  have HT := Lib.hid (u64_mulS p (subS p x1 x2) v1)
  have HF : Hid (three p v1 x0 x1 x2 = [addL p [x0, x1, x2], addL p [subS p x0 x2, mulS p (subS p x1 x2) v1], subS p (subS p x0 x1) (mulS p (subS p x1 x2) v1)]) := Lib.hid rfl
  generalize mulS p (subS p x1 x2) v1 = t at *
  go_region_held3 (fun w' => w'.cell? ⟨H, 0, none⟩ = some (.int .u64 p) ∧ w'.cell? ⟨H, 1, none⟩ = some (.slice (some y) 3 c) ∧ w'.cell? x = some (.int .u64 x0) ∧ w'.cell? ⟨x.block, x.off + 1, none⟩ = some (.int .u64 x1) ∧ w'.cell? ⟨x.block, x.off + 2, none⟩ = some (.int .u64 x2))
    (first | exact keep5 (by assumption) (by assumption) | go_keep)
    (first
      | (go_at_call 109; (with_reducible refine (wadd_n p (some y) 3 c _ 3 ca [x0, x1, x2] _ rfl HP.out ?row (by decide) ?all).mono ?_); (case row => repeat (first | exact HR2.out | refine Row.drew ?_ | refine Row.alloc ?_ _ | refine Row.below ?_ (by assumption))); (case all => simp [H0.out, H1.out, H2.out]); rintro e w' ⟨rfl, hb⟩)
      | (go_at_call 109; (with_reducible refine (wadd_n p (some y) 3 c _ 2 2 [subS p x0 x2, t] _ rfl HP.out ?row (by decide) ?all).mono ?_); (case row => repeat (first | with_reducible exact row_new2 _ _ _ _ | refine Row.drew ?_ | refine Row.alloc ?_ _ | refine Row.below ?_ (by assumption))); (case all => simp [u64_subS, HT.out]); rintro e w' ⟨rfl, hb⟩)
      | (go_at_call 110; refine (wsub_calls p (some y) 3 c _ _ _ HP.out ?ha ?hb).mono ?_; (case ha => first | with_reducible exact H0.out | with_reducible exact u64_subS _ _ _); (case hb => first | with_reducible exact H1.out | with_reducible exact H2.out | with_reducible exact HT.out); rintro e w' ⟨rfl, hb⟩))
  subst hH
  go_wp2
  go_ret
  have hl : Below w.heap.size w w' := by repeat (first | exact HB.out.trans (HB2.out.mono HB.out.size) | refine blA ?_ _ | refine blD ?_ | refine blC ?_ (by assumption))
  exact ⟨_, _, rfl, by rw [HF.out]; exact own_lit w' _ _ (nums .u64 [addL p [x0, x1, x2], addL p [subS p x0 x2, t], subS p (subS p x0 x1) t]) 3 hl.size rfl (by omega), blA hl _⟩
end Go.Proofs.Ytkofhmiakfmcaaa.P
