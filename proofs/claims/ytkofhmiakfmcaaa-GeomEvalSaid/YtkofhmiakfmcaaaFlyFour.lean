/- The contract of package fly's four. Conditions: words of their kinds; the slices read as lists. -/
import Derived.Test.YtkofhmiakfmcaaaFlyTwo
namespace Go.Proofs.Ytkofhmiakfmcaaa.P
open Go.RowKit
set_option linter.unusedVariables false
set_option linter.unusedSimpArgs false
set_option maxRecDepth 100000 in
set_option maxHeartbeats 4000000 in
theorem four_calls (p : Int) (y : Addr) (c : Nat) (x : Addr) (ca : Nat) (v0 v1 v2 v3 x0 x1 x2 x3 : Int) (w : World) (hp : U64 p) (hy : Row w (some y) (nums .u64 [v0, v1, v2, v3])) (hr : Row w (some x) (nums .u64 [x0, x1, x2, x3])) (hv : U64 v1) (h0 : U64 x0) (h1 : U64 x1) (h2 : U64 x2) (h3 : U64 x3) :
    Calls Try.prog 104 #[wing p (some y) 4 c, .slice (some x) 4 ca] w fun e w' => ∃ g b,
      e = .returned (.slice (some ⟨g, 0, none⟩) 4 b) ∧ Own w' w.heap.size 37 1 (some ⟨g, 0, none⟩) 4 b (nums .u64 (four p v1 x0 x1 x2 x3)) ∧ Below w.heap.size w w' := by
  have HP := Lib.hid hp
  have HV := Lib.hid hv
  have H0 := Lib.hid h0
  have H1 := Lib.hid h1
  have H2 := Lib.hid h2
  have H3 := Lib.hid h3
  have HB : Hid (Below w.heap.size w (w.alloc (.cells #[.int .u64 p, .slice (some y) 4 c] 99))) := Lib.hid ((Below.refl _ _).alloc (Nat.le_refl _) _)
  have HR := Lib.hid (hr.below HB.out)
  have HY := Lib.hid (hy.below HB.out)
  have hN : ∀ (i : Nat) (v : Value), #[Value.int .u64 p, .slice (some y) 4 c].toList[i]? = some v → (w.alloc (.cells #[.int .u64 p, .slice (some y) 4 c] 99)).cell? ((⟨w.heap.size, 0, none⟩ : Addr).add i) = some v := fun i v h => (row_new w [.int .u64 p, .slice (some y) 4 c] 99).cell h
  have hc0 : (w.alloc (.cells #[.int .u64 p, .slice (some y) 4 c] 99)).cell? ⟨w.heap.size, 0, none⟩ = some (.int .u64 p) := hN 0 _ rfl
  have hc1 : (w.alloc (.cells #[.int .u64 p, .slice (some y) 4 c] 99)).cell? ⟨w.heap.size, 1, none⟩ = some (.slice (some y) 4 c) := hN 1 _ rfl
  have hx0 : (w.alloc (.cells #[.int .u64 p, .slice (some y) 4 c] 99)).cell? x = some (.int .u64 x0) := HR.out.cell (i := 0) rfl
  have hx1 : (w.alloc (.cells #[.int .u64 p, .slice (some y) 4 c] 99)).cell? ⟨x.block, x.off + 1, none⟩ = some (.int .u64 x1) := HR.out.cell (i := 1) rfl
  have hx2 : (w.alloc (.cells #[.int .u64 p, .slice (some y) 4 c] 99)).cell? ⟨x.block, x.off + 2, none⟩ = some (.int .u64 x2) := HR.out.cell (i := 2) rfl
  have hx3 : (w.alloc (.cells #[.int .u64 p, .slice (some y) 4 c] 99)).cell? ⟨x.block, x.off + 3, none⟩ = some (.int .u64 x3) := HR.out.cell (i := 3) rfl
  have hy1 : (w.alloc (.cells #[.int .u64 p, .slice (some y) 4 c] 99)).cell? ⟨y.block, y.off + 1, none⟩ = some (.int .u64 v1) := HY.out.cell (i := 1) rfl
  clear hN hr hp h0 h1 h2 h3 hv hy HY
  unfold wing
  go_enter Try.func104, Try.ntmps104
  go_wp2
  generalize hw1 : (w.alloc (.cells #[.int .u64 p, .slice (some y) 4 c] 99)) = w1 at *
  generalize hH : w.heap.size = H at *
  go_region_held3 (fun w' => w'.cell? ⟨H, 0, none⟩ = some (.int .u64 p) ∧ w'.cell? ⟨H, 1, none⟩ = some (.slice (some y) 4 c) ∧ w'.cell? x = some (.int .u64 x0) ∧ w'.cell? ⟨x.block, x.off + 1, none⟩ = some (.int .u64 x1) ∧ w'.cell? ⟨x.block, x.off + 2, none⟩ = some (.int .u64 x2) ∧ w'.cell? ⟨x.block, x.off + 3, none⟩ = some (.int .u64 x3))
    (first | exact keep6 (by assumption) (by assumption) | go_keep)
    (first
      | (go_at_call 102; (with_reducible refine (two_calls p (some y) 4 c _ 2 x0 x2 _ HP.out ?row H0.out H2.out).mono ?_); (case row => repeat (first | (with_reducible exact row_new2 _ _ _ _) | ((with_reducible refine row_new2e _ _ _ _ _ ?_); simp; done) | (with_reducible refine Row.drew ?_) | (with_reducible refine Row.alloc ?_ _) | (with_reducible refine Row.below ?_ (by assumption)))); rintro e w2 ⟨gE, bE, rfl, hoE, hbE⟩)
      | (go_at_call 102; (with_reducible refine (two_calls p (some y) 4 c _ 2 x1 x3 _ HP.out ?row H1.out H3.out).mono ?_); (case row => repeat (first | (with_reducible exact row_new2 _ _ _ _) | ((with_reducible refine row_new2e _ _ _ _ _ ?_); simp; done) | (with_reducible refine Row.drew ?_) | (with_reducible refine Row.alloc ?_ _) | (with_reducible refine Row.below ?_ (by assumption)))); rintro e w3 ⟨gO, bO, rfl, hoO, hbO⟩))
  all_goals
    have h23 : Below w2.heap.size w2 w3 := by repeat (first | with_reducible exact Below.refl _ _ | with_reducible refine blA ?_ _ | with_reducible refine blD ?_ | refine blC ?_ (by assumption))
    have hb2 : Below w1.heap.size w1 w3 := by
      clear h23
      repeat (first | with_reducible exact Below.refl _ _ | with_reducible refine blA ?_ _ | with_reducible refine blD ?_ | refine blC ?_ (by assumption))
    have hE := (hoE.grown h23).row
    have hO := hoO.row
    have HB2 := Lib.hid hb2
    have hc0 := keepc hb2 hc0
    have hc1 := keepc hb2 hc1
    have hy1 := keepc hb2 hy1
    have he0 : w3.cell? ⟨gE, 0, none⟩ = some (.int .u64 (addL p [x0, x2])) := hE.cell (i := 0) rfl
    have he1 : w3.cell? ⟨gE, 1, none⟩ = some (.int .u64 (subS p x0 x2)) := hE.cell (i := 1) rfl
    have ho0 : w3.cell? ⟨gO, 0, none⟩ = some (.int .u64 (addL p [x1, x3])) := hO.cell (i := 0) rfl
    have ho1 : w3.cell? ⟨gO, 1, none⟩ = some (.int .u64 (subS p x1 x3)) := hO.cell (i := 1) rfl
    clear hb2 h23 hE hO hoE hbE hoO hbO hx0 hx1 hx2 hx3
    go_wp2
    go_region_held3 (fun w' => w'.cell? ⟨H, 0, none⟩ = some (.int .u64 p) ∧ w'.cell? ⟨H, 1, none⟩ = some (.slice (some y) 4 c) ∧ w'.cell? ⟨gO, 1, none⟩ = some (.int .u64 (subS p x1 x3)) ∧ w'.cell? ⟨y.block, y.off + 1, none⟩ = some (.int .u64 v1))
      (first | exact keep4 (by assumption) (by assumption) | go_keep)
      (first
        | (go_at_call 111; refine (wmul_calls p (some y) 4 c _ _ _ HP.out (u64_subS _ _ _) HV.out).mono ?_; rintro e w4 ⟨rfl, hb4⟩))
    have hb5 : Below w3.heap.size w3 w4 := by repeat (first | with_reducible exact Below.refl _ _ | with_reducible refine blA ?_ _ | with_reducible refine blD ?_ | refine blC ?_ (by assumption))
    have HB5 : Hid (Below w1.heap.size w1 w4) := Lib.hid (blC HB2.out hb5)
    have hc0 := keepc hb5 hc0
    have hc1 := keepc hb5 hc1
    have he0 := keepc hb5 he0
    have he1 := keepc hb5 he1
    have ho0 := keepc hb5 ho0
    clear hb5 hb4 HB2 hy1 ho1
    go_wp2
    have HT := Lib.hid (u64_mulS p (subS p x1 x3) v1)
    have HF : Hid (four p v1 x0 x1 x2 x3 = [addL p [addL p [x0, x2], addL p [x1, x3]], addL p [subS p x0 x2, mulS p (subS p x1 x3) v1], subS p (addL p [x0, x2]) (addL p [x1, x3]), subS p (subS p x0 x2) (mulS p (subS p x1 x3) v1)]) := Lib.hid rfl
    have HE0 := Lib.hid (u64_addL p [x0, x2])
    have HE1 := Lib.hid (u64_subS p x0 x2)
    have HO0 := Lib.hid (u64_addL p [x1, x3])
    generalize mulS p (subS p x1 x3) v1 = t at *
    generalize addL p [x0, x2] = e0 at *
    generalize addL p [x1, x3] = o0 at *
    generalize subS p x0 x2 = e1 at *
    go_region_held3 (fun w' => w'.cell? ⟨H, 0, none⟩ = some (.int .u64 p) ∧ w'.cell? ⟨H, 1, none⟩ = some (.slice (some y) 4 c) ∧ w'.cell? ⟨gE, 0, none⟩ = some (.int .u64 e0) ∧ w'.cell? ⟨gE, 1, none⟩ = some (.int .u64 e1) ∧ w'.cell? ⟨gO, 0, none⟩ = some (.int .u64 o0))
      (first | exact keep5 (by assumption) (by assumption) | go_keep)
      (first
        | (go_at_call 109; (with_reducible refine (wadd_n p (some y) 4 c _ 2 2 [e0, o0] _ rfl HP.out ?row (by decide) ?all).mono ?_); (case row => repeat (first | (with_reducible exact row_new2 _ _ _ _) | ((with_reducible refine row_new2e _ _ _ _ _ ?_); simp; done) | (with_reducible refine Row.drew ?_) | (with_reducible refine Row.alloc ?_ _) | (with_reducible refine Row.below ?_ (by assumption)))); (case all => simp [HE0.out, HO0.out]); rintro e w5 ⟨rfl, hb5⟩)
        | (go_at_call 109; (with_reducible refine (wadd_n p (some y) 4 c _ 2 2 [e1, t] _ rfl HP.out ?row (by decide) ?all).mono ?_); (case row => repeat (first | (with_reducible exact row_new2 _ _ _ _) | ((with_reducible refine row_new2e _ _ _ _ _ ?_); simp; done) | (with_reducible refine Row.drew ?_) | (with_reducible refine Row.alloc ?_ _) | (with_reducible refine Row.below ?_ (by assumption)))); (case all => simp [HE1.out, HT.out]); rintro e w5 ⟨rfl, hb6⟩)
        | (go_at_call 110; (with_reducible refine (wsub_calls p (some y) 4 c e0 o0 _ HP.out HE0.out HO0.out).mono ?_); rintro e w5 ⟨rfl, hb7⟩)
        | (go_at_call 110; (with_reducible refine (wsub_calls p (some y) 4 c e1 t _ HP.out HE1.out HT.out).mono ?_); rintro e w6 ⟨rfl, hb8⟩))
    all_goals
      subst hH
      go_wp2
      go_ret
      have hl : Below w.heap.size w w6 := by repeat (first | with_reducible exact HB.out.trans (HB5.out.mono HB.out.size) | with_reducible refine blA ?_ _ | with_reducible refine blD ?_ | refine blC ?_ (by assumption))
      exact ⟨_, _, rfl, by rw [HF.out]; exact own_lit w6 _ _ (nums .u64 [addL p [e0, o0], addL p [e1, t], subS p e0 o0, subS p e1 t]) 4 hl.size rfl (by omega), blA hl _⟩
end Go.Proofs.Ytkofhmiakfmcaaa.P
