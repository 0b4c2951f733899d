/- Several texts as one: RgA, RgB, RgC. Conditions: those of each lemma. -/
import Derived.Test.YtohcoidbncbijaaDoorSgQ
import Derived.Test.YtohcoidbncbijaaDoorStK
import Derived.Test.YtohcoidbncbijaaDoorRound3
/- What is kept while a list of groups grows, and a group's three lists; the contract of brackenref16.Same. Conditions: slices read as lists. -/
namespace Go.Proofs.YtohcoidbncbijaaDoor.P
open Go.RowKit
set_option linter.unusedVariables false
set_option linter.unusedSimpArgs false
/-- The block of a slice. -/
def MZ (Z : Option Addr) : World → Nat → Prop := fun _ b => ∃ x, Z = some x ∧ x.block = b
abbrev RowZ (Z : Option Addr) (w : World) (A : Option Addr) (cs : List Value) : Prop := RowM (MZ Z) w A cs
theorem RowZ.free {w : World} {A : Option Addr} {cs : List Value} (h : Row w A cs) : RowZ .none w A cs := RowM.of h fun _ _ h2 => by obtain ⟨_, h3, _⟩ := h2; cases h3
theorem kpZ_below {Z : Option Addr} {w w' : World} (hb : Below w.heap.size w w') : Kp (MZ Z) w w' := ⟨hb.size, fun b hlt hm => ⟨hb.block b hlt, hm⟩⟩
theorem RowZ.below {Z : Option Addr} {w w' : World} {A : Option Addr} {cs : List Value} (h : RowZ Z w A cs) (hb : Below w.heap.size w w') : RowZ Z w' A cs := h.kp (kpZ_below hb)
theorem RowZ.new {Z : Option Addr} {w' : World} {B : Nat} {E : TypeId} {s n c : Nat} {A : Option Addr} {cs : List Value} (hz : ∀ x, Z = some x → x.block < B) (ho : Own w' B E s A n c cs) : RowZ Z w' A cs :=
  RowM.of ho.row fun x hx h2 => by
    obtain ⟨y, h3, h4⟩ := h2
    have h5 := ho.from' x hx
    have h6 := hz y h3
    omega
/-- The groups so far: the list of them, and each one's lists, which lie elsewhere. -/
structure InvR (B : Nat) (G : Nat → Grp) (r g : Nat) (Z : Option Addr) (c : Nat) (ws : World) : Prop where
  ex : ∃ hs, Own ws B 72 3 Z g c (hgR r hs) ∧ hs.length = g ∧
    ∀ i (h : i < hs.length), RowZ Z ws hs[i].A (nums .i64 (G i).1) ∧ RowZ Z ws hs[i].B (nums .i64 (G i).2.1) ∧ RowZ Z ws hs[i].C (nums .i64 (G i).2.2)
theorem InvR.start (B : Nat) (G : Nat → Grp) (r : Nat) (ws : World) : InvR B G r 0 none 0 ws := ⟨[], Own.nil _ _ _ _, rfl, fun i h => by simp at h⟩
theorem InvR.fresh {B : Nat} {G : Nat → Grp} {r g : Nat} {Z : Option Addr} {c : Nat} {ws w' : World} (h : InvR B G r g Z c ws) (hb : Below ws.heap.size ws w') : InvR B G r g Z c w' := by
  obtain ⟨hs, h1, h2, h3⟩ := h.ex
  exact ⟨hs, h1.grown hb, h2, fun i hi => ⟨(h3 i hi).1.below hb, (h3 i hi).2.1.below hb, (h3 i hi).2.2.below hb⟩⟩
theorem InvR.lt {B : Nat} {G : Nat → Grp} {r g : Nat} {Z : Option Addr} {c : Nat} {ws : World} (h : InvR B G r g Z c ws) : ∀ x, Z = some x → x.block < ws.heap.size := fun x hx => by
  obtain ⟨hs, h1, _⟩ := h.ex
  subst hx
  exact (World.ownsRow.lt h1 x.block rfl).2
theorem kpZ_push {Z : Option Addr} {n c gb : Nat} {w w' : World} (hg : w.grownBy w' (Value.slice Z n c).ownBlock) (hl : (Value.slice Z n c).ownBlock = some gb ∨ gb = w.heap.size) :
    ∀ b, b < w.heap.size → ¬ MZ Z w b → w'.heap[b]? = w.heap[b]? ∧ ¬ MZ (some ⟨gb, 0, none⟩) w' b := by
  intro b hb hm
  have hne : ∀ x, Z = some x → x.block ≠ b := fun x hx e => hm ⟨x, hx, e⟩
  refine ⟨hg.block b hb fun e => ?_, ?_⟩
  · rcases Z with _ | x
    · simp [Value.ownBlock] at e
    · have e2 : b = x.block := by simpa [Value.ownBlock] using e
      exact hne x rfl e2.symm
  · rintro ⟨x, hx, e⟩
    cases hx
    dsimp only at e
    rcases hl with h1 | h1
    · rcases Z with _ | x
      · simp [Value.ownBlock] at h1
      · have e2 : x.block = gb := by simpa [Value.ownBlock] using h1
        exact hne x rfl (by omega)
    · omega
theorem RowZ.push {Z : Option Addr} {n c gb : Nat} {w w' : World} (hg : w.grownBy w' (Value.slice Z n c).ownBlock) (hl : (Value.slice Z n c).ownBlock = some gb ∨ gb = w.heap.size) {A : Option Addr} {cs : List Value} (h : RowZ Z w A cs) : RowZ (some ⟨gb, 0, none⟩) w' A cs := by
  have hk := kpZ_push hg hl
  rcases h with h1 | ⟨x, hx, hm, hc⟩
  · exact .inl h1
  · rcases cs with _ | ⟨u0, cs⟩
    · exact .inl rfl
    · have h0 := World.block_lt_of_cell? w _ (hc 0 u0 rfl)
      rw [add_block] at h0
      obtain ⟨k1, k2⟩ := hk x.block h0 hm
      exact .inr ⟨x, hx, k2, fun i u hi => (World.cell?_of_block (w := w) (by rw [add_block]; exact k1)).trans (hc i u hi)⟩
/-- A group more. -/
theorem InvR.push {B : Nat} {G : Nat → Grp} {r g : Nat} {Z : Option Addr} {c gb cap : Nat} {w w' : World} {hs : List HG} {A1 B1 C1 : Option Addr} {ca cb cc : Nat}
    (h2 : hs.length = g) (h3 : ∀ i (h : i < hs.length), RowZ Z w hs[i].A (nums .i64 (G i).1) ∧ RowZ Z w hs[i].B (nums .i64 (G i).2.1) ∧ RowZ Z w hs[i].C (nums .i64 (G i).2.2))
    (ra : RowZ Z w A1 (nums .i64 (G g).1)) (rb : RowZ Z w B1 (nums .i64 (G g).2.1)) (rc : RowZ Z w C1 (nums .i64 (G g).2.2))
    (ho : Own w' B 72 3 (some ⟨gb, 0, none⟩) (g + 1) cap (hgR r hs ++ hgC r ⟨A1, B1, C1, ca, cb, cc⟩)) (hg : w.grownBy w' (Value.slice Z g c).ownBlock) (hl : (Value.slice Z g c).ownBlock = some gb ∨ gb = w.heap.size) :
    InvR B G r (g + 1) (some ⟨gb, 0, none⟩) cap w' := by
  refine ⟨hs ++ [⟨A1, B1, C1, ca, cb, cc⟩], by rw [hgR_append, hgR_one]; exact ho, by simp [h2], fun i hi => ?_⟩
  by_cases hil : i < hs.length
  · rw [List.getElem_append_left hil]
    obtain ⟨q1, q2, q3⟩ := h3 i hil
    exact ⟨q1.push hg hl, q2.push hg hl, q3.push hg hl⟩
  · have hie : i = g := by simp at hi; omega
    subst hie
    rw [List.getElem_append_right (by omega)]
    simp only [h2, Nat.sub_self, List.getElem_cons_zero]
    exact ⟨ra.push hg hl, rb.push hg hl, rc.push hg hl⟩
theorem own_other {w w' : World} {B : Nat} {E : TypeId} {s n c : Nat} {A : Option Addr} {cs : List Value} (h : Own w B E s A n c cs) {Z : Option Addr} {m d : Nat} (hg : w.grownBy w' (Value.slice Z m d).ownBlock) (hne : ∀ x y, Z = some x → A = some y → x.block ≠ y.block) : Own w' B E s A n c cs := by
  refine ⟨h.1, ?_⟩
  rcases h.2 with ⟨hv, hr⟩ | ⟨g2, cap, cur, hv, hB, hh, r⟩
  · exact .inl ⟨hv, hr⟩
  · have hlt := (Own.base (g := g2) (by cases hv; exact h)).2
    refine .inr ⟨g2, cap, cur, hv, hB, ?_, r⟩
    rw [hg.block g2 hlt fun e => ?_]
    · exact hh
    · cases hv
      rcases Z with _ | x
      · simp [Value.ownBlock] at e
      · have e2 : g2 = x.block := by simpa [Value.ownBlock] using e
        exact hne x _ rfl rfl e2.symm
/-- A group in a box, its three lists under way. -/
structure Tri (gb : Nat) (A B C : Option Addr) (na ca nb cb nc cc : Nat) (x y z : List Int) (ws : World) : Prop where
  box : Own ws gb 72 1 (some ⟨gb, 0, none⟩) 3 3 [.slice A na ca, .slice B nb cb, .slice C nc cc]
  a : Own ws (gb + 1) 3 1 A na ca (nums .i64 x)
  b : Own ws (gb + 1) 3 1 B nb cb (nums .i64 y)
  c : Own ws (gb + 1) 3 1 C nc cc (nums .i64 z)
  ab : ∀ u v, A = some u → B = some v → u.block ≠ v.block
  ac : ∀ u v, A = some u → C = some v → u.block ≠ v.block
  bc : ∀ u v, B = some u → C = some v → u.block ≠ v.block
theorem Tri.fresh {gb : Nat} {A B C : Option Addr} {na ca nb cb nc cc : Nat} {x y z : List Int} {ws w' : World} (h : Tri gb A B C na ca nb cb nc cc x y z ws) (hb : Below ws.heap.size ws w') : Tri gb A B C na ca nb cb nc cc x y z w' :=
  ⟨h.box.grown hb, h.a.grown hb, h.b.grown hb, h.c.grown hb, h.ab, h.ac, h.bc⟩
theorem apart_new {A C : Option Addr} {n c g : Nat} {w : World} (hl : (Value.slice A n c).ownBlock = some g ∨ g = w.heap.size) (hac : ∀ u v, A = some u → C = some v → u.block ≠ v.block) (hc : ∀ v, C = some v → v.block < w.heap.size) :
    ∀ u v, (some ⟨g, 0, none⟩ : Option Addr) = some u → C = some v → u.block ≠ v.block := by
  intro u v hu hv e
  cases hu
  dsimp only at e
  rcases hl with h1 | h1
  · rcases A with _ | x
    · simp [Value.ownBlock] at h1
    · have e2 : x.block = g := by simpa [Value.ownBlock] using h1
      exact hac x v rfl hv (by omega)
  · have := hc v hv
    omega
theorem own_lt {w : World} {B : Nat} {E : TypeId} {s n c : Nat} {A : Option Addr} {cs : List Value} (h : Own w B E s A n c cs) : ∀ v, A = some v → v.block < w.heap.size := fun v hv => by
  subst hv; exact (World.ownsRow.lt h v.block rfl).2
theorem Tri.pushA {gb : Nat} {A B C : Option Addr} {na ca nb cb nc cc : Nat} {x y z : List Int} {ws w' : World} (h : Tri gb A B C na ca nb cb nc cc x y z ws) {g cap : Nat} {v : Int}
    (ho : Own w' (gb + 1) 3 1 (some ⟨g, 0, none⟩) (na + 1) cap (nums .i64 x ++ [.int .i64 v])) (hb : Below (gb + 1) ws w') (hg : ws.grownBy w' (Value.slice A na ca).ownBlock) (hl : (Value.slice A na ca).ownBlock = some g ∨ g = ws.heap.size) :
    Tri gb (some ⟨g, 0, none⟩) B C (na + 1) cap nb cb nc cc (x ++ [v]) y z (w'.setCell ⟨gb, 0, none⟩ (.slice (some ⟨g, 0, none⟩) (na + 1) cap)) := by
  have hx := h.box.keepBelow (S := gb + 1) (by omega) hb
  have s1 := hx.stored 0 (.slice (some ⟨g, 0, none⟩) (na + 1) cap)
  refine ⟨by simpa using s1, ?_, ((own_other h.b hg h.ab).setBelow (Nat.lt_succ_self _) _), ((own_other h.c hg h.ac).setBelow (Nat.lt_succ_self _) _), apart_new hl h.ab (own_lt h.b), apart_new hl h.ac (own_lt h.c), h.bc⟩
  have h1 := ho.setBelow (p := ⟨gb, 0, none⟩) (Nat.lt_succ_self _) (.slice (some ⟨g, 0, none⟩) (na + 1) cap)
  rw [show nums .i64 (x ++ [v]) = nums .i64 x ++ [.int .i64 v] by simp [nums]]
  exact h1
theorem Tri.pushB {gb : Nat} {A B C : Option Addr} {na ca nb cb nc cc : Nat} {x y z : List Int} {ws w' : World} (h : Tri gb A B C na ca nb cb nc cc x y z ws) {g cap : Nat} {v : Int}
    (ho : Own w' (gb + 1) 3 1 (some ⟨g, 0, none⟩) (nb + 1) cap (nums .i64 y ++ [.int .i64 v])) (hb : Below (gb + 1) ws w') (hg : ws.grownBy w' (Value.slice B nb cb).ownBlock) (hl : (Value.slice B nb cb).ownBlock = some g ∨ g = ws.heap.size) :
    Tri gb A (some ⟨g, 0, none⟩) C na ca (nb + 1) cap nc cc x (y ++ [v]) z (w'.setCell ⟨gb, 1, none⟩ (.slice (some ⟨g, 0, none⟩) (nb + 1) cap)) := by
  have hx := h.box.keepBelow (S := gb + 1) (by omega) hb
  have s1 := hx.stored 1 (.slice (some ⟨g, 0, none⟩) (nb + 1) cap)
  have hba : ∀ u v, B = some u → A = some v → u.block ≠ v.block := fun u v h1 h2 e => h.ab v u h2 h1 e.symm
  refine ⟨by simpa using s1, ((own_other h.a hg hba).setBelow (Nat.lt_succ_self _) _), ?_, ((own_other h.c hg h.bc).setBelow (Nat.lt_succ_self _) _), fun u v h1 h2 e => apart_new hl hba (own_lt h.a) v u h2 h1 e.symm, h.ac, apart_new hl h.bc (own_lt h.c)⟩
  have h1 := ho.setBelow (p := ⟨gb, 1, none⟩) (Nat.lt_succ_self _) (.slice (some ⟨g, 0, none⟩) (nb + 1) cap)
  rw [show nums .i64 (y ++ [v]) = nums .i64 y ++ [.int .i64 v] by simp [nums]]
  exact h1
theorem Tri.pushC {gb : Nat} {A B C : Option Addr} {na ca nb cb nc cc : Nat} {x y z : List Int} {ws w' : World} (h : Tri gb A B C na ca nb cb nc cc x y z ws) {g cap : Nat} {v : Int}
    (ho : Own w' (gb + 1) 3 1 (some ⟨g, 0, none⟩) (nc + 1) cap (nums .i64 z ++ [.int .i64 v])) (hb : Below (gb + 1) ws w') (hg : ws.grownBy w' (Value.slice C nc cc).ownBlock) (hl : (Value.slice C nc cc).ownBlock = some g ∨ g = ws.heap.size) :
    Tri gb A B (some ⟨g, 0, none⟩) na ca nb cb (nc + 1) cap x y (z ++ [v]) (w'.setCell ⟨gb, 2, none⟩ (.slice (some ⟨g, 0, none⟩) (nc + 1) cap)) := by
  have hx := h.box.keepBelow (S := gb + 1) (by omega) hb
  have s1 := hx.stored 2 (.slice (some ⟨g, 0, none⟩) (nc + 1) cap)
  have hca : ∀ u v, C = some u → A = some v → u.block ≠ v.block := fun u v h1 h2 e => h.ac v u h2 h1 e.symm
  have hcb : ∀ u v, C = some u → B = some v → u.block ≠ v.block := fun u v h1 h2 e => h.bc v u h2 h1 e.symm
  refine ⟨by simpa using s1, ((own_other h.a hg hca).setBelow (Nat.lt_succ_self _) _), ((own_other h.b hg hcb).setBelow (Nat.lt_succ_self _) _), ?_, h.ab, fun u v h1 h2 e => apart_new hl hca (own_lt h.a) v u h2 h1 e.symm, fun u v h1 h2 e => apart_new hl hcb (own_lt h.b) v u h2 h1 e.symm⟩
  have h1 := ho.setBelow (p := ⟨gb, 2, none⟩) (Nat.lt_succ_self _) (.slice (some ⟨g, 0, none⟩) (nc + 1) cap)
  rw [show nums .i64 (z ++ [v]) = nums .i64 z ++ [.int .i64 v] by simp [nums]]
  exact h1
theorem drawn0_more {w wr : World} (h : Drawn0 w wr) (k : Nat) : Drawn0 w (wr.drewN k) := by
  obtain ⟨q, rfl⟩ := h
  exact ⟨q + k, World.drewN_drewN w q k⟩
theorem sints_yes (A B : Option Addr) (n ca cb : Nat) (l : List Int) (w : World) (hn : l.length = n) (hl : n ≤ 100000) (ha : Row w A (nums .i64 l)) (hb : Row w B (nums .i64 l)) :
    Calls Tryd.prog 92 #[.slice A n ca, .slice B n cb] w fun e w' => e = .returned (.bool true) ∧ Drawn0 w w' := by
  subst hn
  refine (sameInts_calls A B ca cb l l w ha (by omega) hb).mono ?_
  rw [show decide (l = l) = true from decide_eq_true rfl]
  exact fun e w' h => h
set_option maxRecDepth 100000 in
set_option maxHeartbeats 4000000 in
/-- Two lists of the same groups are the same. -/
theorem same16_calls (X Y : Option Addr) (cx cy r cnt : Nat) (hs ks : List HG) (G : Nat → Grp) (w : World) (hc : cnt ≤ 100000) (hx : Row w X (hgR r hs)) (hy : Row w Y (hgR r ks)) (lx : hs.length = cnt) (ly : ks.length = cnt)
    (hG : ∀ i, i < cnt → (G i).1.length = r ∧ (G i).2.1.length = r ∧ (G i).2.2.length = r) (hr : r ≤ 100000)
    (gx : ∀ i (h : i < hs.length), Row w hs[i].A (nums .i64 (G i).1) ∧ Row w hs[i].B (nums .i64 (G i).2.1) ∧ Row w hs[i].C (nums .i64 (G i).2.2))
    (gy : ∀ i (h : i < ks.length), Row w ks[i].A (nums .i64 (G i).1) ∧ Row w ks[i].B (nums .i64 (G i).2.1) ∧ Row w ks[i].C (nums .i64 (G i).2.2)) :
    Calls Tryd.prog 46 #[.slice X cnt cx, .slice Y cnt cy] w fun e w' => e = .returned (.bool true) ∧ Drawn0 w w' := by
  have HX := Lib.hid hx
  have HY := Lib.hid hy
  have HLX := Lib.hid lx
  have HLY := Lib.hid ly
  have HGL := Lib.hid hG
  have HGX := Lib.hid gx
  have HGY := Lib.hid gy
  clear hx hy lx ly hG gx gy
  go_enter Tryd.func46, Tryd.ntmps46
  go_wp2
  go_loopw [13] (fun q wr => ∃ i : Nat, i ≤ cnt ∧ q = .int .i64 i ∧ Hid (Drawn0 w wr)) (fun q _ => cnt - (intOf q).toNat)
  case atStart => exact ⟨0, Nat.zero_le _, rfl, Lib.hid ⟨0, rfl⟩⟩
  case round =>
    obtain ⟨i, hi, rfl, HQ⟩ := hrel
    have HKE : Hid (∀ A cs, Row w A cs → Row wr A cs) := Lib.hid fun A cs h => by obtain ⟨q, e⟩ := HQ.out; rw [e]; exact h.drewN q
    by_cases hlt : i < cnt
    · obtain ⟨xa, rfl⟩ := HX.out.some_of (by intro h0; have h1 := hgR_length r hs; rw [h0, HLX.out] at h1; simp at h1; omega)
      obtain ⟨ya, rfl⟩ := HY.out.some_of (by intro h0; have h1 := hgR_length r ks; rw [h0, HLY.out] at h1; simp at h1; omega)
      have hi1 : i < hs.length := by rw [HLX.out]; exact hlt
      have hi2 : i < ks.length := by rw [HLY.out]; exact hlt
      obtain ⟨x0, x1, x2⟩ := hg_cells (HKE.out _ _ HX.out) hi1
      obtain ⟨y0, y1, y2⟩ := hg_cells (HKE.out _ _ HY.out) hi2
      obtain ⟨a1, a2, a3⟩ := HGX.out i hi1
      obtain ⟨b1, b2, b3⟩ := HGY.out i hi2
      obtain ⟨l1, l2, l3⟩ := HGL.out i hlt
      generalize hs[i] = hi at *
      generalize ks[i] = ki at *
      obtain ⟨A1, B1, C1, ca1, cb1, cc1⟩ := hi
      obtain ⟨A2, B2, C2, ca2, cb2, cc2⟩ := ki
      dsimp only at x0 x1 x2 y0 y1 y2 a1 a2 a3 b1 b2 b3
      generalize G i = gi at *
      have Ha1 := Lib.hid (HKE.out _ _ a1)
      have Ha2 := Lib.hid (HKE.out _ _ a2)
      have Ha3 := Lib.hid (HKE.out _ _ a3)
      have Hb1 := Lib.hid (HKE.out _ _ b1)
      have Hb2 := Lib.hid (HKE.out _ _ b2)
      have Hb3 := Lib.hid (HKE.out _ _ b3)
      have Hl1 := Lib.hid l1
      have Hl2 := Lib.hid l2
      have Hl3 := Lib.hid l3
      clear a1 a2 a3 b1 b2 b3 l1 l2 l3
      go_wp2
      go_quiet (first
        | (go_at_call_of 92 A1; exact Calls.quiet_of (sints_yes A1 A2 r ca1 ca2 _ _ Hl1.out hr Ha1.out Hb1.out))
        | (go_at_call_of 92 B1; exact Calls.quiet_of (sints_yes B1 B2 r cb1 cb2 _ _ Hl2.out hr Ha2.out Hb2.out))
        | (go_at_call_of 92 C1; exact Calls.quiet_of (sints_yes C1 C2 r cc1 cc2 _ _ Hl3.out hr Ha3.out Hb3.out)))
      go_wp2
      go_roundw
      case rel => exact ⟨i + 1, by omega, by go_num, Lib.hid (drawn0_more HQ.out _)⟩
      case measure => simp [intOf]; omega
    · have hie : i = cnt := by omega
      subst hie
      go_wp2
      go_ret
      exact ⟨rfl, HQ.out⟩
end Go.Proofs.YtohcoidbncbijaaDoor.P
/- The contract of brackenref16.Groups. Conditions: words of their kinds; slices read as lists. -/
namespace Go.Proofs.YtohcoidbncbijaaDoor.P
open Go.RowKit
set_option linter.unusedVariables false
set_option linter.unusedSimpArgs false
theorem row_box {w : World} {b k : Nat} {t : Bool} {R L M : Int} (h : Row w (some ⟨b, 0, none⟩) (boxS k t R L M)) :
    w.cell? ⟨b, 0, none⟩ = some (.int .i64 (k : Int)) ∧ w.cell? ⟨b, 1, none⟩ = some (.bool t) ∧ w.cell? ⟨b, 2, none⟩ = some (.int .i64 R) ∧ w.cell? ⟨b, 3, none⟩ = some (.int .i64 L) ∧ w.cell? ⟨b, 4, none⟩ = some (.int .i64 M) :=
  ⟨h.cell (i := 0) rfl, h.cell (i := 1) rfl, h.cell (i := 2) rfl, h.cell (i := 3) rfl, h.cell (i := 4) rfl⟩
theorem step_append_at {P : Program} {ops : Array Oper} {o : Oper} {a : Act} {K : Act → World → Prop} {Q : Exit → Act → World → Prop} {E' : Prop} (w : World) {T E : TypeId} {k : IntKind} {by' : Nat}
    (hT : P.underlying T = some (.slice E)) (hI : (P.info? E).map (fun i => (i.zero, i.size, i.bytes)) = some (some (.int k 0), 1, by')) (hgd : o.guard = none) (s x : Operand)
    (ho : o.op = .call { callee := .builtin .append, args := #[s, x], argTypes := #[T, T] }) (B n c : Nat) (A : Option Addr) (y : Addr) (xs : List Int) (v : Int)
    (hs : a.eval s = .slice A n c) (hx : a.eval x = .slice (some y) 1 1) (hown : Own w B E 1 A n c (nums k xs)) (hy : Row w (some y) [.int k v]) (hB : B ≤ w.heap.size)
    (h63 : n + 1 ≤ 9223372036854775807) (hbytes : (n + 1) * by' ≤ 140737488355328)
    (h : ∀ g cap w', Own w' B E 1 (some ⟨g, 0, none⟩) (n + 1) cap (nums k xs ++ [.int k v]) → Below B w w' → w.grownBy w' (Value.slice A n c).ownBlock → ((Value.slice A n c).ownBlock = some g ∨ g = w.heap.size) → K (a.put o.dst (.slice (some ⟨g, 0, none⟩) (n + 1) cap)) w') :
    if Region.wanted o (yielded ops a.tmps) = true then Oper.wp P o a w K Q else E' := by
  obtain ⟨i0, hi, hz0, hz1, hz2⟩ := info_parts hI
  refine step_append_lies w hgd s x T ho B E i0 (.int k 0) 1 by' hT hi hz0 hz1 hz2 rfl (by decide) _ n _ hs hown y 1 1 [.int k v] hx rfl ?_ ?_ (by decide) (by unfold maxLen; omega) hbytes hB _ rfl ?_
  · intro j u hj
    exact hy.cell hj
  · intro u hu
    simp only [List.mem_singleton] at hu
    subst hu
    rfl
  · intro g cap w' h1 h2 h3 h4
    refine h g cap w' h1 ?_ h2 h3
    refine ⟨h2.os, h2.tape, h2.output, h2.size, fun b hb => h2.block b (Nat.lt_of_lt_of_le hb hB) ?_⟩
    intro e
    rcases hown.2 with ⟨hv, _⟩ | ⟨g2, cap2, cur, hv, hg, _⟩
    · rw [hv] at e; simp [Value.ownBlock] at e
    · rw [hv] at e
      simp [Value.ownBlock] at e
      omega
theorem rowL_succ (f m t : Nat) : rowL f m (t + 1) = rowL f m t ++ [((f + m * t : Nat) : Int)] := by
  unfold rowL
  rw [List.range_succ, List.map_append, List.map_singleton]
theorem gatL_succ (x : List Int) (f m t : Nat) : gatL x (rowL f m (t + 1)) = gatL x (rowL f m t) ++ [x.getD (f + m * t) 0] := by
  rw [rowL_succ]
  unfold gatL
  rw [List.map_append, List.map_singleton, Int.toNat_natCast]
structure RefN (R L M a b t N m1 m2 m3 q1 f1 f2 r2 r3 q2 : Nat) : Prop where
  w1 : IntKind.i64.wrap ((M : Int) * (t : Int)) = (m1 : Int)
  w2 : IntKind.i64.wrap ((a : Int) + (m1 : Int)) = (m2 : Int)
  w3 : IntKind.i64.wrap ((L : Int) * (m2 : Int)) = (m3 : Int)
  w4 : IntKind.i64.wrap ((b : Int) + (m3 : Int)) = (q1 : Int)
  x1 : IntKind.i64.wrap ((a : Int) * (R : Int)) = (f1 : Int)
  x2 : IntKind.i64.wrap ((f1 : Int) + (t : Int)) = (f2 : Int)
  y1 : IntKind.i64.wrap ((R : Int) * (a : Int)) = (f1 : Int)
  y3 : IntKind.i64.wrap ((L : Int) * (f2 : Int)) = (r3 : Int)
  y4 : IntKind.i64.wrap ((b : Int) + (r3 : Int)) = (q2 : Int)
  g1 : q1 < N
  g2 : q2 < N
  e1 : q1 = b + L * a + L * M * t
  e2 : q2 = b + L * R * a + L * t
  e3 : f2 = a * R + 1 * t
theorem ref_num {l : List Int} {k N R L M : Nat} (h : AxSt l k R L M N) (h4 : N ≤ 4096) {a b t : Nat} (ha : a < M) (hb : b < L) (ht : t < R) : ∃ m1 m2 m3 q1 f1 f2 r2 r3 q2 : Nat, RefN R L M a b t N m1 m2 m3 q1 f1 f2 r2 r3 q2 := by
  have h1 := h.q_in ha hb ht
  have h2 := h.q_out ha hb ht
  have hL := h.st.l1
  rw [q_form] at h1
  rw [q_form2] at h2
  have h3 : a + M * t ≤ L * (a + M * t) := Nat.le_mul_of_pos_left _ (by omega)
  have h5 : t + R * a ≤ L * (t + R * a) := Nat.le_mul_of_pos_left _ (by omega)
  have e1 : a * R + t = t + R * a := by rw [Nat.mul_comm R a]; omega
  refine ⟨M * t, a + M * t, L * (a + M * t), b + L * (a + M * t), a * R, a * R + t, 0, L * (a * R + t), b + L * (a * R + t), ?_⟩
  exact ⟨wrapM (by omega), wrapP (by omega), wrapM (by omega), wrapP (by omega), wrapM (by omega), wrapP (by omega), by rw [Nat.mul_comm a R]; exact wrapM (by omega), by rw [e1]; exact wrapM (by omega), by rw [e1]; exact wrapP (by omega), h1, by rw [e1]; exact h2, by rw [q_form], by rw [q_form2, e1], by omega⟩
theorem rcoord_m (A : Option Addr) (c n : Nat) (l : List Int) (i : Int) (w : World) (hn : l.length = n) (hr : Row w A (nums .i64 l)) (hl : n ≤ 9223372036854775807) (hc : n ≤ c) (hw : ∀ d ∈ l, i64 d) (hi : i64 i) (hD : Dims l) (h0 : 0 ≤ i) (h1 : i < prodL l) :
    Calls Tryd.prog 90 #[.slice A n c, .int .i64 i] w fun e w' => ∃ B b,
      e = .returned (.tuple #[.slice B n b, .int .i64 0]) ∧ Own w' w.heap.size 3 1 B n b (nums .i64 (coordL l i)) ∧ Below w.heap.size w w' := by
  subst hn
  have e : coordS l i = (coordL l i, 0) := by rw [coordS, if_pos hD, if_pos ⟨h0, h1⟩]
  have e2 : ((coordL l i, (0 : Int)).1).length = l.length := by simp [coordL]
  have h := r05_coord A c l i w hr hl hc hw hi
  rw [e, e2] at h
  exact h
theorem rline_n (A : Option Addr) (c n : Nat) (l : List Int) (a k : Int) (w : World) (hn : l.length = n) (hr : Row w A (nums .i64 l)) (hl : n ≤ 9223372036854775807) (hc : n ≤ c) (hw : ∀ d ∈ l, i64 d) (ha : i64 a) (hk : i64 k) :
    Calls Tryd.prog 91 #[.slice A n c, .int .i64 a, .int .i64 k] w fun e w' => ∃ B b,
      e = .returned (.tuple #[.slice B (lineS l a k).1.length b, .int .i64 (lineS l a k).2]) ∧ Own w' w.heap.size 3 1 B (lineS l a k).1.length b (nums .i64 (lineS l a k).1) ∧ Below w.heap.size w w' := by
  subst hn; exact r05_line A c l a k w hr hl hc hw ha hk
/-- What is told of all groups. -/
def Grps (G : Nat → Grp) (r cnt B : Nat) (w : World) (e : Ending) (w' : World) : Prop :=
  ∃ Z z hs, e = .returned (.tuple #[.slice Z cnt z, .int .i64 0]) ∧ Row w' Z (hgR r hs) ∧ hs.length = cnt ∧
    (∀ i (h : i < hs.length), Row w' hs[i].A (nums .i64 (G i).1) ∧ Row w' hs[i].B (nums .i64 (G i).2.1) ∧ Row w' hs[i].C (nums .i64 (G i).2.2)) ∧ Below B w w'
theorem InvR.grps {B r cnt : Nat} {G : Nat → Grp} {Z : Option Addr} {c : Nat} {ws : World} (h : InvR B G r cnt Z c ws) {S : Nat} {w : World} (hb : Below S w ws) : Grps G r cnt S w (.returned (.tuple #[.slice Z cnt c, .int .i64 0])) ws := by
  obtain ⟨hs, h1, h2, h3⟩ := h.ex
  exact ⟨Z, c, hs, rfl, h1.row, h2, fun i hi => ⟨(h3 i hi).1.row, (h3 i hi).2.1.row, (h3 i hi).2.2.row⟩, hb⟩
set_option maxRecDepth 100000 in
set_option maxHeartbeats 4000000 in
theorem r16grp_twist (p : Int) (A : Option Addr) (c n : Nat) (ax : List (Int × Bool)) (k N : Nat) (neg : Bool) (cnt : Nat) (w : World) (hn : ax.length = n) (hp : U64 p) (hr : Row w A (axR ax)) (hl : n ≤ 8796093022208) (hw : ∀ a ∈ ax, i64 a.1) (hc : chk16 p ax ((k : Int), true, 0, 0, 0) = 0) (hK : StepK p ax ((k : Int), true, 0, 0, 0) k N neg) (hcnt : prodL (dimsA ax) = (cnt : Int)) :
    Calls Tryd.prog 45 #[.int .u64 p, .slice A n c, .agg #[.int .i64 (k : Int), .bool true, .int .i64 0, .int .i64 0, .int .i64 0]] w (Grps (grpT (dimsA ax) k) 1 cnt w.heap.size w) := by
  have HP := Lib.hid hp
  have HN := Lib.hid hn
  have HW := Lib.hid hw
  have HB0 : Hid (Below w.heap.size w (w.alloc (.cells #[.int .i64 (k : Int), .bool true, .int .i64 0, .int .i64 0, .int .i64 0] 39))) := Lib.hid ((Below.refl _ _).alloc (Nat.le_refl _) _)
  have HR0 := Lib.hid (hr.below HB0.out)
  have HX0 : Hid (Row (w.alloc (.cells #[.int .i64 (k : Int), .bool true, .int .i64 0, .int .i64 0, .int .i64 0] 39)) (some ⟨w.heap.size, 0, none⟩) (boxS k true 0 0 0)) := Lib.hid (row_new w (boxS k true 0 0 0) _)
  have HC := Lib.hid hc
  have HD7 := Lib.hid hK.chk.dims
  have hp0 := hK.chk.dims.pos.prod
  have hp4 := hK.chk.dims.all
  have HDL : Hid ((dimsA ax).length = n) := Lib.hid (by rw [dimsA_length]; exact hn)
  have HDI : Hid (∀ d ∈ dimsA ax, i64 d) := Lib.hid (dimsA_i64 hw)
  have hkn : k < n := by have := hK.lt; omega
  have HAL : Hid (allS (dimsA ax) = ((cnt : Int), 0)) := Lib.hid (by rw [allS_yes hK.chk.dims, hcnt])
  have hc4 : cnt ≤ 4096 := by omega
  have HCN : Hid (prodL (dimsA ax) = (cnt : Int)) := Lib.hid hcnt
  have HCX : Hid (∀ i : Int, (coordL (dimsA ax) i).length = n ∧ (coordL (dimsA ax) i)[k]? = some (xv (dimsA ax) k i)) := Lib.hid fun i => by
    have h1 : (dimsA ax).length = n := by rw [dimsA_length]; exact hn
    have h2 : k < (dimsA ax).length := by rw [h1]; exact hkn
    refine ⟨by simp [coordL, h1], ?_⟩
    simp only [coordL, List.getElem?_map, List.getElem?_range h2, Option.map_some]
    rfl
  clear hn hp hr hw hc hK hcnt hp0 hp4
  go_enter Tryd.func45, Tryd.ntmps45
  go_wp2_with fail
  generalize (w.alloc (.cells #[.int .i64 (k : Int), .bool true, .int .i64 0, .int .i64 0, .int .i64 0] 39)) = V0 at *
  refine (r16chk_calls p _ _ _ ax _ _ _ _ _ V0 HN.out HP.out HR0.out hl HW.out).mono ?_
  rw [HC.out]
  rintro e w1 ⟨rfl, hb⟩
  have HB1 := Lib.hid (blT HB0.out hb)
  have HR1 := Lib.hid (HR0.out.below hb)
  have HX1 := Lib.hid (HX0.out.below hb)
  clear hb
  go_wp2_with fail
  refine (rdims7_calls A c n ax w1 HN.out HR1.out hl).mono ?_
  rintro e w2 ⟨D, d, rfl, ho, hb⟩
  have HB2 := Lib.hid (blT HB1.out hb)
  have HX2 := Lib.hid (HX1.out.below hb)
  have HD2 := Lib.hid ho.row
  have hcd : n ≤ d := ho.cap.1
  clear ho hb
  go_wp2_with fail
  refine (r05_all_n D d n (dimsA ax) w2 HDL.out HD2.out (by omega) HDI.out).mono ?_
  rw [HAL.out]
  rintro e w2' ⟨rfl, rfl⟩
  obtain ⟨b0, b1, b2, b3, b4⟩ := row_box HX2.out
  go_wp2
  clear b0 b1 b2 b3 b4
  go_loopw [12, 40] (fun o q wr => ∃ (i : Nat) (Z : Option Addr) (z : Nat), i ≤ cnt ∧ q = .int .i64 i ∧ o = .slice Z i z ∧ Hid (InvR w2'.heap.size (grpT (dimsA ax) k) 1 i Z z wr) ∧ Hid (Below w2'.heap.size w2' wr)) (fun _ q _ => cnt - (intOf q).toNat)
  case atStart => exact ⟨0, none, 0, Nat.zero_le _, rfl, rfl, Lib.hid (InvR.start _ _ _ _), Lib.hid (Below.refl _ _)⟩
  case round =>
    obtain ⟨i, Z, z, hi, rfl, rfl, HI2, HBW⟩ := hrel
    by_cases hlt : i < cnt
    · have HXW := Lib.hid (HX2.out.below HBW.out)
      have HDW := Lib.hid (HD2.out.below HBW.out)
      go_wp2_with fail
      refine (rcoord_m D d n (dimsA ax) (i : Int) wr HDL.out HDW.out (by omega) hcd HDI.out ⟨by omega, by omega⟩ HD7.out (by omega) (by rw [HCN.out]; omega)).mono ?_
      rintro e w3 ⟨C, cc, rfl, ho, hb⟩
      have HI3 := Lib.hid (HI2.out.fresh hb)
      have HB3 := Lib.hid (blT HBW.out hb)
      have HX3 := Lib.hid (HXW.out.below hb)
      have HC3 := Lib.hid ho.row
      clear ho hb
      obtain ⟨hcl, hck⟩ := HCX.out (i : Int)
      obtain ⟨ca, rfl⟩ := HC3.out.some_of (by intro h0; have h1 := nums_length .i64 (coordL (dimsA ax) i); rw [h0, hcl] at h1; simp at h1; omega)
      have hkl : k < (coordL (dimsA ax) i).length := by rw [hcl]; exact hkn
      have hcv : (coordL (dimsA ax) i)[k] = xv (dimsA ax) k i := by rw [List.getElem?_eq_getElem hkl] at hck; exact Option.some.inj hck
      have hb4 : Below w3.heap.size w3 (w3.alloc (.cells #[.int .i64 (i : Int)] 3)) := (Below.refl _ _).alloc (Nat.le_refl _) _
      have c4 := (HC3.out.below hb4).num hkl
      have d4 := (row_box (HX3.out.below hb4)).1
      rw [hcv] at c4
      have HG : Hid (grpT (dimsA ax) k i = ([(i : Int)], [xv (dimsA ax) k i], [(i : Int)])) := Lib.hid rfl
      generalize xv (dimsA ax) k i = xi at *
      have HZ3 := Lib.hid HI3.out.lt
      obtain ⟨W4, hW4⟩ : ∃ W, W = w3.alloc (.cells #[.int .i64 (i : Int)] 3) := ⟨_, rfl⟩
      obtain ⟨W5, hW5⟩ : ∃ W, W = W4.alloc (.cells #[.int .i64 xi] 3) := ⟨_, rfl⟩
      obtain ⟨W6, hW6⟩ : ∃ W, W = W5.alloc (.cells #[.int .i64 (i : Int)] 3) := ⟨_, rfl⟩
      obtain ⟨W7, hW7⟩ : ∃ W, W = W6.alloc (.cells #[.slice (some ⟨w3.heap.size, 0, none⟩) 1 1, .slice (some ⟨w3.heap.size + 1, 0, none⟩) 1 1, .slice (some ⟨w3.heap.size + 1 + 1, 0, none⟩) 1 1] 72) := ⟨_, rfl⟩
      have s4 : W4.heap.size = w3.heap.size + 1 := by rw [hW4, size_alloc]
      have s5 : W5.heap.size = w3.heap.size + 1 + 1 := by rw [hW5, size_alloc, s4]
      have s6 : W6.heap.size = w3.heap.size + 1 + 1 + 1 := by rw [hW6, size_alloc, s5]
      have g4 : Below w3.heap.size w3 W4 := by rw [hW4]; exact hb4
      have g5 : Below W4.heap.size W4 W5 := by rw [hW5]; exact (Below.refl _ _).alloc (Nat.le_refl _) _
      have g6 : Below W5.heap.size W5 W6 := by rw [hW6]; exact (Below.refl _ _).alloc (Nat.le_refl _) _
      have g7 : Below W6.heap.size W6 W7 := by rw [hW7]; exact (Below.refl _ _).alloc (Nat.le_refl _) _
      have r4 : RowZ Z W4 (some ⟨w3.heap.size, 0, none⟩) (nums .i64 [(i : Int)]) := RowZ.new HZ3.out (by rw [hW4]; exact own_one w3 w3.heap.size 3 [.int .i64 (i : Int)] 1 (Nat.le_refl _) rfl (by decide))
      have r5 : RowZ Z W5 (some ⟨w3.heap.size + 1, 0, none⟩) (nums .i64 [xi]) := RowZ.new (B := W4.heap.size) (fun x hx => by have := HZ3.out x hx; omega) (by rw [hW5, ← s4]; exact own_one W4 W4.heap.size 3 [.int .i64 xi] 1 (Nat.le_refl _) rfl (by decide))
      have r6 : RowZ Z W6 (some ⟨w3.heap.size + 1 + 1, 0, none⟩) (nums .i64 [(i : Int)]) := RowZ.new (B := W5.heap.size) (fun x hx => by have := HZ3.out x hx; omega) (by rw [hW6, ← s5]; exact own_one W5 W5.heap.size 3 [.int .i64 (i : Int)] 1 (Nat.le_refl _) rfl (by decide))
      have HRA := Lib.hid (((r4.below g5).below g6).below g7)
      have HRB := Lib.hid ((r5.below g6).below g7)
      have HRC := Lib.hid (r6.below g7)
      have HI7 := Lib.hid ((((HI3.out.fresh g4).fresh g5).fresh g6).fresh g7)
      have HB7 := Lib.hid (blT (blT (blT (blT HB3.out g4) g5) g6) g7)
      have HRW : Hid (Row W7 (some ⟨w3.heap.size + 1 + 1 + 1, 0, none⟩) (hgC 1 ⟨some ⟨w3.heap.size, 0, none⟩, some ⟨w3.heap.size + 1, 0, none⟩, some ⟨w3.heap.size + 1 + 1, 0, none⟩, 1, 1, 1⟩)) := Lib.hid (by
        have h5 := row_new W6 (hgC 1 ⟨some ⟨w3.heap.size, 0, none⟩, some ⟨w3.heap.size + 1, 0, none⟩, some ⟨w3.heap.size + 1 + 1, 0, none⟩, 1, 1, 1⟩) 72
        rw [s6] at h5
        rw [hW7]
        exact h5)
      clear r4 r5 r6 g4 g5 g6 g7 s4 s5 s6 hb4 hcl hck hkl hcv
      subst hW7 hW6 hW5 hW4
      obtain ⟨hs, ho7, hl7, hg7⟩ := HI7.out.ex
      have HO7 := Lib.hid ho7
      have HL7 := Lib.hid hl7
      have HG7 := Lib.hid hg7
      clear ho7 hl7 hg7
      go_wp2_with (at_builtin; go_loud (refine append_cells_at _ Tryd.underlying65 info_grp rfl (by decide) rfl _ _ rfl w2'.heap.size i z 1 1 Z ⟨w3.heap.size + 1 + 1 + 1, 0, none⟩ (hgR 1 hs) (hgC 1 ⟨some ⟨w3.heap.size, 0, none⟩, some ⟨w3.heap.size + 1, 0, none⟩, some ⟨w3.heap.size + 1 + 1, 0, none⟩, 1, 1, 1⟩) rfl rfl HO7.out HRW.out rfl (hgC_one _ _) (by decide) HB7.out.size (by omega) (by omega) ?_); intro gb cap w8 hown hbel hgrow hloc)
      have HIE : Hid (InvR w2'.heap.size (grpT (dimsA ax) k) 1 (i + 1) (some ⟨gb, 0, none⟩) cap w8) := Lib.hid (InvR.push HL7.out HG7.out (by rw [HG.out]; exact HRA.out) (by rw [HG.out]; exact HRB.out) (by rw [HG.out]; exact HRC.out) hown hgrow hloc)
      have HBE := Lib.hid (HB7.out.trans hbel)
      clear hown hbel hgrow hloc
      go_roundw
      case rel => exact ⟨i + 1, _, _, by omega, by go_num, rfl, HIE, HBE⟩
      case measure => simp [intOf]; omega
    · have hie : i = cnt := by omega
      subst hie
      have HBE := Lib.hid (blT HB2.out HBW.out)
      go_wp2
      go_ret2
      exact HI2.out.grps HBE.out
set_option maxRecDepth 100000 in
set_option maxHeartbeats 8000000 in
theorem r16grp_stage (p : Int) (A : Option Addr) (c n : Nat) (ax : List (Int × Bool)) (k N : Nat) (neg : Bool) (R L M K : Nat) (w : World) (hn : ax.length = n) (hp : U64 p) (hr : Row w A (axR ax)) (hl : n ≤ 8796093022208) (hw : ∀ a ∈ ax, i64 a.1) (hc : chk16 p ax ((k : Int), false, (R : Int), (L : Int), (M : Int)) = 0) (hK : StepK p ax ((k : Int), false, (R : Int), (L : Int), (M : Int)) k N neg) (hS : StageK N R L M)
    (hKK : prodL (dimsA ax) / (N : Int) = (K : Int)) :
    Calls Tryd.prog 45 #[.int .u64 p, .slice A n c, .agg #[.int .i64 (k : Int), .bool false, .int .i64 (R : Int), .int .i64 (L : Int), .int .i64 (M : Int)]] w (Grps (grpG (dimsA ax) k false R L M) R (K * M * L) w.heap.size w) := by
  have HP := Lib.hid hp
  have HN := Lib.hid hn
  have HW := Lib.hid hw
  have HB0 : Hid (Below w.heap.size w (w.alloc (.cells #[.int .i64 (k : Int), .bool false, .int .i64 (R : Int), .int .i64 (L : Int), .int .i64 (M : Int)] 39))) := Lib.hid ((Below.refl _ _).alloc (Nat.le_refl _) _)
  have HR0 := Lib.hid (hr.below HB0.out)
  have HX0 : Hid (Row (w.alloc (.cells #[.int .i64 (k : Int), .bool false, .int .i64 (R : Int), .int .i64 (L : Int), .int .i64 (M : Int)] 39)) (some ⟨w.heap.size, 0, none⟩) (boxS k false R L M)) := Lib.hid (row_new w (boxS k false R L M) _)
  have HC := Lib.hid hc
  have HD7 := Lib.hid hK.chk.dims
  have hp0 := hK.chk.dims.pos.prod
  have hp4 := hK.chk.dims.all
  have HDL : Hid ((dimsA ax).length = n) := Lib.hid (by rw [dimsA_length]; exact hn)
  have HDI : Hid (∀ d ∈ dimsA ax, i64 d) := Lib.hid (dimsA_i64 hw)
  have hkn : k < n := by have := hK.lt; omega
  obtain ⟨P0, hP0⟩ := Int.eq_ofNat_of_zero_le (show 0 ≤ prodL (dimsA ax) by omega)
  have HAL : Hid (allS (dimsA ax) = ((P0 : Int), 0)) := Lib.hid (by rw [allS_yes hK.chk.dims, hP0])
  have hP4 : P0 ≤ 4096 := by omega
  have hN1 := hK.c6.n1
  have hN4 := hK.c6.n2
  have hKt : (P0 : Int).tdiv (N : Int) = (K : Int) := by rw [Int.tdiv_eq_ediv_of_nonneg (by omega), ← hP0]; exact hKK
  have hKn : P0 / N = K := by
    have h1 : ((P0 / N : Nat) : Int) = (K : Int) := by rw [← hKK, hP0]; push_cast; rfl
    exact_mod_cast h1
  have hK4 : K ≤ 4096 := by
    have h2 := Int.ediv_le_self (N : Int) (show (0 : Int) ≤ (P0 : Int) by omega)
    rw [← hP0, hKK] at h2
    omega
  have hD0 : ¬ (N : Int) = 0 := by omega
  have hD1 : ¬ N = 0 := by omega
  have hwK : IntKind.i64.wrap (K : Int) = (K : Int) := wrapI (by omega) (by omega)
  have HAX : Hid (AxSt (dimsA ax) k R L M N) := Lib.hid ⟨(hK.chk.at hK.lt).1, hK.dim, hS⟩
  have hkd : k < (dimsA ax).length := by rw [dimsA_length]; exact hK.lt
  have HDK : Hid (∀ h : k < (dimsA ax).length, (dimsA ax)[k]'h = (N : Int)) := Lib.hid fun h => by
    have h1 := hK.dim
    rw [getD_of h] at h1
    exact h1
  have HKD := Lib.hid hkd
  have HLN : Hid (∀ j : Nat, j < K → lineS (dimsA ax) k j = (lineL (dimsA ax) k j, 0) ∧ (lineL (dimsA ax) k j).length = N) := Lib.hid fun j hj => by
    refine ⟨?_, by rw [lineL_length, hK.dim, Int.toNat_natCast]⟩
    have h2 : (dimsA ax).getD ((k : Int).toNat) 1 = (N : Int) := by rw [Int.toNat_natCast]; exact hK.dim
    rw [lineS, if_pos hK.chk.dims, if_pos ⟨by omega, by omega⟩, h2, hKK, if_pos ⟨by omega, by omega⟩, Int.toNat_natCast]
  have hM1 := hS.m1
  have hL1 := hS.l1
  have hM4 : M ≤ 4096 := by
    have h0 : M * 1 ≤ M * R := Nat.mul_le_mul_left _ (by have := hS.r2; omega)
    have h1 := hS.rm
    rw [Nat.mul_comm R M] at h1
    omega
  have hL4 : L ≤ 4096 := by
    have h0 : L * 1 ≤ L * (M * R) := Nat.mul_le_mul_left _ (Nat.mul_pos (by omega) (by have := hS.r2; omega))
    rw [hS.all] at h0
    omega
  have hR9 : R ≤ 5 := hS.r5
  have HN4 : Hid (N ≤ 4096) := Lib.hid hN4
  have HGS : Hid (K * M * L ≤ 4096) := Lib.hid (by
    have h1 := grpC_small hK
    unfold grpC at h1
    rw [if_neg (by simp), hK.dim, hKK] at h1
    simpa using h1)
  have hmx : Tryd.prog.follows .mixedOrders = true := by kernel_rfl
  have HMX := Lib.hid hmx
  have HLC : Hid (Tryd.prog.follows .lateStores = Tryd.prog.follows .lateStores) := Lib.hid rfl
  clear hn hp hr hw hc hK hS hp0 hp4 hP0 hKK hkd hN1 hN4 hmx
  go_enter Tryd.func45, Tryd.ntmps45
  go_wp2_with fail
  generalize (w.alloc (.cells #[.int .i64 (k : Int), .bool false, .int .i64 (R : Int), .int .i64 (L : Int), .int .i64 (M : Int)] 39)) = V0 at *
  refine (r16chk_calls p _ _ _ ax _ _ _ _ _ V0 HN.out HP.out HR0.out hl HW.out).mono ?_
  rw [HC.out]
  rintro e w1 ⟨rfl, hb⟩
  have HB1 := Lib.hid (blT HB0.out hb)
  have HR1 := Lib.hid (HR0.out.below hb)
  have HX1 := Lib.hid (HX0.out.below hb)
  clear hb
  go_wp2_with fail
  refine (rdims7_calls A c n ax w1 HN.out HR1.out hl).mono ?_
  rintro e w2 ⟨D, d, rfl, ho, hb⟩
  have HB2 := Lib.hid (blT HB1.out hb)
  have HX2 := Lib.hid (HX1.out.below hb)
  have HD2 := Lib.hid ho.row
  have hcd : n ≤ d := ho.cap.1
  clear ho hb
  go_wp2_with fail
  refine (r05_all_n D d n (dimsA ax) w2 HDL.out HD2.out (by omega) HDI.out).mono ?_
  rw [HAL.out]
  rintro e w2' ⟨rfl, rfl⟩
  obtain ⟨b0, b1, b2, b3, b4⟩ := row_box HX2.out
  obtain ⟨da, rfl⟩ := HD2.out.some_of (by intro h0; have h1 := nums_length .i64 (dimsA ax); rw [h0, HDL.out] at h1; simp at h1; omega)
  have hdc := HD2.out.num HKD.out
  rw [HDK.out] at hdc
  go_wp2
  clear hdc b0 b1 b2 b3 b4 hKt hKn hwK hD0 hD1
  go_loopw [12, 72] (fun o q wr => ∃ (j : Nat) (Z : Option Addr) (z : Nat), j ≤ K ∧ q = .int .i64 j ∧ o = .slice Z (j * M * L) z ∧ Hid (InvR w2'.heap.size (grpG (dimsA ax) k false R L M) R (j * M * L) Z z wr) ∧ Hid (Below w2'.heap.size w2' wr)) (fun _ q _ => K - (intOf q).toNat)
  case atStart => exact ⟨0, none, 0, Nat.zero_le _, rfl, by rw [Nat.zero_mul, Nat.zero_mul], Lib.hid (by rw [Nat.zero_mul, Nat.zero_mul]; exact InvR.start _ _ _ _), Lib.hid (Below.refl _ _)⟩
  case round =>
    obtain ⟨j, Z, z, hj, rfl, rfl, HI2, HBW⟩ := hrel
    by_cases hlt : j < K
    · have HXW := Lib.hid (HX2.out.below HBW.out)
      have HDW := Lib.hid (HD2.out.below HBW.out)
      obtain ⟨b0, b1, b2, b3, b4⟩ := row_box HXW.out
      obtain ⟨hl1, hl2⟩ := HLN.out j hlt
      have HL1 := Lib.hid hl1
      have HL2 := Lib.hid hl2
      have HL3 : Hid (((lineL (dimsA ax) k j, (0 : Int)).1).length = N) := Lib.hid hl2
      clear hl1 hl2
      go_wp2_with fail
      refine (rline_n (some da) d n (dimsA ax) (k : Int) (j : Int) wr HDL.out HDW.out (by omega) hcd HDI.out ⟨by omega, by omega⟩ ⟨by omega, by omega⟩).mono ?_
      rw [HL1.out, HL3.out]
      rintro e w3 ⟨La, lc, rfl, ho, hb⟩
      have HI3 := Lib.hid (HI2.out.fresh hb)
      have HB3 := Lib.hid (blT HBW.out hb)
      have HX3 := Lib.hid (HXW.out.below hb)
      have HY3 := Lib.hid (RowZ.new HI2.out.lt ho)
      clear ho hb b0 b1 b2 b3 b4
      obtain ⟨b0, b1, b2, b3, b4⟩ := row_box HX3.out
      go_wp2
      clear b0 b1 b2 b3 b4
      go_hide hQ
      go_loopw [12, 86] (fun o q ws => ∃ (a : Nat) (Z : Option Addr) (z : Nat), a ≤ M ∧ q = .int .i64 a ∧ o = .slice Z ((j * M + a) * L) z ∧ Hid (InvR w2'.heap.size (grpG (dimsA ax) k false R L M) R ((j * M + a) * L) Z z ws) ∧ Hid (Below w2'.heap.size w2' ws) ∧ Hid (RowZ Z ws La (nums .i64 (lineL (dimsA ax) k j)))) (fun _ q _ => M - (intOf q).toNat)
      case atStart => exact ⟨0, Z, z, Nat.zero_le _, rfl, by rw [Nat.add_zero], Lib.hid (by rw [Nat.add_zero]; exact HI3.out), HB3, HY3⟩
      case round =>
        obtain ⟨a, Z4, z4, ha, rfl, rfl, HI4, HB4, HY4⟩ := hrel
        by_cases hla : a < M
        · have HX4 := Lib.hid (HX2.out.below HB4.out)
          obtain ⟨b0, b1, b2, b3, b4⟩ := row_box HX4.out
          go_wp2
          clear b0 b1 b2 b3 b4
          go_hide hQ2
          go_loopw [12, 92] (fun o q ws => ∃ (b : Nat) (Z : Option Addr) (z : Nat), b ≤ L ∧ q = .int .i64 b ∧ o = .slice Z ((j * M + a) * L + b) z ∧ Hid (InvR w2'.heap.size (grpG (dimsA ax) k false R L M) R ((j * M + a) * L + b) Z z ws) ∧ Hid (Below w2'.heap.size w2' ws) ∧ Hid (RowZ Z ws La (nums .i64 (lineL (dimsA ax) k j)))) (fun _ q _ => L - (intOf q).toNat)
          case atStart => exact ⟨0, Z4, z4, Nat.zero_le _, rfl, rfl, HI4, HB4, HY4⟩
          case round =>
            obtain ⟨b, Z5, z5, hb, rfl, rfl, HI5, HB5, HY5⟩ := hrel
            by_cases hlb : b < L
            · have hwb : ∃ wb, wb = wr := ⟨_, rfl⟩
              obtain ⟨wb, hwb⟩ := hwb
              rw [← hwb] at HI5 HB5 HY5
              rw [← hwb]
              clear hwb
              have HV0 : Hid (Below wb.heap.size wb (wb.alloc (.cells #[.slice none 0 0, .slice none 0 0, .slice none 0 0] 72))) := Lib.hid ((Below.refl _ _).alloc (Nat.le_refl _) _)
              have HX5 := Lib.hid (HX2.out.below (blT HB5.out HV0.out))
              obtain ⟨b0, b1, b2, b3, b4⟩ := row_box HX5.out
              have HTR0 : Hid (Tri wb.heap.size none none none 0 0 0 0 0 0 [] [] [] (wb.alloc (.cells #[.slice none 0 0, .slice none 0 0, .slice none 0 0] 72))) := Lib.hid ⟨own_one wb wb.heap.size 72 [.slice none 0 0, .slice none 0 0, .slice none 0 0] 3 (Nat.le_refl _) rfl (by decide), Own.nil _ _ _ _, Own.nil _ _ _ _, Own.nil _ _ _ _, (fun _ _ h => by cases h), (fun _ _ h => by cases h), (fun _ _ h => by cases h)⟩
              have HGB : Hid (w2'.heap.size ≤ wb.heap.size) := Lib.hid HB5.out.size
              have HGW : Hid (w.heap.size < wb.heap.size) := Lib.hid (by have h1 := HX2.out; have h2 := World.block_lt_of_cell? w2' _ (row_box h1).1; have h3 := HB5.out.size; dsimp only at h2; omega)
              go_wp2
              clear b0 b1 b2 b3 b4
              go_hide hQ3
              generalize (wb.alloc (.cells #[.slice none 0 0, .slice none 0 0, .slice none 0 0] 72)) = V5 at *
              have hgb : ∃ gb, gb = wb.heap.size := ⟨_, rfl⟩
              obtain ⟨gb, hgb⟩ := hgb
              have HGE := Lib.hid hgb
              rw [← hgb] at HTR0 HGB HGW HV0
              rw [← hgb]
              clear hgb
              go_loopw [98] (fun q ws => ∃ (t : Nat) (A B C : Option Addr) (ca cb cc : Nat), t ≤ R ∧ q = .int .i64 t ∧ Hid (Tri gb A B C t ca t cb t cc (gatL (lineL (dimsA ax) k j) (rowL (b + L * a) (L * M) t)) (rowL (a * R) 1 t) (gatL (lineL (dimsA ax) k j) (rowL (b + L * R * a) L t)) ws) ∧ Hid (Below gb wb ws)) (fun q _ => R - (intOf q).toNat)
              case atStart => exact ⟨0, none, none, none, 0, 0, 0, Nat.zero_le _, rfl, HTR0, HV0⟩
              case round =>
                obtain ⟨t, A1, B1, C1, ca1, cb1, cc1, ht, rfl, HTR, HBT⟩ := hrel
                by_cases hlr : t < R
                · obtain ⟨m1, m2, m3, q1, f1, f2, r2, r3, q2, hnum⟩ := ref_num HAX.out HN4.out hla hlb hlr
                  have o1 := hnum.w1
                  have o2 := hnum.w2
                  have o3 := hnum.w3
                  have o4 := hnum.w4
                  have o5 := hnum.x1
                  have o6 := hnum.x2
                  have o7 := hnum.y1
                  have o8 := hnum.y3
                  have o9 := hnum.y4
                  have hq1 := hnum.g1
                  have hq2 := hnum.g2
                  have HE1 : Hid (gatL (lineL (dimsA ax) k j) (rowL (b + L * a) (L * M) (t + 1)) = gatL (lineL (dimsA ax) k j) (rowL (b + L * a) (L * M) t) ++ [(lineL (dimsA ax) k j).getD q1 0]) := Lib.hid (by rw [gatL_succ, hnum.e1])
                  have HE2 : Hid (rowL (a * R) 1 (t + 1) = rowL (a * R) 1 t ++ [(f2 : Int)]) := Lib.hid (by rw [rowL_succ, hnum.e3])
                  have HE3 : Hid (gatL (lineL (dimsA ax) k j) (rowL (b + L * R * a) L (t + 1)) = gatL (lineL (dimsA ax) k j) (rowL (b + L * R * a) L t) ++ [(lineL (dimsA ax) k j).getD q2 0]) := Lib.hid (by rw [gatL_succ, hnum.e2])
                  clear hnum
                  have hll := HL2.out
                  have c1 : (lineL (dimsA ax) k j).getD q1 0 = (lineL (dimsA ax) k j)[q1]'(by rw [hll]; exact hq1) := getD_of (by rw [hll]; exact hq1) 0
                  have c2 : (lineL (dimsA ax) k j).getD q2 0 = (lineL (dimsA ax) k j)[q2]'(by rw [hll]; exact hq2) := getD_of (by rw [hll]; exact hq2) 0
                  have HC1 : Hid (∀ ws x, Row ws (some x) (nums .i64 (lineL (dimsA ax) k j)) → ws.cell? (x.add q1) = some (.int .i64 ((lineL (dimsA ax) k j).getD q1 0)) ∧ ws.cell? (x.add q2) = some (.int .i64 ((lineL (dimsA ax) k j).getD q2 0))) := Lib.hid fun ws x h => by
                    rw [c1, c2]
                    exact ⟨h.num (by rw [hll]; exact hq1), h.num (by rw [hll]; exact hq2)⟩
                  obtain ⟨xt, hxt⟩ := HY5.out.row.some_of (by intro h0; have h1 := nums_length .i64 (lineL (dimsA ax) k j); rw [h0, hll] at h1; simp at h1; omega)
                  clear c1 c2 hll
                  subst hxt
                  generalize (lineL (dimsA ax) k j).getD q1 0 = u1 at *
                  generalize (lineL (dimsA ax) k j).getD q2 0 = u2 at *
                  generalize hxs : gatL (lineL (dimsA ax) k j) (rowL (b + L * a) (L * M) t) = xs at *
                  generalize hys : rowL (a * R) 1 t = ys at *
                  generalize hzs : gatL (lineL (dimsA ax) k j) (rowL (b + L * R * a) L t) = zs at *
                  have HKP : Hid (∀ ws, Below gb wb ws → ws.cell? ⟨w.heap.size, 2, none⟩ = some (.int .i64 (R : Int)) ∧ ws.cell? ⟨w.heap.size, 3, none⟩ = some (.int .i64 (L : Int)) ∧ ws.cell? ⟨w.heap.size, 4, none⟩ = some (.int .i64 (M : Int)) ∧ ws.cell? (xt.add q1) = some (.int .i64 u1) ∧ ws.cell? (xt.add q2) = some (.int .i64 u2)) := Lib.hid fun ws h => by
                    have h0 : Below wb.heap.size wb ws := by rw [← HGE.out]; exact h
                    obtain ⟨y0, y1, y2, y3, y4⟩ := row_box (HX2.out.below (blT HB5.out h0))
                    obtain ⟨y5, y6⟩ := HC1.out ws xt (HY5.out.row.below h0)
                    exact ⟨y2, y3, y4, y5, y6⟩
                  clear hxs hys hzs
                  have HGZ : Hid (∀ ws, Below gb wb ws → gb ≤ ws.heap.size) := Lib.hid fun ws h => by rw [HGE.out]; exact h.size
                  have HTD : Hid (Tri gb A1 B1 C1 t ca1 t cb1 t cc1 xs ys zs wr.drew) := Lib.hid (HTR.out.fresh (Below.refl _ _).drew)
                  have HBD : Hid (Below gb wb wr.drew) := Lib.hid HBT.out.drew
                  have hSD : (fun w' => w'.cell? ⟨gb, 0, none⟩ = some (.slice A1 t ca1) ∧ w'.cell? ⟨w.heap.size, 3, none⟩ = some (.int .i64 (L : Int)) ∧ w'.cell? ⟨w.heap.size, 4, none⟩ = some (.int .i64 (M : Int)) ∧ w'.cell? (xt.add q1) = some (.int .i64 u1)) wr.drew := by
                    obtain ⟨y2, y3, y4, y5, y6⟩ := HKP.out _ HBD.out
                    have y0 := HTD.out.box.cellAt 0 (by decide)
                    exact ⟨y0, y3, y4, y5⟩
                  have hgs : gb < wr.drew.heap.size := (Own.base HTD.out.box).2
                  go_wp2
                  refine region_marks2 (k := 22) (S := (fun w' => w'.cell? ⟨gb, 0, none⟩ = some (.slice A1 t ca1) ∧ w'.cell? ⟨w.heap.size, 3, none⟩ = some (.int .i64 (L : Int)) ∧ w'.cell? ⟨w.heap.size, 4, none⟩ = some (.int .i64 (M : Int)) ∧ w'.cell? (xt.add q1) = some (.int .i64 u1))) (T := fun i => decide (i ≠ 21)) HMX.out rfl hSD (fun hS => ?_)
                  clear hSD HTR HBT
                  generalize wr.drew = wD at *
                  have hbA : Below wD.heap.size wD (wD.alloc (.cells #[.int .i64 u1] 3)) := (Below.refl _ _).alloc (Nat.le_refl _) _
                  have HT6 := Lib.hid (HTD.out.fresh hbA)
                  have HB6 : Hid (Below gb wb (wD.alloc (.cells #[.int .i64 u1] 3))) := Lib.hid (HBD.out.trans (hbA.mono (by omega)))
                  have HRW : Hid (Row (wD.alloc (.cells #[.int .i64 u1] 3)) (some ⟨wD.heap.size, 0, none⟩) [.int .i64 u1]) := Lib.hid (row_new wD [.int .i64 u1] 3)
                  clear hbA
                  refine wpAnyT_take3 (i := 0) (v := ?_) rfl (by kernel_rfl) (by kernel_rfl) (by kernel_rfl) (by kernel_rfl) (by kernel_rfl) (fun _ _ _ h => h) hS (Or.inl ⟨by rfl, ?_⟩) ?_
                  rotate_left
                  · (intro w' hSw; (try dsimp only at hSw); go_simp; (try with_reducible rfl))
                  (try simp only [Act.put, List.setIfInBounds_toArray, List.set_cons_zero, List.set_cons_succ])
                  refine wpAnyT_take3 (i := 1) (v := ?_) rfl (by kernel_rfl) (by kernel_rfl) (by kernel_rfl) (by kernel_rfl) (by kernel_rfl) (fun _ _ _ h => h) hS (Or.inl ⟨by rfl, ?_⟩) ?_
                  rotate_left
                  · (intro w' hSw; (try dsimp only at hSw); go_simp; (try with_reducible rfl))
                  (try simp only [Act.put, List.setIfInBounds_toArray, List.set_cons_zero, List.set_cons_succ])
                  refine wpAnyT_take3 (i := 2) (v := ?_) rfl (by kernel_rfl) (by kernel_rfl) (by kernel_rfl) (by kernel_rfl) (by kernel_rfl) (fun _ _ _ h => h) hS (Or.inl ⟨by rfl, ?_⟩) ?_
                  rotate_left
                  · (intro w' hSw; (try dsimp only at hSw); go_simp; (try with_reducible rfl))
                  (try simp only [Act.put, List.setIfInBounds_toArray, List.set_cons_zero, List.set_cons_succ])
                  refine wpAnyT_take3 (i := 3) (v := ?_) rfl (by kernel_rfl) (by kernel_rfl) (by kernel_rfl) (by kernel_rfl) (by kernel_rfl) (fun _ _ _ h => h) hS (Or.inl ⟨by rfl, ?_⟩) ?_
                  rotate_left
                  · (intro w' hSw; (try dsimp only at hSw); go_simp; (try with_reducible rfl))
                  (try simp only [Act.put, List.setIfInBounds_toArray, List.set_cons_zero, List.set_cons_succ])
                  refine wpAnyT_take3 (i := 4) (v := ?_) rfl (by kernel_rfl) (by kernel_rfl) (by kernel_rfl) (by kernel_rfl) (by kernel_rfl) (fun _ _ _ h => h) hS (Or.inl ⟨by rfl, ?_⟩) ?_
                  rotate_left
                  · (intro w' hSw; (try dsimp only at hSw); go_simp; (try with_reducible rfl))
                  (try simp only [Act.put, List.setIfInBounds_toArray, List.set_cons_zero, List.set_cons_succ])
                  refine wpAnyT_take3 (i := 5) (v := ?_) rfl (by kernel_rfl) (by kernel_rfl) (by kernel_rfl) (by kernel_rfl) (by kernel_rfl) (fun _ _ _ h => h) hS (Or.inl ⟨by rfl, ?_⟩) ?_
                  rotate_left
                  · (intro w' hSw; (try dsimp only at hSw); go_simp; (try with_reducible rfl))
                  (try simp only [Act.put, List.setIfInBounds_toArray, List.set_cons_zero, List.set_cons_succ])
                  refine wpAnyT_take3 (i := 6) (v := ?_) rfl (by kernel_rfl) (by kernel_rfl) (by kernel_rfl) (by kernel_rfl) (by kernel_rfl) (fun _ _ _ h => h) hS (Or.inl ⟨by rfl, ?_⟩) ?_
                  rotate_left
                  · (intro w' hSw; (try dsimp only at hSw); go_simp; (try with_reducible rfl))
                  (try simp only [Act.put, List.setIfInBounds_toArray, List.set_cons_zero, List.set_cons_succ])
                  refine wpAnyT_take3 (i := 7) (v := ?_) rfl (by kernel_rfl) (by kernel_rfl) (by kernel_rfl) (by kernel_rfl) (by kernel_rfl) (fun _ _ _ h => h) hS (Or.inl ⟨by rfl, ?_⟩) ?_
                  rotate_left
                  · (intro w' hSw; (try dsimp only at hSw); go_simp; (try with_reducible rfl))
                  (try simp only [Act.put, List.setIfInBounds_toArray, List.set_cons_zero, List.set_cons_succ])
                  refine wpAnyT_take3 (i := 8) (v := ?_) rfl (by kernel_rfl) (by kernel_rfl) (by kernel_rfl) (by kernel_rfl) (by kernel_rfl) (fun _ _ _ h => h) hS (Or.inl ⟨by rfl, ?_⟩) ?_
                  rotate_left
                  · (intro w' hSw; (try dsimp only at hSw); go_simp; (try with_reducible rfl))
                  (try simp only [Act.put, List.setIfInBounds_toArray, List.set_cons_zero, List.set_cons_succ])
                  refine wpAnyT_take3 (i := 9) (v := ?_) rfl (by kernel_rfl) (by kernel_rfl) (by kernel_rfl) (by kernel_rfl) (by kernel_rfl) (fun _ _ _ h => h) hS (Or.inl ⟨by rfl, ?_⟩) ?_
                  rotate_left
                  · (intro w' hSw; (try dsimp only at hSw); go_simp; (try with_reducible rfl))
                  (try simp only [Act.put, List.setIfInBounds_toArray, List.set_cons_zero, List.set_cons_succ])
                  refine wpAnyT_take3 (i := 10) (v := ?_) rfl (by kernel_rfl) (by kernel_rfl) (by kernel_rfl) (by kernel_rfl) (by kernel_rfl) (fun _ _ _ h => h) hS (Or.inl ⟨by rfl, ?_⟩) ?_
                  rotate_left
                  · (intro w' hSw; (try dsimp only at hSw); go_simp; (try with_reducible rfl))
                  (try simp only [Act.put, List.setIfInBounds_toArray, List.set_cons_zero, List.set_cons_succ])
                  refine wpAnyT_take3 (i := 11) (v := ?_) rfl (by kernel_rfl) (by kernel_rfl) (by kernel_rfl) (by kernel_rfl) (by kernel_rfl) (fun _ _ _ h => h) hS (Or.inl ⟨by rfl, ?_⟩) ?_
                  rotate_left
                  · (intro w' hSw; (try dsimp only at hSw); go_simp; (try with_reducible rfl))
                  (try simp only [Act.put, List.setIfInBounds_toArray, List.set_cons_zero, List.set_cons_succ])
                  refine wpAnyT_take3 (i := 12) (v := ?_) rfl (by kernel_rfl) (by kernel_rfl) (by kernel_rfl) (by kernel_rfl) (by kernel_rfl) (fun _ _ _ h => h) hS (Or.inl ⟨by rfl, ?_⟩) ?_
                  rotate_left
                  · (intro w' hSw; (try dsimp only at hSw); go_simp; (try with_reducible rfl))
                  (try simp only [Act.put, List.setIfInBounds_toArray, List.set_cons_zero, List.set_cons_succ])
                  refine wpAnyT_take3 (i := 13) (v := ?_) rfl (by kernel_rfl) (by kernel_rfl) (by kernel_rfl) (by kernel_rfl) (by kernel_rfl) (fun _ _ _ h => h) hS (Or.inl ⟨by rfl, ?_⟩) ?_
                  rotate_left
                  · (intro w' hSw; (try dsimp only at hSw); go_simp; (try with_reducible rfl))
                  (try simp only [Act.put, List.setIfInBounds_toArray, List.set_cons_zero, List.set_cons_succ])
                  refine wpAnyT_take3 (i := 14) (v := ?_) rfl (by kernel_rfl) (by kernel_rfl) (by kernel_rfl) (by kernel_rfl) (by kernel_rfl) (fun _ _ _ h => h) hS (Or.inl ⟨by rfl, ?_⟩) ?_
                  rotate_left
                  · (intro w' hSw; (try dsimp only at hSw); go_simp; (try with_reducible rfl))
                  (try simp only [Act.put, List.setIfInBounds_toArray, List.set_cons_zero, List.set_cons_succ])
                  refine wpAnyT_take3 (i := 15) (v := ?_) rfl (by kernel_rfl) (by kernel_rfl) (by kernel_rfl) (by kernel_rfl) (by kernel_rfl) (fun _ _ _ h => h) hS (Or.inl ⟨by rfl, ?_⟩) ?_
                  rotate_left
                  · (intro w' hSw; (try dsimp only at hSw); go_simp; (try with_reducible rfl))
                  (try simp only [Act.put, List.setIfInBounds_toArray, List.set_cons_zero, List.set_cons_succ])
                  refine wpAnyT_take3 (i := 16) (v := ?_) rfl (by kernel_rfl) (by kernel_rfl) (by kernel_rfl) (by kernel_rfl) (by kernel_rfl) (fun _ _ _ h => h) hS (Or.inl ⟨by rfl, ?_⟩) ?_
                  rotate_left
                  · (intro w' hSw; (try dsimp only at hSw); go_simp; (try with_reducible rfl))
                  (try simp only [Act.put, List.setIfInBounds_toArray, List.set_cons_zero, List.set_cons_succ])
                  refine wpAnyT_take3 (i := 17) (v := ?_) rfl (by kernel_rfl) (by kernel_rfl) (by kernel_rfl) (by kernel_rfl) (by kernel_rfl) (fun _ _ _ h => h) hS (Or.inl ⟨by rfl, ?_⟩) ?_
                  rotate_left
                  · (intro w' hSw; (try dsimp only at hSw); go_simp; (try with_reducible rfl))
                  (try simp only [Act.put, List.setIfInBounds_toArray, List.set_cons_zero, List.set_cons_succ])
                  refine wpAnyT_one (i := 18) (by kernel_rfl) rfl (fun K hK => ?_)
                  go_simp
                  refine hK _ _ (by intro _; obtain ⟨y2, y3, y4, y5, y6⟩ := HKP.out _ HB6.out; have y0 := HT6.out.box.cellAt 0 (by decide); exact ⟨y0, y3, y4, y5⟩) ?_
                  clear hK K
                  (try simp only [Act.put, List.setIfInBounds_toArray, List.set_cons_zero, List.set_cons_succ])
                  clear HTD HBD
                  generalize (wD.alloc (.cells #[.int .i64 u1] 3)) = wE at *
                  generalize (⟨wD.heap.size, 0, none⟩ : Addr) = ye at *
                  refine wpAnyT_one (i := 19) (by kernel_rfl) rfl (fun K hK => ?_)
                  refine step_append_at wE Tryd.underlying70 info_int rfl _ _ rfl (gb + 1) t ca1 A1 ye xs u1 rfl rfl HT6.out.a HRW.out (by have h1 := (Own.base HT6.out.box).2; omega) (by omega) (by omega) ?_
                  intro g7 cap7 w7 hown hbel hgrow hloc
                  have HB7 : Hid (Below gb wb w7) := Lib.hid (HB6.out.trans (hbel.mono (Nat.le_succ _)))
                  have HBX := Lib.hid (HT6.out.box.keepBelow (S := gb + 1) (by omega) hbel)
                  have HT7 := Lib.hid (HT6.out.pushA hown hbel hgrow hloc)
                  have hy0 := HBX.out.cellAt 0 (by decide)
                  have hf0 := HBX.out.frozenAt 0
                  have HB8 : Hid (Below gb wb (w7.setCell ⟨gb, 0, none⟩ (.slice (some ⟨g7, 0, none⟩) (t + 1) cap7))) := Lib.hid (HB7.out.setCell (p := ⟨gb, 0, none⟩) (Nat.le_refl _) _)
                  clear hown hbel hgrow hloc
                  simp at hy0
                  refine hK _ _ (by intro _; obtain ⟨y2, y3, y4, y5, y6⟩ := HKP.out _ HB7.out; exact ⟨hy0, y3, y4, y5⟩) ?_
                  clear hK K
                  (try simp only [Act.put, List.setIfInBounds_toArray, List.set_cons_zero, List.set_cons_succ])
                  clear hS
                  have hS : (fun w' => w'.cell? ⟨gb, 0, none⟩ = some (.slice A1 t ca1) ∧ w'.cell? ⟨w.heap.size, 3, none⟩ = some (.int .i64 (L : Int)) ∧ w'.cell? ⟨w.heap.size, 4, none⟩ = some (.int .i64 (M : Int)) ∧ w'.cell? (xt.add q1) = some (.int .i64 u1)) w7 := by obtain ⟨y2, y3, y4, y5, y6⟩ := HKP.out _ HB7.out; exact ⟨hy0, y3, y4, y5⟩
                  refine wpAnyT_take3 (i := 20) (v := ?_) rfl (by kernel_rfl) (by kernel_rfl) (by kernel_rfl) (by kernel_rfl) (by kernel_rfl) (fun _ _ _ h => h) hS (Or.inl ⟨by rfl, ?_⟩) ?_
                  rotate_left
                  · (intro w' hSw; (try dsimp only at hSw); go_simp; (try with_reducible rfl))
                  (try simp only [Act.put, List.setIfInBounds_toArray, List.set_cons_zero, List.set_cons_succ])
                  refine wpAnyT_one (i := 21) (by kernel_rfl) rfl (fun K hK => ?_)
                  go_simp
                  refine hK _ _ (fun h => absurd h (by decide)) ?_
                  clear hK K
                  (try simp only [Act.put, List.setIfInBounds_toArray, List.set_cons_zero, List.set_cons_succ])
                  clear HT6 HB6 HRW hS
                  generalize (w7.setCell ⟨gb, 0, none⟩ (.slice (some ⟨g7, 0, none⟩) (t + 1) cap7)) = wF at *
                  refine wpAnyT_done (by kernel_rfl) ?_ _
                  refine NoPanic.normal ?_
                  clear hf0 hy0
                  obtain ⟨z2, z3, z4, z5, z6⟩ := HKP.out _ HB8.out
                  have z1 := HT7.out.box.cellAt 1 (by decide)
                  simp at z1
                  have hbA : Below wF.heap.size wF (wF.alloc (.cells #[.int .i64 (f2 : Int)] 3)) := (Below.refl _ _).alloc (Nat.le_refl _) _
                  have HT9 := Lib.hid (HT7.out.fresh hbA)
                  have hgs2 : gb < wF.heap.size := (Own.base HT7.out.box).2
                  have HB9 : Hid (Below gb wb (wF.alloc (.cells #[.int .i64 (f2 : Int)] 3))) := Lib.hid (HB8.out.trans (hbA.mono (by omega)))
                  have HRW : Hid (Row (wF.alloc (.cells #[.int .i64 (f2 : Int)] 3)) (some ⟨wF.heap.size, 0, none⟩) [.int .i64 (f2 : Int)]) := Lib.hid (row_new wF [.int .i64 (f2 : Int)] 3)
                  clear hbA HT7 HB8
                  go_wp2_with (at_builtin; go_loud (refine append_cells_at _ Tryd.underlying70 info_int rfl (by decide) rfl _ _ rfl (gb + 1) t cb1 1 1 B1 ⟨wF.heap.size, 0, none⟩ (nums .i64 ys) [.int .i64 (f2 : Int)] rfl rfl HT9.out.b HRW.out rfl (fun u hu => by rw [List.mem_singleton] at hu; rw [hu]; rfl) (by decide) (by have h1 := (Own.base HT9.out.box).2; omega) (by omega) (by omega) ?_); intro g9 cap9 w9 hown hbel hgrow hloc; have HBX9 := Lib.hid (HT9.out.box.keepBelow (S := gb + 1) (by omega) hbel); have hy0 := HBX9.out.cellAt 1 (by decide); have hf0 := HBX9.out.frozenAt 1; simp at hy0)
                  have HTG := Lib.hid (HT9.out.pushB hown hbel hgrow hloc)
                  have HBG : Hid (Below gb wb (w9.setCell ⟨gb, 1, none⟩ (.slice (some ⟨g9, 0, none⟩) (t + 1) cap9))) := Lib.hid ((HB9.out.trans (hbel.mono (Nat.le_succ _))).setCell (p := ⟨gb, 1, none⟩) (Nat.le_refl _) _)
                  clear hown hbel hgrow hloc z1 z2 z3 z4 z5 z6 hy0 hf0 HBX9 HT9 HB9 HRW
                  generalize (w9.setCell ⟨gb, 1, none⟩ (.slice (some ⟨g9, 0, none⟩) (t + 1) cap9)) = wG at *
                  have HTH : Hid (Tri gb (some ⟨g7, 0, none⟩) (some ⟨g9, 0, none⟩) C1 (t + 1) cap7 (t + 1) cap9 t cc1 (xs ++ [u1]) (ys ++ [(f2 : Int)]) zs wG.drew) := Lib.hid (HTG.out.fresh (Below.refl _ _).drew)
                  have HBH : Hid (Below gb wb wG.drew) := Lib.hid HBG.out.drew
                  have hSD : (fun w' => w'.cell? ⟨gb, 2, none⟩ = some (.slice C1 t cc1) ∧ w'.cell? ⟨w.heap.size, 3, none⟩ = some (.int .i64 (L : Int)) ∧ w'.cell? ⟨w.heap.size, 2, none⟩ = some (.int .i64 (R : Int)) ∧ w'.cell? (xt.add q2) = some (.int .i64 u2)) wG.drew := by
                    obtain ⟨y2, y3, y4, y5, y6⟩ := HKP.out _ HBH.out
                    have y0 := HTH.out.box.cellAt 2 (by decide)
                    exact ⟨y0, y3, y2, y6⟩
                  have hgs3 : gb < wG.drew.heap.size := (Own.base HTH.out.box).2
                  refine region_marks2 (k := 22) (S := (fun w' => w'.cell? ⟨gb, 2, none⟩ = some (.slice C1 t cc1) ∧ w'.cell? ⟨w.heap.size, 3, none⟩ = some (.int .i64 (L : Int)) ∧ w'.cell? ⟨w.heap.size, 2, none⟩ = some (.int .i64 (R : Int)) ∧ w'.cell? (xt.add q2) = some (.int .i64 u2))) (T := fun i => decide (i ≠ 21)) HMX.out rfl hSD (fun hS => ?_)
                  clear hSD HTG HBG
                  generalize wG.drew = wH at *
                  have hbA : Below wH.heap.size wH (wH.alloc (.cells #[.int .i64 u2] 3)) := (Below.refl _ _).alloc (Nat.le_refl _) _
                  have HTI := Lib.hid (HTH.out.fresh hbA)
                  have HBI : Hid (Below gb wb (wH.alloc (.cells #[.int .i64 u2] 3))) := Lib.hid (HBH.out.trans (hbA.mono (by omega)))
                  have HRW : Hid (Row (wH.alloc (.cells #[.int .i64 u2] 3)) (some ⟨wH.heap.size, 0, none⟩) [.int .i64 u2]) := Lib.hid (row_new wH [.int .i64 u2] 3)
                  clear hbA
                  refine wpAnyT_take3 (i := 0) (v := ?_) rfl (by kernel_rfl) (by kernel_rfl) (by kernel_rfl) (by kernel_rfl) (by kernel_rfl) (fun _ _ _ h => h) hS (Or.inl ⟨by rfl, ?_⟩) ?_
                  rotate_left
                  · (intro w' hSw; (try dsimp only at hSw); go_simp; (try with_reducible rfl))
                  (try simp only [Act.put, List.setIfInBounds_toArray, List.set_cons_zero, List.set_cons_succ])
                  refine wpAnyT_take3 (i := 1) (v := ?_) rfl (by kernel_rfl) (by kernel_rfl) (by kernel_rfl) (by kernel_rfl) (by kernel_rfl) (fun _ _ _ h => h) hS (Or.inl ⟨by rfl, ?_⟩) ?_
                  rotate_left
                  · (intro w' hSw; (try dsimp only at hSw); go_simp; (try with_reducible rfl))
                  (try simp only [Act.put, List.setIfInBounds_toArray, List.set_cons_zero, List.set_cons_succ])
                  refine wpAnyT_take3 (i := 2) (v := ?_) rfl (by kernel_rfl) (by kernel_rfl) (by kernel_rfl) (by kernel_rfl) (by kernel_rfl) (fun _ _ _ h => h) hS (Or.inl ⟨by rfl, ?_⟩) ?_
                  rotate_left
                  · (intro w' hSw; (try dsimp only at hSw); go_simp; (try with_reducible rfl))
                  (try simp only [Act.put, List.setIfInBounds_toArray, List.set_cons_zero, List.set_cons_succ])
                  refine wpAnyT_take3 (i := 3) (v := ?_) rfl (by kernel_rfl) (by kernel_rfl) (by kernel_rfl) (by kernel_rfl) (by kernel_rfl) (fun _ _ _ h => h) hS (Or.inl ⟨by rfl, ?_⟩) ?_
                  rotate_left
                  · (intro w' hSw; (try dsimp only at hSw); go_simp; (try with_reducible rfl))
                  (try simp only [Act.put, List.setIfInBounds_toArray, List.set_cons_zero, List.set_cons_succ])
                  refine wpAnyT_take3 (i := 4) (v := ?_) rfl (by kernel_rfl) (by kernel_rfl) (by kernel_rfl) (by kernel_rfl) (by kernel_rfl) (fun _ _ _ h => h) hS (Or.inl ⟨by rfl, ?_⟩) ?_
                  rotate_left
                  · (intro w' hSw; (try dsimp only at hSw); go_simp; (try with_reducible rfl))
                  (try simp only [Act.put, List.setIfInBounds_toArray, List.set_cons_zero, List.set_cons_succ])
                  refine wpAnyT_take3 (i := 5) (v := ?_) rfl (by kernel_rfl) (by kernel_rfl) (by kernel_rfl) (by kernel_rfl) (by kernel_rfl) (fun _ _ _ h => h) hS (Or.inl ⟨by rfl, ?_⟩) ?_
                  rotate_left
                  · (intro w' hSw; (try dsimp only at hSw); go_simp; (try with_reducible rfl))
                  (try simp only [Act.put, List.setIfInBounds_toArray, List.set_cons_zero, List.set_cons_succ])
                  refine wpAnyT_take3 (i := 6) (v := ?_) rfl (by kernel_rfl) (by kernel_rfl) (by kernel_rfl) (by kernel_rfl) (by kernel_rfl) (fun _ _ _ h => h) hS (Or.inl ⟨by rfl, ?_⟩) ?_
                  rotate_left
                  · (intro w' hSw; (try dsimp only at hSw); go_simp; (try with_reducible rfl))
                  (try simp only [Act.put, List.setIfInBounds_toArray, List.set_cons_zero, List.set_cons_succ])
                  refine wpAnyT_take3 (i := 7) (v := ?_) rfl (by kernel_rfl) (by kernel_rfl) (by kernel_rfl) (by kernel_rfl) (by kernel_rfl) (fun _ _ _ h => h) hS (Or.inl ⟨by rfl, ?_⟩) ?_
                  rotate_left
                  · (intro w' hSw; (try dsimp only at hSw); go_simp; (try with_reducible rfl))
                  (try simp only [Act.put, List.setIfInBounds_toArray, List.set_cons_zero, List.set_cons_succ])
                  refine wpAnyT_take3 (i := 8) (v := ?_) rfl (by kernel_rfl) (by kernel_rfl) (by kernel_rfl) (by kernel_rfl) (by kernel_rfl) (fun _ _ _ h => h) hS (Or.inl ⟨by rfl, ?_⟩) ?_
                  rotate_left
                  · (intro w' hSw; (try dsimp only at hSw); go_simp; (try with_reducible rfl))
                  (try simp only [Act.put, List.setIfInBounds_toArray, List.set_cons_zero, List.set_cons_succ])
                  refine wpAnyT_take3 (i := 9) (v := ?_) rfl (by kernel_rfl) (by kernel_rfl) (by kernel_rfl) (by kernel_rfl) (by kernel_rfl) (fun _ _ _ h => h) hS (Or.inl ⟨by rfl, ?_⟩) ?_
                  rotate_left
                  · (intro w' hSw; (try dsimp only at hSw); go_simp; (try with_reducible rfl))
                  (try simp only [Act.put, List.setIfInBounds_toArray, List.set_cons_zero, List.set_cons_succ])
                  refine wpAnyT_take3 (i := 10) (v := ?_) rfl (by kernel_rfl) (by kernel_rfl) (by kernel_rfl) (by kernel_rfl) (by kernel_rfl) (fun _ _ _ h => h) hS (Or.inl ⟨by rfl, ?_⟩) ?_
                  rotate_left
                  · (intro w' hSw; (try dsimp only at hSw); go_simp; (try with_reducible rfl))
                  (try simp only [Act.put, List.setIfInBounds_toArray, List.set_cons_zero, List.set_cons_succ])
                  refine wpAnyT_take3 (i := 11) (v := ?_) rfl (by kernel_rfl) (by kernel_rfl) (by kernel_rfl) (by kernel_rfl) (by kernel_rfl) (fun _ _ _ h => h) hS (Or.inl ⟨by rfl, ?_⟩) ?_
                  rotate_left
                  · (intro w' hSw; (try dsimp only at hSw); go_simp; (try with_reducible rfl))
                  (try simp only [Act.put, List.setIfInBounds_toArray, List.set_cons_zero, List.set_cons_succ])
                  refine wpAnyT_take3 (i := 12) (v := ?_) rfl (by kernel_rfl) (by kernel_rfl) (by kernel_rfl) (by kernel_rfl) (by kernel_rfl) (fun _ _ _ h => h) hS (Or.inl ⟨by rfl, ?_⟩) ?_
                  rotate_left
                  · (intro w' hSw; (try dsimp only at hSw); go_simp; (try with_reducible rfl))
                  (try simp only [Act.put, List.setIfInBounds_toArray, List.set_cons_zero, List.set_cons_succ])
                  refine wpAnyT_take3 (i := 13) (v := ?_) rfl (by kernel_rfl) (by kernel_rfl) (by kernel_rfl) (by kernel_rfl) (by kernel_rfl) (fun _ _ _ h => h) hS (Or.inl ⟨by rfl, ?_⟩) ?_
                  rotate_left
                  · (intro w' hSw; (try dsimp only at hSw); go_simp; (try with_reducible rfl))
                  (try simp only [Act.put, List.setIfInBounds_toArray, List.set_cons_zero, List.set_cons_succ])
                  refine wpAnyT_take3 (i := 14) (v := ?_) rfl (by kernel_rfl) (by kernel_rfl) (by kernel_rfl) (by kernel_rfl) (by kernel_rfl) (fun _ _ _ h => h) hS (Or.inl ⟨by rfl, ?_⟩) ?_
                  rotate_left
                  · (intro w' hSw; (try dsimp only at hSw); go_simp; (try with_reducible rfl))
                  (try simp only [Act.put, List.setIfInBounds_toArray, List.set_cons_zero, List.set_cons_succ])
                  refine wpAnyT_take3 (i := 15) (v := ?_) rfl (by kernel_rfl) (by kernel_rfl) (by kernel_rfl) (by kernel_rfl) (by kernel_rfl) (fun _ _ _ h => h) hS (Or.inl ⟨by rfl, ?_⟩) ?_
                  rotate_left
                  · (intro w' hSw; (try dsimp only at hSw); go_simp; (try with_reducible rfl))
                  (try simp only [Act.put, List.setIfInBounds_toArray, List.set_cons_zero, List.set_cons_succ])
                  refine wpAnyT_take3 (i := 16) (v := ?_) rfl (by kernel_rfl) (by kernel_rfl) (by kernel_rfl) (by kernel_rfl) (by kernel_rfl) (fun _ _ _ h => h) hS (Or.inl ⟨by rfl, ?_⟩) ?_
                  rotate_left
                  · (intro w' hSw; (try dsimp only at hSw); go_simp; (try with_reducible rfl))
                  (try simp only [Act.put, List.setIfInBounds_toArray, List.set_cons_zero, List.set_cons_succ])
                  refine wpAnyT_take3 (i := 17) (v := ?_) rfl (by kernel_rfl) (by kernel_rfl) (by kernel_rfl) (by kernel_rfl) (by kernel_rfl) (fun _ _ _ h => h) hS (Or.inl ⟨by rfl, ?_⟩) ?_
                  rotate_left
                  · (intro w' hSw; (try dsimp only at hSw); go_simp; (try with_reducible rfl))
                  (try simp only [Act.put, List.setIfInBounds_toArray, List.set_cons_zero, List.set_cons_succ])
                  refine wpAnyT_one (i := 18) (by kernel_rfl) rfl (fun K hK => ?_)
                  go_simp
                  refine hK _ _ (by intro _; obtain ⟨y2, y3, y4, y5, y6⟩ := HKP.out _ HBI.out; have y0 := HTI.out.box.cellAt 2 (by decide); exact ⟨y0, y3, y2, y6⟩) ?_
                  clear hK K
                  (try simp only [Act.put, List.setIfInBounds_toArray, List.set_cons_zero, List.set_cons_succ])
                  clear HTH HBH
                  generalize (wH.alloc (.cells #[.int .i64 u2] 3)) = wI at *
                  generalize (⟨wH.heap.size, 0, none⟩ : Addr) = yi at *
                  refine wpAnyT_one (i := 19) (by kernel_rfl) rfl (fun K hK => ?_)
                  refine step_append_at wI Tryd.underlying70 info_int rfl _ _ rfl (gb + 1) t cc1 C1 yi zs u2 rfl rfl HTI.out.c HRW.out (by have h1 := (Own.base HTI.out.box).2; omega) (by omega) (by omega) ?_
                  intro g11 cap11 w11 hown hbel hgrow hloc
                  have HBK : Hid (Below gb wb w11) := Lib.hid (HBI.out.trans (hbel.mono (Nat.le_succ _)))
                  have HBX := Lib.hid (HTI.out.box.keepBelow (S := gb + 1) (by omega) hbel)
                  have HTJ := Lib.hid (HTI.out.pushC hown hbel hgrow hloc)
                  have hy1 := HBX.out.cellAt 2 (by decide)
                  have hf1 := HBX.out.frozenAt 2
                  have HBJ : Hid (Below gb wb (w11.setCell ⟨gb, 2, none⟩ (.slice (some ⟨g11, 0, none⟩) (t + 1) cap11))) := Lib.hid (HBK.out.setCell (p := ⟨gb, 2, none⟩) (Nat.le_refl _) _)
                  clear hown hbel hgrow hloc
                  simp at hy1
                  refine hK _ _ (by intro _; obtain ⟨y2, y3, y4, y5, y6⟩ := HKP.out _ HBK.out; exact ⟨hy1, y3, y2, y6⟩) ?_
                  clear hK K
                  (try simp only [Act.put, List.setIfInBounds_toArray, List.set_cons_zero, List.set_cons_succ])
                  clear hS
                  have hS : (fun w' => w'.cell? ⟨gb, 2, none⟩ = some (.slice C1 t cc1) ∧ w'.cell? ⟨w.heap.size, 3, none⟩ = some (.int .i64 (L : Int)) ∧ w'.cell? ⟨w.heap.size, 2, none⟩ = some (.int .i64 (R : Int)) ∧ w'.cell? (xt.add q2) = some (.int .i64 u2)) w11 := by obtain ⟨y2, y3, y4, y5, y6⟩ := HKP.out _ HBK.out; exact ⟨hy1, y3, y2, y6⟩
                  refine wpAnyT_take3 (i := 20) (v := ?_) rfl (by kernel_rfl) (by kernel_rfl) (by kernel_rfl) (by kernel_rfl) (by kernel_rfl) (fun _ _ _ h => h) hS (Or.inl ⟨by rfl, ?_⟩) ?_
                  rotate_left
                  · (intro w' hSw; (try dsimp only at hSw); go_simp; (try with_reducible rfl))
                  (try simp only [Act.put, List.setIfInBounds_toArray, List.set_cons_zero, List.set_cons_succ])
                  refine wpAnyT_one (i := 21) (by kernel_rfl) rfl (fun K hK => ?_)
                  go_simp
                  refine hK _ _ (fun h => absurd h (by decide)) ?_
                  clear hK K
                  (try simp only [Act.put, List.setIfInBounds_toArray, List.set_cons_zero, List.set_cons_succ])
                  clear HTI HBI HRW hS
                  generalize (w11.setCell ⟨gb, 2, none⟩ (.slice (some ⟨g11, 0, none⟩) (t + 1) cap11)) = wJ at *
                  refine wpAnyT_done (by kernel_rfl) ?_ _
                  refine NoPanic.normal ?_
                  clear hf1 hy1 o1 o2 o3 o4 o5 o6 o7 o8 o9 hgs hgs2 hgs3 hq1 hq2
                  go_wp2
                  go_roundw
                  case rel => exact ⟨t + 1, _, _, _, _, _, _, by omega, by go_num, Lib.hid (by rw [HE1.out, HE2.out, HE3.out]; exact HTJ.out), HBJ⟩
                  case measure => simp [intOf]; omega
                · have hte : t = R := by omega
                  subst hte
                  have hb6 : Below wb.heap.size wb wr := by rw [← HGE.out]; exact HBT.out
                  have HI6 := Lib.hid (HI5.out.fresh hb6)
                  have HY6 := Lib.hid (HY5.out.below hb6)
                  have HB6 := Lib.hid (blT HB5.out hb6)
                  have HLT : Hid (∀ x, Z5 = some x → x.block < gb + 1) := Lib.hid fun x hx => by have h1 := HI5.out.lt x hx; have h2 := HGE.out; omega
                  clear hb6
                  have z0 := HTR.out.box.cellAt 0 (by decide)
                  have z1 := HTR.out.box.cellAt 1 (by decide)
                  have z2 := HTR.out.box.cellAt 2 (by decide)
                  simp at z0 z1 z2
                  have HG : Hid (grpG (dimsA ax) k false t L M ((j * M + a) * L + b) = (gatL (lineL (dimsA ax) k j) (rowL (b + L * a) (L * M) t), rowL (a * t) 1 t, gatL (lineL (dimsA ax) k j) (rowL (b + L * t * a) L t))) := Lib.hid (by rw [grpG_stage _ _ _ hla hlb]; rfl)
                  have hbA : Below wr.heap.size wr (wr.alloc (.cells #[.slice A1 t ca1, .slice B1 t cb1, .slice C1 t cc1] 72)) := (Below.refl _ _).alloc (Nat.le_refl _) _
                  have HI7 := Lib.hid (HI6.out.fresh hbA)
                  have HY7 := Lib.hid (HY6.out.below hbA)
                  have HB7 := Lib.hid (blT HB6.out hbA)
                  have HRA := Lib.hid ((RowZ.new HLT.out HTR.out.a).below hbA)
                  have HRB := Lib.hid ((RowZ.new HLT.out HTR.out.b).below hbA)
                  have HRC := Lib.hid ((RowZ.new HLT.out HTR.out.c).below hbA)
                  have HRW : Hid (Row (wr.alloc (.cells #[.slice A1 t ca1, .slice B1 t cb1, .slice C1 t cc1] 72)) (some ⟨wr.heap.size, 0, none⟩) (hgC t ⟨A1, B1, C1, ca1, cb1, cc1⟩)) := Lib.hid (row_new wr (hgC t ⟨A1, B1, C1, ca1, cb1, cc1⟩) 72)
                  clear hbA
                  obtain ⟨hs, ho7, hl7, hg7⟩ := HI7.out.ex
                  have HO7 := Lib.hid ho7
                  have HL7 := Lib.hid hl7
                  have HG7 := Lib.hid hg7
                  have hgn : (j * M + a) * L + b < K * M * L := digit_lt2 (digit_lt2 hlt hla) hlb
                  have hgs := HGS.out
                  clear ho7 hl7 hg7
                  have hnum : (j * M + a) * L + b ≤ 4096 := by omega
                  have HIX : Hid ((j * M + a) * L + (b + 1) = ((j * M + a) * L + b) + 1) := Lib.hid rfl
                  clear hgn hgs
                  generalize (j * M + a) * L + b = gi at *
                  go_wp2
                  subst hQ3
                  go_wp2_with (at_builtin; go_loud (refine append_cells_at _ Tryd.underlying65 info_grp rfl (by decide) rfl _ _ rfl w2'.heap.size gi z5 1 1 Z5 ⟨wr.heap.size, 0, none⟩ (hgR t hs) (hgC t ⟨A1, B1, C1, ca1, cb1, cc1⟩) rfl rfl HO7.out HRW.out rfl (hgC_one _ _) (by decide) HB7.out.size (by omega) (by omega) ?_); intro g8 cap8 w8 hown hbel hgrow hloc)
                  have HIE : Hid (InvR w2'.heap.size (grpG (dimsA ax) k false t L M) t (gi + 1) (some ⟨g8, 0, none⟩) cap8 w8) := Lib.hid (InvR.push HL7.out HG7.out (by rw [HG.out]; exact HRA.out) (by rw [HG.out]; exact HRB.out) (by rw [HG.out]; exact HRC.out) hown hgrow hloc)
                  have HBE := Lib.hid (HB7.out.trans hbel)
                  have HYE := Lib.hid (HY7.out.push hgrow hloc)
                  clear hown hbel hgrow hloc z0 z1 z2
                  go_roundw
                  case rel => exact ⟨b + 1, some ⟨g8, 0, none⟩, cap8, by omega, by go_num, by rw [HIX.out], Lib.hid (by rw [HIX.out]; exact HIE.out), HBE, HYE⟩
                  case measure => simp [intOf]; omega
            · have hbe : b = L := by omega
              have HIE : Hid (InvR w2'.heap.size (grpG (dimsA ax) k false R L M) R ((j * M + (a + 1)) * L) Z5 z5 wr) := Lib.hid (by
                have h1 := HI5.out
                rw [hbe, ← Nat.succ_mul] at h1
                exact h1)
              have hix : (j * M + a) * L + b = (j * M + (a + 1)) * L := by rw [hbe, ← Nat.succ_mul]; rfl
              clear hbe
              go_wp2
              subst hQ2
              go_wp2
              go_roundw
              case rel => exact ⟨a + 1, Z5, z5, by omega, by go_num, by rw [hix], HIE, HB5, HY5⟩
              case measure => simp [intOf]; omega
        · have hae : a = M := by omega
          have HIE : Hid (InvR w2'.heap.size (grpG (dimsA ax) k false R L M) R ((j + 1) * M * L) Z4 z4 wr) := Lib.hid (by
            have h1 := HI4.out
            rw [hae, ← Nat.succ_mul] at h1
            exact h1)
          have hix : (j * M + a) * L = (j + 1) * M * L := by rw [hae, ← Nat.succ_mul]
          clear hae
          go_wp2
          subst hQ
          go_wp2
          go_roundw
          case rel => exact ⟨j + 1, Z4, z4, by omega, by go_num, by rw [hix], HIE, HB4⟩
          case measure => simp [intOf]; omega
    · have hje : j = K := by omega
      subst hje
      have HBE := Lib.hid (blT HB2.out HBW.out)
      go_wp2
      go_ret2
      exact HI2.out.grps HBE.out
end Go.Proofs.YtohcoidbncbijaaDoor.P
/- The contract of brackenref16.Groups, of any step. Conditions: words of their kinds; slices read as lists. -/
namespace Go.Proofs.YtohcoidbncbijaaDoor.P
open Go.RowKit
set_option linter.unusedVariables false
set_option linter.unusedSimpArgs false
theorem Grps.below {G : Nat → Grp} {r cnt B : Nat} {w0 w : World} {e : Ending} {w' : World} (h : Grps G r cnt B w e w') (hb : Below B w0 w) : Grps G r cnt B w0 e w' := by
  obtain ⟨Z, z, hs, h1, h2, h3, h4, h5⟩ := h
  exact ⟨Z, z, hs, h1, h2, h3, h4, hb.trans h5⟩
theorem grpG_len (l : List Int) (k : Nat) (t : Bool) (R L M g : Nat) : (grpG l k t R L M g).1.length = grpR t R ∧ (grpG l k t R L M g).2.1.length = grpR t R ∧ (grpG l k t R L M g).2.2.length = grpR t R := by
  unfold grpG grpR
  cases t
  · simp only [Bool.false_eq_true, if_false]; exact grpS_len ..
  · simp only [if_true]; exact ⟨rfl, rfl, rfl⟩
set_option maxRecDepth 100000 in
set_option maxHeartbeats 4000000 in
theorem r16grp_no (p : Int) (A : Option Addr) (c n : Nat) (ax : List (Int × Bool)) (s0 : Int) (s1 : Bool) (s2 s3 s4 : Int) (w : World) (hn : ax.length = n) (hp : U64 p) (hr : Row w A (axR ax)) (hl : n ≤ 8796093022208) (hw : ∀ a ∈ ax, i64 a.1) (hc : chk16 p ax (s0, s1, s2, s3, s4) ≠ 0) :
    Calls Tryd.prog 45 #[.int .u64 p, .slice A n c, .agg #[.int .i64 s0, .bool s1, .int .i64 s2, .int .i64 s3, .int .i64 s4]] w fun e w' =>
      e = .returned (.tuple #[.slice none 0 0, .int .i64 (chk16 p ax (s0, s1, s2, s3, s4))]) ∧ Below w.heap.size w w' := by
  have HP := Lib.hid hp
  have HN := Lib.hid hn
  have HW := Lib.hid hw
  have hb0 : Below w.heap.size w (w.alloc (.cells #[.int .i64 s0, .bool s1, .int .i64 s2, .int .i64 s3, .int .i64 s4] 39)) := (Below.refl _ _).alloc (Nat.le_refl _) _
  have HB0 := Lib.hid hb0
  have HR0 := Lib.hid (hr.below hb0)
  have t0 : (chk16 p ax (s0, s1, s2, s3, s4) != 0) = true := by simpa using hc
  clear hn hp hr hw hb0 hc
  go_enter Tryd.func45, Tryd.ntmps45
  go_wp2_with fail
  generalize (w.alloc (.cells #[.int .i64 s0, .bool s1, .int .i64 s2, .int .i64 s3, .int .i64 s4] 39)) = V0 at *
  refine (r16chk_calls p _ _ _ ax s0 s1 s2 s3 s4 V0 HN.out HP.out HR0.out hl HW.out).mono ?_
  rintro e w2 ⟨rfl, hb⟩
  have HB2 := Lib.hid (blT HB0.out hb)
  clear hb
  go_wp2
  go_ret2
  exact ⟨rfl, HB2.out⟩
theorem r16grp_yes (p : Int) (A : Option Addr) (c n : Nat) (ax : List (Int × Bool)) (k : Nat) (s1 : Bool) (s2 s3 s4 : Int) (N : Nat) (neg : Bool) (w : World) (hn : ax.length = n) (hp : U64 p) (hr : Row w A (axR ax)) (hl : n ≤ 8796093022208) (hw : ∀ a ∈ ax, i64 a.1) (hc : chk16 p ax ((k : Int), s1, s2, s3, s4) = 0) (hK : StepK p ax ((k : Int), s1, s2, s3, s4) k N neg) :
    Calls Tryd.prog 45 #[.int .u64 p, .slice A n c, .agg #[.int .i64 (k : Int), .bool s1, .int .i64 s2, .int .i64 s3, .int .i64 s4]] w
      (Grps (grpG (dimsA ax) k s1 s2.toNat s3.toNat s4.toNat) (grpR s1 s2.toNat) (grpC (dimsA ax) k s1 s3.toNat s4.toNat) w.heap.size w) := by
  have hN1 := hK.c6.n1
  have hp1 := hK.chk.dims.pos.prod
  rcases hK.kind with ⟨ht, hz⟩ | ⟨ht, hz⟩
  · dsimp only at ht hz
    subst ht
    simp only [Prod.mk.injEq] at hz
    obtain ⟨rfl, rfl, rfl⟩ := hz
    have e1 : grpG (dimsA ax) k true (0 : Int).toNat (0 : Int).toNat (0 : Int).toNat = grpT (dimsA ax) k := by funext g; exact grpG_twist ..
    have e2 : grpC (dimsA ax) k true (0 : Int).toNat (0 : Int).toNat = (prodL (dimsA ax)).toNat := by unfold grpC; rw [if_pos rfl]
    rw [e1, e2]
    exact r16grp_twist p A c n ax k N neg _ w hn hp hr hl hw hc hK (by omega)
  · dsimp only at ht hz
    subst ht
    obtain ⟨R, L, M, hs, hS⟩ := stg_mem hK.c6.smooth hz
    simp only [Prod.mk.injEq] at hs
    obtain ⟨rfl, rfl, rfl⟩ := hs
    obtain ⟨K, hKK⟩ := Int.eq_ofNat_of_zero_le (show 0 ≤ prodL (dimsA ax) / (N : Int) from Int.ediv_nonneg (by omega) (by omega))
    have e2 : grpC (dimsA ax) k false (L : Int).toNat (M : Int).toNat = K * M * L := by
      unfold grpC
      rw [if_neg (by decide), hK.dim, hKK]
      simp only [Int.toNat_natCast]
    rw [e2]
    simp only [Int.toNat_natCast]
    exact r16grp_stage p A c n ax k N neg R L M K w hn hp hr hl hw hc hK hS hKK
theorem sgrp_yes (p : Int) (A : Option Addr) (c n : Nat) (ax : List (Int × Bool)) (k : Nat) (s1 : Bool) (s2 s3 s4 : Int) (N : Nat) (neg : Bool) (w : World) (hn : ax.length = n) (hp : U64 p) (hr : Row w A (axR ax)) (hl : n ≤ 8796093022208) (hw : ∀ a ∈ ax, i64 a.1) (hT : Tab w) (hc : chk16 p ax ((k : Int), s1, s2, s3, s4) = 0) (hK : StepK p ax ((k : Int), s1, s2, s3, s4) k N neg) :
    Calls Tryd.prog 44 #[.int .u64 p, .slice A n c, .agg #[.int .i64 (k : Int), .bool s1, .int .i64 s2, .int .i64 s3, .int .i64 s4]] w
      (Grps (grpG (dimsA ax) k s1 s2.toNat s3.toNat s4.toNat) (grpR s1 s2.toNat) (grpC (dimsA ax) k s1 s3.toNat s4.toNat) w.heap.size w) :=
  sgroups_yes p A c n ax k s1 s2 s3 s4 N neg w hn hp hr hl hw hT hc hK
end Go.Proofs.YtohcoidbncbijaaDoor.P
