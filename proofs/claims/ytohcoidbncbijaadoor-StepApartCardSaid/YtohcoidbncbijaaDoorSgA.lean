
/- The contract of the closure of step.Groups: a group is put behind those that are there. Conditions: slices read as lists; they lie elsewhere than the list of groups. -/
import Derived.Test.YtohcoidbncbijaaDoorStpB
import Derived.Test.YtohcoidbncbijaaDoorPlF
namespace Go.Proofs.YtohcoidbncbijaaDoor.P
open Go.RowKit
set_option linter.unusedVariables false
set_option linter.unusedSimpArgs false
/-- Where a group's lists lie. -/
structure HG where
  A : Option Addr
  B : Option Addr
  C : Option Addr
  ca : Nat
  cb : Nat
  cc : Nat
def hgC (r : Nat) (h : HG) : List Value := [.slice h.A r h.ca, .slice h.B r h.cb, .slice h.C r h.cc]
def hgR (r : Nat) (l : List HG) : List Value := l.flatMap (hgC r)
theorem hgR_length (r : Nat) (l : List HG) : (hgR r l).length = l.length * 3 := flat_len (hgC r) 3 (fun _ => rfl) l
theorem hgR_append (r : Nat) (l m : List HG) : hgR r (l ++ m) = hgR r l ++ hgR r m := by simp [hgR]
theorem hgR_one (r : Nat) (h : HG) : hgR r [h] = hgC r h := by simp [hgR]
theorem hgC_one (r : Nat) (h : HG) : ∀ u ∈ hgC r h, u.oneCell' = true := by
  intro u hu
  simp only [hgC, List.mem_cons, List.not_mem_nil, or_false] at hu
  rcases hu with rfl | rfl | rfl <;> rfl
theorem hg_cells {w : World} {x : Addr} {r : Nat} {l : List HG} (h : Row w (some x) (hgR r l)) {k : Nat} (hk : k < l.length) :
    w.cell? (x.add (k * 3)) = some (.slice l[k].A r l[k].ca) ∧ w.cell? ⟨(x.add (k * 3)).block, (x.add (k * 3)).off + 1, none⟩ = some (.slice l[k].B r l[k].cb) ∧ w.cell? ⟨(x.add (k * 3)).block, (x.add (k * 3)).off + 2, none⟩ = some (.slice l[k].C r l[k].cc) := by
  have e : ∀ j, j < 3 → (hgR r l)[k * 3 + j]? = (hgC r l[k])[j]? := fun j hj => flat_get (hgC r) 3 (fun _ => rfl) l k hk j hj
  rw [add_next x _ 1 (by decide), add_next x _ 2 (by decide)]
  exact ⟨h.cell (e 0 (by decide)), h.cell (e 1 (by decide)), h.cell (e 2 (by decide))⟩
theorem info_grp : (Tryd.prog.info? 72).map (fun i => (i.zero, i.size, i.bytes)) = some (some (.agg #[.slice none 0 0, .slice none 0 0, .slice none 0 0]), 3, 72) := by kernel_rfl
/-- The blocks that change: that of the variable, that of the list. -/
def MineG (bo : Nat) : World → Nat → Prop := fun ws b => b = bo ∨ ∃ x n c, ws.cell? ⟨bo, 0, none⟩ = some (.slice (some x) n c) ∧ x.block = b
structure InvG (bo : Nat) (w0 : World) (G : Nat → Grp) (r g : Nat) (ws : World) : Prop where
  bel : Below w0.heap.size w0 ws
  bo0 : w0.heap.size ≤ bo
  ex : ∃ Z c hs, Own ws bo 65 1 (some ⟨bo, 0, none⟩) 1 1 [.slice Z g c] ∧ Own ws (bo + 1) 72 3 Z g c (hgR r hs) ∧ hs.length = g ∧
    ∀ i (h : i < hs.length), RowM (MineG bo) ws hs[i].A (nums .i64 (G i).1) ∧ RowM (MineG bo) ws hs[i].B (nums .i64 (G i).2.1) ∧ RowM (MineG bo) ws hs[i].C (nums .i64 (G i).2.2)
theorem kpG {bo : Nat} {w w' : World} {Z : Option Addr} {n c gb n' c' : Nat} (hz : w.cell? ⟨bo, 0, none⟩ = some (.slice Z n c)) (hs : w.heap.size ≤ w'.heap.size) (hk : ∀ b, b < w.heap.size → b ≠ bo → (∀ x, Z = some x → x.block ≠ b) → w'.heap[b]? = w.heap[b]?)
    (hz' : w'.cell? ⟨bo, 0, none⟩ = some (.slice (some ⟨gb, 0, none⟩) n' c')) (hg : (∃ x, Z = some x ∧ x.block = gb) ∨ w.heap.size ≤ gb) : Kp (MineG bo) w w' := by
  refine ⟨hs, fun b hb hm => ?_⟩
  have hm1 : b ≠ bo := fun e => hm (.inl e)
  have hm2 : ∀ x, Z = some x → x.block ≠ b := fun x hx e => hm (.inr ⟨x, n, c, by rw [hz, hx], e⟩)
  refine ⟨hk b hb hm1 hm2, ?_⟩
  rintro (e | ⟨x, n2, c2, h1, h2⟩)
  · exact hm1 e
  · rw [hz'] at h1
    cases h1
    rcases hg with ⟨y, hy, e⟩ | e
    · exact hm2 y hy (by rw [e]; exact h2)
    · dsimp only at h2
      omega
theorem kpG_below {bo : Nat} {w w' : World} (hlt : bo < w.heap.size) (hb : Below w.heap.size w w') : Kp (MineG bo) w w' ∧ ∀ b, MineG bo w' b → MineG bo w b := by
  have e : w'.cell? ⟨bo, 0, none⟩ = w.cell? ⟨bo, 0, none⟩ := hb.cell hlt
  have h2 : ∀ b, MineG bo w' b → MineG bo w b := fun b h => by
    rcases h with h | ⟨x, n, c, h1, h3⟩
    · exact .inl h
    · exact .inr ⟨x, n, c, by rw [← e]; exact h1, h3⟩
  exact ⟨⟨hb.size, fun b hlt' hm => ⟨hb.block b hlt', fun h => hm (h2 b h)⟩⟩, h2⟩
theorem InvG.lt {bo : Nat} {w0 : World} {G : Nat → Grp} {r g : Nat} {ws : World} (h : InvG bo w0 G r g ws) : bo < ws.heap.size := by
  obtain ⟨Z, c, hs, h1, _⟩ := h.ex
  exact (Own.base h1).2
theorem InvG.fresh {bo : Nat} {w0 : World} {G : Nat → Grp} {r g : Nat} {ws w' : World} (h : InvG bo w0 G r g ws) (hb : Below ws.heap.size ws w') : InvG bo w0 G r g w' := by
  have hk := (kpG_below h.lt hb).1
  obtain ⟨Z, c, hs, h1, h2, h3, h4⟩ := h.ex
  exact ⟨blT h.bel hb, h.bo0, Z, c, hs, h1.grown hb, h2.grown hb, h3, fun i hi => ⟨(h4 i hi).1.kp hk, (h4 i hi).2.1.kp hk, (h4 i hi).2.2.kp hk⟩⟩
theorem tellsG (bo : Nat) (w0 : World) (G : Nat → Grp) (r : Nat) : Tells (InvG bo w0 G r) (MineG bo) := by
  refine ⟨fun g w b hi hb => ?_, fun g w w' hi hb => ⟨hi.fresh hb, (kpG_below hi.lt hb).2⟩⟩
  rcases hb with e | ⟨x, n, c, h1, h2⟩
  · rw [e]; exact hi.lt
  · obtain ⟨Z, c', hs, h3, h4, _⟩ := hi.ex
    have h5 := h3.cellAt 0 (by decide)
    rw [h1] at h5
    have h6 := Option.some.inj h5
    simp only [List.getElem_cons_zero, Value.slice.injEq] at h6
    have hx := h6.1
    subst hx
    have h7 := World.ownsRow.lt h4 x.block rfl
    rw [← h2]
    exact h7.2
set_option maxRecDepth 100000 in
set_option maxHeartbeats 4000000 in
theorem sgrp1_calls (bo : Nat) (w0 : World) (G : Nat → Grp) (r g cnt : Nat) (w : World) (A B C : Option Addr) (ca cb cc : Nat) (hi : InvG bo w0 G r g w) (hg : g ≤ 100000) (ra : RowM (MineG bo) w A (nums .i64 (G g).1)) (rb : RowM (MineG bo) w B (nums .i64 (G g).2.1)) (rc : RowM (MineG bo) w C (nums .i64 (G g).2.2)) :
    Calls Tryd.prog 89 #[.agg #[.slice A r ca, .slice B r cb, .slice C r cc], .pointer (some ⟨bo, 0, none⟩)] w fun e w' => e = .returned (.tuple #[]) ∧ InvG bo w0 G r (g + 1) w' ∧ Kp (MineG bo) w w' := by
  obtain ⟨Z, c, hs, h1, h2, h3, h4⟩ := hi.ex
  have hlt := hi.lt
  have hbA : Below w.heap.size w (w.alloc (.cells #[.slice A r ca, .slice B r cb, .slice C r cc] 72)) := (Below.refl _ _).alloc (Nat.le_refl _) _
  have hbV : Below w.heap.size w ((w.alloc (.cells #[.slice A r ca, .slice B r cb, .slice C r cc] 72)).alloc (.cells #[.slice A r ca, .slice B r cb, .slice C r cc] 72)) := hbA.alloc (by simp) _
  have hrow : Row ((w.alloc (.cells #[.slice A r ca, .slice B r cb, .slice C r cc] 72)).alloc (.cells #[.slice A r ca, .slice B r cb, .slice C r cc] 72)) (some ⟨w.heap.size + 1, 0, none⟩) (hgC r ⟨A, B, C, ca, cb, cc⟩) := by
    have h5 := row_new (w.alloc (.cells #[.slice A r ca, .slice B r cb, .slice C r cc] 72)) [.slice A r ca, .slice B r cb, .slice C r cc] 72
    rw [show (w.alloc (.cells #[.slice A r ca, .slice B r cb, .slice C r cc] 72)).heap.size = w.heap.size + 1 by simp] at h5
    exact h5
  have hz0 : w.cell? ⟨bo, 0, none⟩ = some (.slice Z g c) := h1.cellAt 0 (by decide)
  have hzA : (w.alloc (.cells #[.slice A r ca, .slice B r cb, .slice C r cc] 72)).cell? ⟨bo, 0, none⟩ = some (.slice Z g c) := (hbA.cell hlt).trans hz0
  have HO1 := Lib.hid (h1.grown hbV)
  have HO2 := Lib.hid (h2.grown hbV)
  have HBV := Lib.hid hbV
  have HRW := Lib.hid hrow
  have HL3 := Lib.hid h3
  have HZ0 := Lib.hid hz0
  have HLT := Lib.hid hlt
  have HR4 := Lib.hid h4
  have HRA := Lib.hid ra
  have HRB := Lib.hid rb
  have HRC := Lib.hid rc
  have HII := Lib.hid hi
  have HZB : Hid (∀ x, Z = some x → bo + 1 ≤ x.block) := Lib.hid h2.from'
  have hsz : ((w.alloc (.cells #[.slice A r ca, .slice B r cb, .slice C r cc] 72)).alloc (.cells #[.slice A r ca, .slice B r cb, .slice C r cc] 72)).heap.size = w.heap.size + 1 + 1 := by simp
  have HSZ := Lib.hid hsz
  clear h1 h2 h3 h4 hi hbA hbV hrow hz0 hlt ra rb rc hsz
  go_enter Tryd.func89, Tryd.ntmps89
  go_wp2_with (at_builtin; go_loud (refine append_cells_at _ Tryd.underlying65 info_grp rfl (by decide) rfl _ _ rfl (bo + 1) g c 1 1 Z ⟨w.heap.size + 1, 0, none⟩ (hgR r hs) (hgC r ⟨A, B, C, ca, cb, cc⟩) rfl rfl HO2.out HRW.out rfl (hgC_one _ _) (by decide) (by have h5 := HSZ.out; have h6 := HLT.out; omega) (by omega) (by omega) ?_); intro gb cap w6 hown hbel hgrow hloc; have HO6 := Lib.hid (HO1.out.keepBelow (S := bo + 1) (by omega) hbel); have ho6 := HO6.out.cellAt 0 (by decide); have hf6 := HO6.out.frozenAt 0; simp at ho6)
  have HOW := Lib.hid hown
  have HGR := Lib.hid hgrow
  have HLO := Lib.hid hloc
  have HBE := Lib.hid hbel
  clear hown hgrow hloc hbel
  have hfin : InvG bo w0 G r (g + 1) (w6.setCell ⟨bo, 0, none⟩ (.slice (some ⟨gb, 0, none⟩) (g + 1) cap)) ∧ Kp (MineG bo) w (w6.setCell ⟨bo, 0, none⟩ (.slice (some ⟨gb, 0, none⟩) (g + 1) cap)) := by
    have hsz := HSZ.out
    have hlt := HLT.out
    generalize hV : ((w.alloc (.cells #[.slice A r ca, .slice B r cb, .slice C r cc] 72)).alloc (.cells #[.slice A r ca, .slice B r cb, .slice C r cc] 72)) = V at *
    have hs6 : V.heap.size ≤ w6.heap.size := HBE.out.size
    have s1 := HO6.out.stored 0 (.slice (some ⟨gb, 0, none⟩) (g + 1) cap)
    simp at s1
    have s2 := (HOW.out.setBelow (p := ⟨bo, 0, none⟩) (Nat.lt_succ_self _) (.slice (some ⟨gb, 0, none⟩) (g + 1) cap))
    have hsame : ∀ b, b ≠ bo → (w6.setCell ⟨bo, 0, none⟩ (.slice (some ⟨gb, 0, none⟩) (g + 1) cap)).heap[b]? = w6.heap[b]? := fun b hb => by
      have h5 := (Grown.refl bo w6).setCell 0 (.slice (some ⟨gb, 0, none⟩) (g + 1) cap)
      by_cases h6 : b < w6.heap.size
      · exact h5.block b h6 (fun e => hb (Option.some.inj e))
      · have h7 : (w6.setCell ⟨bo, 0, none⟩ (.slice (some ⟨gb, 0, none⟩) (g + 1) cap)).heap.size = w6.heap.size := by simp [World.setCell]
        rw [Array.getElem?_eq_none (by omega), Array.getElem?_eq_none (by omega)]
    have hsz2 : (w6.setCell ⟨bo, 0, none⟩ (.slice (some ⟨gb, 0, none⟩) (g + 1) cap)).heap.size = w6.heap.size := by simp [World.setCell]
    have hk : Kp (MineG bo) w (w6.setCell ⟨bo, 0, none⟩ (.slice (some ⟨gb, 0, none⟩) (g + 1) cap)) := by
      refine kpG HZ0.out (by rw [hsz2]; omega) (fun b hb hb1 hb2 => ?_) (s1.cellAt 0 (by decide)) ?_
      · rw [hsame b hb1]
        have h5 := HGR.out.block b (by omega) (fun e => by
          rcases Z with _ | x
          · simp [Value.ownBlock] at e
          · have e2 : b = x.block := by simpa [Value.ownBlock] using e
            exact hb2 x rfl e2.symm)
        rw [h5]
        exact HBV.out.block b hb
      · rcases HLO.out with e | e
        · rcases Z with _ | x
          · simp [Value.ownBlock] at e
          · exact .inl ⟨x, rfl, by simpa [Value.ownBlock] using e⟩
        · exact .inr (by omega)
    refine ⟨⟨?_, HII.out.bo0, some ⟨gb, 0, none⟩, cap, hs ++ [⟨A, B, C, ca, cb, cc⟩], s1, ?_, by simp [HL3.out], ?_⟩, hk⟩
    · have h5 : Below w0.heap.size w0 w6 := (blT HII.out.bel HBV.out).trans (HBE.out.mono (by have := HII.out.bo0; omega))
      exact h5.setCell HII.out.bo0 _
    · rw [hgR_append, hgR_one]
      exact s2
    · intro i hi
      by_cases hil : i < hs.length
      · rw [List.getElem_append_left hil]
        obtain ⟨q1, q2, q3⟩ := HR4.out i hil
        exact ⟨q1.kp hk, q2.kp hk, q3.kp hk⟩
      · have hie : i = g := by simp at hi; have := HL3.out; omega
        subst hie
        rw [List.getElem_append_right (by omega)]
        simp only [HL3.out, Nat.sub_self, List.getElem_cons_zero]
        exact ⟨HRA.out.kp hk, HRB.out.kp hk, HRC.out.kp hk⟩
  have HFIN := Lib.hid hfin
  clear hfin
  first | go_end0 | skip
  exact ⟨rfl, HFIN.out.1, HFIN.out.2⟩
end Go.Proofs.YtohcoidbncbijaaDoor.P
