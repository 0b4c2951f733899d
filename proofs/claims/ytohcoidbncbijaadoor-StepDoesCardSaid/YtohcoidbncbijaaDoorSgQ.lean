/- Several texts as one: SgA, SgB. Conditions: those of each lemma. -/
import Derived.Test.YtohcoidbncbijaaDoorStpB
import Derived.Test.YtohcoidbncbijaaDoorPlF
import Derived.Test.YtohcoidbncbijaaDoorStO
/- The contract of the closure of step.Groups: a group is put behind those that are there. Conditions: slices read as lists; they lie elsewhere than the list of groups. -/
namespace Go.Proofs.YtohcoidbncbijaaDoor.P
open Go.RowKit
set_option linter.unusedVariables false
set_option linter.unusedSimpArgs false
/-- Where a group's lists lie. -/
structure HG where
  A : Option Addr
  B : Option Addr
  C : Option Addr
  ca : Nat
  cb : Nat
  cc : Nat
def hgC (r : Nat) (h : HG) : List Value := [.slice h.A r h.ca, .slice h.B r h.cb, .slice h.C r h.cc]
def hgR (r : Nat) (l : List HG) : List Value := l.flatMap (hgC r)
theorem hgR_length (r : Nat) (l : List HG) : (hgR r l).length = l.length * 3 := flat_len (hgC r) 3 (fun _ => rfl) l
theorem hgR_append (r : Nat) (l m : List HG) : hgR r (l ++ m) = hgR r l ++ hgR r m := by simp [hgR]
theorem hgR_one (r : Nat) (h : HG) : hgR r [h] = hgC r h := by simp [hgR]
theorem hgC_one (r : Nat) (h : HG) : ∀ u ∈ hgC r h, u.oneCell' = true := by
  intro u hu
  simp only [hgC, List.mem_cons, List.not_mem_nil, or_false] at hu
  rcases hu with rfl | rfl | rfl <;> rfl
theorem hg_cells {w : World} {x : Addr} {r : Nat} {l : List HG} (h : Row w (some x) (hgR r l)) {k : Nat} (hk : k < l.length) :
    w.cell? (x.add (k * 3)) = some (.slice l[k].A r l[k].ca) ∧ w.cell? ⟨(x.add (k * 3)).block, (x.add (k * 3)).off + 1, none⟩ = some (.slice l[k].B r l[k].cb) ∧ w.cell? ⟨(x.add (k * 3)).block, (x.add (k * 3)).off + 2, none⟩ = some (.slice l[k].C r l[k].cc) := by
  have e : ∀ j, j < 3 → (hgR r l)[k * 3 + j]? = (hgC r l[k])[j]? := fun j hj => flat_get (hgC r) 3 (fun _ => rfl) l k hk j hj
  rw [add_next x _ 1 (by decide), add_next x _ 2 (by decide)]
  exact ⟨h.cell (e 0 (by decide)), h.cell (e 1 (by decide)), h.cell (e 2 (by decide))⟩
theorem info_grp : (Tryd.prog.info? 72).map (fun i => (i.zero, i.size, i.bytes)) = some (some (.agg #[.slice none 0 0, .slice none 0 0, .slice none 0 0]), 3, 72) := by kernel_rfl
/-- The blocks that change: that of the variable, that of the list. -/
def MineG (bo : Nat) : World → Nat → Prop := fun ws b => b = bo ∨ ∃ x n c, ws.cell? ⟨bo, 0, none⟩ = some (.slice (some x) n c) ∧ x.block = b
structure InvG (bo : Nat) (w0 : World) (G : Nat → Grp) (r g : Nat) (ws : World) : Prop where
  bel : Below w0.heap.size w0 ws
  bo0 : w0.heap.size ≤ bo
  ex : ∃ Z c hs, Own ws bo 65 1 (some ⟨bo, 0, none⟩) 1 1 [.slice Z g c] ∧ Own ws (bo + 1) 72 3 Z g c (hgR r hs) ∧ hs.length = g ∧
    ∀ i (h : i < hs.length), RowM (MineG bo) ws hs[i].A (nums .i64 (G i).1) ∧ RowM (MineG bo) ws hs[i].B (nums .i64 (G i).2.1) ∧ RowM (MineG bo) ws hs[i].C (nums .i64 (G i).2.2)
theorem kpG {bo : Nat} {w w' : World} {Z : Option Addr} {n c gb n' c' : Nat} (hz : w.cell? ⟨bo, 0, none⟩ = some (.slice Z n c)) (hs : w.heap.size ≤ w'.heap.size) (hk : ∀ b, b < w.heap.size → b ≠ bo → (∀ x, Z = some x → x.block ≠ b) → w'.heap[b]? = w.heap[b]?)
    (hz' : w'.cell? ⟨bo, 0, none⟩ = some (.slice (some ⟨gb, 0, none⟩) n' c')) (hg : (∃ x, Z = some x ∧ x.block = gb) ∨ w.heap.size ≤ gb) : Kp (MineG bo) w w' := by
  refine ⟨hs, fun b hb hm => ?_⟩
  have hm1 : b ≠ bo := fun e => hm (.inl e)
  have hm2 : ∀ x, Z = some x → x.block ≠ b := fun x hx e => hm (.inr ⟨x, n, c, by rw [hz, hx], e⟩)
  refine ⟨hk b hb hm1 hm2, ?_⟩
  rintro (e | ⟨x, n2, c2, h1, h2⟩)
  · exact hm1 e
  · rw [hz'] at h1
    cases h1
    rcases hg with ⟨y, hy, e⟩ | e
    · exact hm2 y hy (by rw [e]; exact h2)
    · dsimp only at h2
      omega
theorem kpG_below {bo : Nat} {w w' : World} (hlt : bo < w.heap.size) (hb : Below w.heap.size w w') : Kp (MineG bo) w w' ∧ ∀ b, MineG bo w' b → MineG bo w b := by
  have e : w'.cell? ⟨bo, 0, none⟩ = w.cell? ⟨bo, 0, none⟩ := hb.cell hlt
  have h2 : ∀ b, MineG bo w' b → MineG bo w b := fun b h => by
    rcases h with h | ⟨x, n, c, h1, h3⟩
    · exact .inl h
    · exact .inr ⟨x, n, c, by rw [← e]; exact h1, h3⟩
  exact ⟨⟨hb.size, fun b hlt' hm => ⟨hb.block b hlt', fun h => hm (h2 b h)⟩⟩, h2⟩
theorem InvG.lt {bo : Nat} {w0 : World} {G : Nat → Grp} {r g : Nat} {ws : World} (h : InvG bo w0 G r g ws) : bo < ws.heap.size := by
  obtain ⟨Z, c, hs, h1, _⟩ := h.ex
  exact (Own.base h1).2
theorem InvG.fresh {bo : Nat} {w0 : World} {G : Nat → Grp} {r g : Nat} {ws w' : World} (h : InvG bo w0 G r g ws) (hb : Below ws.heap.size ws w') : InvG bo w0 G r g w' := by
  have hk := (kpG_below h.lt hb).1
  obtain ⟨Z, c, hs, h1, h2, h3, h4⟩ := h.ex
  exact ⟨blT h.bel hb, h.bo0, Z, c, hs, h1.grown hb, h2.grown hb, h3, fun i hi => ⟨(h4 i hi).1.kp hk, (h4 i hi).2.1.kp hk, (h4 i hi).2.2.kp hk⟩⟩
theorem tellsG (bo : Nat) (w0 : World) (G : Nat → Grp) (r : Nat) : Tells (InvG bo w0 G r) (MineG bo) := by
  refine ⟨fun g w b hi hb => ?_, fun g w w' hi hb => ⟨hi.fresh hb, (kpG_below hi.lt hb).2⟩⟩
  rcases hb with e | ⟨x, n, c, h1, h2⟩
  · rw [e]; exact hi.lt
  · obtain ⟨Z, c', hs, h3, h4, _⟩ := hi.ex
    have h5 := h3.cellAt 0 (by decide)
    rw [h1] at h5
    have h6 := Option.some.inj h5
    simp only [List.getElem_cons_zero, Value.slice.injEq] at h6
    have hx := h6.1
    subst hx
    have h7 := World.ownsRow.lt h4 x.block rfl
    rw [← h2]
    exact h7.2
set_option maxRecDepth 100000 in
set_option maxHeartbeats 4000000 in
theorem sgrp1_calls (bo : Nat) (w0 : World) (G : Nat → Grp) (r g cnt : Nat) (w : World) (A B C : Option Addr) (ca cb cc : Nat) (hi : InvG bo w0 G r g w) (hg : g ≤ 100000) (ra : RowM (MineG bo) w A (nums .i64 (G g).1)) (rb : RowM (MineG bo) w B (nums .i64 (G g).2.1)) (rc : RowM (MineG bo) w C (nums .i64 (G g).2.2)) :
    Calls Tryd.prog 89 #[.agg #[.slice A r ca, .slice B r cb, .slice C r cc], .pointer (some ⟨bo, 0, none⟩)] w fun e w' => e = .returned (.tuple #[]) ∧ InvG bo w0 G r (g + 1) w' ∧ Kp (MineG bo) w w' := by
  obtain ⟨Z, c, hs, h1, h2, h3, h4⟩ := hi.ex
  have hlt := hi.lt
  have hbA : Below w.heap.size w (w.alloc (.cells #[.slice A r ca, .slice B r cb, .slice C r cc] 72)) := (Below.refl _ _).alloc (Nat.le_refl _) _
  have hbV : Below w.heap.size w ((w.alloc (.cells #[.slice A r ca, .slice B r cb, .slice C r cc] 72)).alloc (.cells #[.slice A r ca, .slice B r cb, .slice C r cc] 72)) := hbA.alloc (by simp) _
  have hrow : Row ((w.alloc (.cells #[.slice A r ca, .slice B r cb, .slice C r cc] 72)).alloc (.cells #[.slice A r ca, .slice B r cb, .slice C r cc] 72)) (some ⟨w.heap.size + 1, 0, none⟩) (hgC r ⟨A, B, C, ca, cb, cc⟩) := by
    have h5 := row_new (w.alloc (.cells #[.slice A r ca, .slice B r cb, .slice C r cc] 72)) [.slice A r ca, .slice B r cb, .slice C r cc] 72
    rw [show (w.alloc (.cells #[.slice A r ca, .slice B r cb, .slice C r cc] 72)).heap.size = w.heap.size + 1 by simp] at h5
    exact h5
  have hz0 : w.cell? ⟨bo, 0, none⟩ = some (.slice Z g c) := h1.cellAt 0 (by decide)
  have hzA : (w.alloc (.cells #[.slice A r ca, .slice B r cb, .slice C r cc] 72)).cell? ⟨bo, 0, none⟩ = some (.slice Z g c) := (hbA.cell hlt).trans hz0
  have HO1 := Lib.hid (h1.grown hbV)
  have HO2 := Lib.hid (h2.grown hbV)
  have HBV := Lib.hid hbV
  have HRW := Lib.hid hrow
  have HL3 := Lib.hid h3
  have HZ0 := Lib.hid hz0
  have HLT := Lib.hid hlt
  have HR4 := Lib.hid h4
  have HRA := Lib.hid ra
  have HRB := Lib.hid rb
  have HRC := Lib.hid rc
  have HII := Lib.hid hi
  have HZB : Hid (∀ x, Z = some x → bo + 1 ≤ x.block) := Lib.hid h2.from'
  have hsz : ((w.alloc (.cells #[.slice A r ca, .slice B r cb, .slice C r cc] 72)).alloc (.cells #[.slice A r ca, .slice B r cb, .slice C r cc] 72)).heap.size = w.heap.size + 1 + 1 := by simp
  have HSZ := Lib.hid hsz
  clear h1 h2 h3 h4 hi hbA hbV hrow hz0 hlt ra rb rc hsz
  go_enter Tryd.func89, Tryd.ntmps89
  go_wp2_with (at_builtin; go_loud (refine append_cells_at _ Tryd.underlying65 info_grp rfl (by decide) rfl _ _ rfl (bo + 1) g c 1 1 Z ⟨w.heap.size + 1, 0, none⟩ (hgR r hs) (hgC r ⟨A, B, C, ca, cb, cc⟩) rfl rfl HO2.out HRW.out rfl (hgC_one _ _) (by decide) (by have h5 := HSZ.out; have h6 := HLT.out; omega) (by omega) (by omega) ?_); intro gb cap w6 hown hbel hgrow hloc; have HO6 := Lib.hid (HO1.out.keepBelow (S := bo + 1) (by omega) hbel); have ho6 := HO6.out.cellAt 0 (by decide); have hf6 := HO6.out.frozenAt 0; simp at ho6)
  have HOW := Lib.hid hown
  have HGR := Lib.hid hgrow
  have HLO := Lib.hid hloc
  have HBE := Lib.hid hbel
  clear hown hgrow hloc hbel
  have hfin : InvG bo w0 G r (g + 1) (w6.setCell ⟨bo, 0, none⟩ (.slice (some ⟨gb, 0, none⟩) (g + 1) cap)) ∧ Kp (MineG bo) w (w6.setCell ⟨bo, 0, none⟩ (.slice (some ⟨gb, 0, none⟩) (g + 1) cap)) := by
    have hsz := HSZ.out
    have hlt := HLT.out
    generalize hV : ((w.alloc (.cells #[.slice A r ca, .slice B r cb, .slice C r cc] 72)).alloc (.cells #[.slice A r ca, .slice B r cb, .slice C r cc] 72)) = V at *
    have hs6 : V.heap.size ≤ w6.heap.size := HBE.out.size
    have s1 := HO6.out.stored 0 (.slice (some ⟨gb, 0, none⟩) (g + 1) cap)
    simp at s1
    have s2 := (HOW.out.setBelow (p := ⟨bo, 0, none⟩) (Nat.lt_succ_self _) (.slice (some ⟨gb, 0, none⟩) (g + 1) cap))
    have hsame : ∀ b, b ≠ bo → (w6.setCell ⟨bo, 0, none⟩ (.slice (some ⟨gb, 0, none⟩) (g + 1) cap)).heap[b]? = w6.heap[b]? := fun b hb => by
      have h5 := (Grown.refl bo w6).setCell 0 (.slice (some ⟨gb, 0, none⟩) (g + 1) cap)
      by_cases h6 : b < w6.heap.size
      · exact h5.block b h6 (fun e => hb (Option.some.inj e))
      · have h7 : (w6.setCell ⟨bo, 0, none⟩ (.slice (some ⟨gb, 0, none⟩) (g + 1) cap)).heap.size = w6.heap.size := by simp [World.setCell]
        rw [Array.getElem?_eq_none (by omega), Array.getElem?_eq_none (by omega)]
    have hsz2 : (w6.setCell ⟨bo, 0, none⟩ (.slice (some ⟨gb, 0, none⟩) (g + 1) cap)).heap.size = w6.heap.size := by simp [World.setCell]
    have hk : Kp (MineG bo) w (w6.setCell ⟨bo, 0, none⟩ (.slice (some ⟨gb, 0, none⟩) (g + 1) cap)) := by
      refine kpG HZ0.out (by rw [hsz2]; omega) (fun b hb hb1 hb2 => ?_) (s1.cellAt 0 (by decide)) ?_
      · rw [hsame b hb1]
        have h5 := HGR.out.block b (by omega) (fun e => by
          rcases Z with _ | x
          · simp [Value.ownBlock] at e
          · have e2 : b = x.block := by simpa [Value.ownBlock] using e
            exact hb2 x rfl e2.symm)
        rw [h5]
        exact HBV.out.block b hb
      · rcases HLO.out with e | e
        · rcases Z with _ | x
          · simp [Value.ownBlock] at e
          · exact .inl ⟨x, rfl, by simpa [Value.ownBlock] using e⟩
        · exact .inr (by omega)
    refine ⟨⟨?_, HII.out.bo0, some ⟨gb, 0, none⟩, cap, hs ++ [⟨A, B, C, ca, cb, cc⟩], s1, ?_, by simp [HL3.out], ?_⟩, hk⟩
    · have h5 : Below w0.heap.size w0 w6 := (blT HII.out.bel HBV.out).trans (HBE.out.mono (by have := HII.out.bo0; omega))
      exact h5.setCell HII.out.bo0 _
    · rw [hgR_append, hgR_one]
      exact s2
    · intro i hi
      by_cases hil : i < hs.length
      · rw [List.getElem_append_left hil]
        obtain ⟨q1, q2, q3⟩ := HR4.out i hil
        exact ⟨q1.kp hk, q2.kp hk, q3.kp hk⟩
      · have hie : i = g := by simp at hi; have := HL3.out; omega
        subst hie
        rw [List.getElem_append_right (by omega)]
        simp only [HL3.out, Nat.sub_self, List.getElem_cons_zero]
        exact ⟨HRA.out.kp hk, HRB.out.kp hk, HRC.out.kp hk⟩
  have HFIN := Lib.hid hfin
  clear hfin
  first | go_end0 | skip
  exact ⟨rfl, HFIN.out.1, HFIN.out.2⟩
end Go.Proofs.YtohcoidbncbijaaDoor.P
/- The contract of step.Groups. Conditions: words of their kinds; slices read as lists; the library's table lies as it was laid. -/
namespace Go.Proofs.YtohcoidbncbijaaDoor.P
open Go.RowKit
set_option linter.unusedVariables false
set_option linter.unusedSimpArgs false
theorem grp1_cf (args : Array Value) (w : World) : (callFunc 89 args).run Tryd.prog w = .ok (.enter 89 args) w := by kernel_rfl
theorem grpC_small {p : Int} {ax : List (Int × Bool)} {s : Stp} {k N : Nat} {neg : Bool} (hK : StepK p ax s k N neg) : grpC (dimsA ax) k s.2.1 s.2.2.2.1.toNat s.2.2.2.2.toNat ≤ 4096 := by
  have h4 := hK.chk.dims.all
  have h1 := hK.chk.dims.pos.prod
  have hN1 := hK.c6.n1
  rcases hK.kind with ⟨ht, _⟩ | ⟨ht, hz⟩
  · unfold grpC; rw [if_pos ht]; omega
  · obtain ⟨R, L, M, hs, hS⟩ := stg_mem hK.c6.smooth hz
    unfold grpC
    rw [if_neg (by rw [ht]; decide), hs, hK.dim]
    simp only [Int.toNat_natCast]
    obtain ⟨K, hKK⟩ := Int.eq_ofNat_of_zero_le (show 0 ≤ prodL (dimsA ax) / (N : Int) from Int.ediv_nonneg (by omega) (by omega))
    rw [hKK, Int.toNat_natCast]
    have h2 : (K : Int) * (N : Int) ≤ prodL (dimsA ax) := by rw [← hKK]; exact Int.ediv_mul_le _ (by omega)
    have h3 : K * N ≤ 4096 := by
      have : ((K * N : Nat) : Int) ≤ 4096 := by push_cast; omega
      omega
    have h5 : M * L ≤ N := by
      have h6 : L * M * 1 ≤ L * M * R := Nat.mul_le_mul_left _ (by have := hS.r2; omega)
      rw [Nat.mul_assoc L M R, hS.all] at h6
      rw [Nat.mul_comm M L]; omega
    have h7 : K * (M * L) ≤ K * N := Nat.mul_le_mul_left _ h5
    rw [Nat.mul_assoc]
    omega
theorem each_grp (p : Int) (A : Option Addr) (c n : Nat) (ax : List (Int × Bool)) (k : Nat) (s1 : Bool) (s2 s3 s4 : Int) (N : Nat) (neg : Bool) (bo : Nat) (w0 V : World)
    (hK : StepK p ax ((k : Int), s1, s2, s3, s4) k N neg) (hn : ax.length = n) (hl : n ≤ 8796093022208) (hw : ∀ a ∈ ax, i64 a.1) (hr : RowM (MineG bo) V A (axR ax))
    (hi : InvG bo w0 (grpG (dimsA ax) k s1 s2.toNat s3.toNat s4.toNat) (grpR s1 s2.toNat) 0 V) :
    Calls Tryd.prog 76 #[.slice A n c, .agg #[.int .i64 (k : Int), .bool s1, .int .i64 s2, .int .i64 s3, .int .i64 s4], .func (.func 89) #[] #[.pointer (some ⟨bo, 0, none⟩)]] V fun e w' =>
      e = .returned (.int .i64 0) ∧ InvG bo w0 (grpG (dimsA ax) k s1 s2.toNat s3.toNat s4.toNat) (grpR s1 s2.toNat) (grpC (dimsA ax) k s1 s3.toNat s4.toNat) w' ∧ Kp (MineG bo) V w' := by
  have hsm := grpC_small hK
  dsimp only at hsm
  have hN1 := hK.c6.n1
  have hp1 := hK.chk.dims.pos.prod
  rcases hK.kind with ⟨ht, hz⟩ | ⟨ht, hz⟩
  · dsimp only at ht hz
    subst ht
    simp only [Prod.mk.injEq] at hz
    obtain ⟨rfl, rfl, rfl⟩ := hz
    have e1 : grpG (dimsA ax) k true (0 : Int).toNat (0 : Int).toNat (0 : Int).toNat = grpT (dimsA ax) k := by funext g; exact grpG_twist ..
    have e2 : grpC (dimsA ax) k true (0 : Int).toNat (0 : Int).toNat = (prodL (dimsA ax)).toNat := by unfold grpC; rw [if_pos rfl]
    rw [e2] at hsm
    rw [e1] at hi ⊢
    rw [e2]
    refine seach_twist _ _ p A c n ax k N neg (prodL (dimsA ax)).toNat _ (MineG bo) V grp1_cf hn hr hl hw hK (tellsG bo w0 (grpT (dimsA ax) k) (grpR true (0 : Int).toNat)) (by omega) ?_ hi
    intro g hg w A1 B1 C1 ca cb cc h1 ra rb rc
    exact sgrp1_calls bo w0 (grpT (dimsA ax) k) (grpR true (0 : Int).toNat) g (prodL (dimsA ax)).toNat w A1 B1 C1 ca cb cc h1 (by omega) ra rb rc
  · dsimp only at ht hz
    subst ht
    obtain ⟨R, L, M, hs, hS⟩ := stg_mem hK.c6.smooth hz
    simp only [Prod.mk.injEq] at hs
    obtain ⟨rfl, rfl, rfl⟩ := hs
    obtain ⟨K, hKK⟩ := Int.eq_ofNat_of_zero_le (show 0 ≤ prodL (dimsA ax) / (N : Int) from Int.ediv_nonneg (by omega) (by omega))
    have e2 : grpC (dimsA ax) k false (L : Int).toNat (M : Int).toNat = K * M * L := by
      unfold grpC
      rw [if_neg (by decide), hK.dim, hKK]
      simp only [Int.toNat_natCast]
    rw [e2] at hsm
    rw [e2]
    simp only [Int.toNat_natCast] at hi ⊢
    refine seach_stage _ _ p A c n ax k N neg R L M K _ (MineG bo) V grp1_cf hn hr hl hw hK hS (tellsG bo w0 (grpG (dimsA ax) k false R L M) (grpR false R)) hKK ?_ hi
    intro g hg w A1 B1 C1 ca cb cc h1 ra rb rc
    exact sgrp1_calls bo w0 (grpG (dimsA ax) k false R L M) (grpR false R) g (K * M * L) w A1 B1 C1 ca cb cc h1 (by omega) ra rb rc
set_option maxRecDepth 100000 in
set_option maxHeartbeats 4000000 in
theorem sgroups_no (p : Int) (A : Option Addr) (c n : Nat) (ax : List (Int × Bool)) (s0 : Int) (s1 : Bool) (s2 s3 s4 : Int) (w : World) (hn : ax.length = n) (hp : U64 p) (hr : Row w A (axR ax)) (hl : n ≤ 8796093022208) (hw : ∀ a ∈ ax, i64 a.1) (hT : Tab w) (hc : chk16 p ax (s0, s1, s2, s3, s4) ≠ 0) :
    Calls Tryd.prog 44 #[.int .u64 p, .slice A n c, .agg #[.int .i64 s0, .bool s1, .int .i64 s2, .int .i64 s3, .int .i64 s4]] w fun e w' =>
      e = .returned (.tuple #[.slice none 0 0, .int .i64 (chk16 p ax (s0, s1, s2, s3, s4))]) ∧ Below w.heap.size w w' := by
  have HP := Lib.hid hp
  have HN := Lib.hid hn
  have HW := Lib.hid hw
  have hb0 : Below w.heap.size w (w.alloc (.cells #[.int .i64 s0, .bool s1, .int .i64 s2, .int .i64 s3, .int .i64 s4] 39)) := (Below.refl _ _).alloc (Nat.le_refl _) _
  have HB0 := Lib.hid hb0
  have HR0 := Lib.hid (hr.below hb0)
  have HT0 := Lib.hid (hT.below hb0)
  have t0 : (chk16 p ax (s0, s1, s2, s3, s4) != 0) = true := by simpa using hc
  clear hn hp hr hw hT hb0 hc
  go_enter Tryd.func44, Tryd.ntmps44
  go_wp2_with fail
  generalize (w.alloc (.cells #[.int .i64 s0, .bool s1, .int .i64 s2, .int .i64 s3, .int .i64 s4] 39)) = V0 at *
  refine (schk_calls p _ _ _ ax s0 s1 s2 s3 s4 V0 HN.out HP.out HR0.out hl HW.out HT0.out).mono ?_
  rintro e w2 ⟨rfl, hb⟩
  have HB2 := Lib.hid (blT HB0.out hb)
  clear hb
  go_wp2
  go_ret2
  exact ⟨rfl, HB2.out⟩
set_option maxRecDepth 100000 in
set_option maxHeartbeats 4000000 in
theorem sgroups_yes (p : Int) (A : Option Addr) (c n : Nat) (ax : List (Int × Bool)) (k : Nat) (s1 : Bool) (s2 s3 s4 : Int) (N : Nat) (neg : Bool) (w : World) (hn : ax.length = n) (hp : U64 p) (hr : Row w A (axR ax)) (hl : n ≤ 8796093022208) (hw : ∀ a ∈ ax, i64 a.1) (hT : Tab w) (hc : chk16 p ax ((k : Int), s1, s2, s3, s4) = 0) (hK : StepK p ax ((k : Int), s1, s2, s3, s4) k N neg) :
    Calls Tryd.prog 44 #[.int .u64 p, .slice A n c, .agg #[.int .i64 (k : Int), .bool s1, .int .i64 s2, .int .i64 s3, .int .i64 s4]] w fun e w' => ∃ Z z hs,
      e = .returned (.tuple #[.slice Z (grpC (dimsA ax) k s1 s3.toNat s4.toNat) z, .int .i64 0]) ∧ Row w' Z (hgR (grpR s1 s2.toNat) hs) ∧ hs.length = grpC (dimsA ax) k s1 s3.toNat s4.toNat ∧
      (∀ i (h : i < hs.length), Row w' hs[i].A (nums .i64 (grpG (dimsA ax) k s1 s2.toNat s3.toNat s4.toNat i).1) ∧ Row w' hs[i].B (nums .i64 (grpG (dimsA ax) k s1 s2.toNat s3.toNat s4.toNat i).2.1) ∧ Row w' hs[i].C (nums .i64 (grpG (dimsA ax) k s1 s2.toNat s3.toNat s4.toNat i).2.2)) ∧ Below w.heap.size w w' := by
  have HP := Lib.hid hp
  have HN := Lib.hid hn
  have HW := Lib.hid hw
  have HKK := Lib.hid hK
  have HC := Lib.hid hc
  have hb0 : Below w.heap.size w (w.alloc (.cells #[.int .i64 (k : Int), .bool s1, .int .i64 s2, .int .i64 s3, .int .i64 s4] 39)) := (Below.refl _ _).alloc (Nat.le_refl _) _
  have HB0 := Lib.hid hb0
  have HR0 := Lib.hid (hr.below hb0)
  have HT0 := Lib.hid (hT.below hb0)
  have hs0 : Row (w.alloc (.cells #[.int .i64 (k : Int), .bool s1, .int .i64 s2, .int .i64 s3, .int .i64 s4] 39)) (some ⟨w.heap.size, 0, none⟩) [.int .i64 (k : Int), .bool s1, .int .i64 s2, .int .i64 s3, .int .i64 s4] := row_new w [.int .i64 (k : Int), .bool s1, .int .i64 s2, .int .i64 s3, .int .i64 s4] _
  have HS0 := Lib.hid hs0
  clear hn hp hr hw hT hb0 hc hK hs0
  go_enter Tryd.func44, Tryd.ntmps44
  go_wp2_with fail
  generalize (w.alloc (.cells #[.int .i64 (k : Int), .bool s1, .int .i64 s2, .int .i64 s3, .int .i64 s4] 39)) = V0 at *
  refine (schk_calls p _ _ _ ax (k : Int) s1 s2 s3 s4 V0 HN.out HP.out HR0.out hl HW.out HT0.out).mono ?_
  rw [HC.out]
  rintro e w1 ⟨rfl, hb⟩
  have HB1 := Lib.hid (blT HB0.out hb)
  have HR1 := Lib.hid (HR0.out.below hb)
  have HS1 := Lib.hid (HS0.out.below hb)
  clear hb
  have hbV : Below w1.heap.size w1 (w1.alloc (.cells #[.slice none 0 0] 65)) := (Below.refl _ _).alloc (Nat.le_refl _) _
  have b0 : (w1.alloc (.cells #[.slice none 0 0] 65)).cell? ⟨w.heap.size, 0, none⟩ = some (.int .i64 (k : Int)) := (HS1.out.below hbV).cell (i := 0) rfl
  have b1 : (w1.alloc (.cells #[.slice none 0 0] 65)).cell? ⟨w.heap.size, 1, none⟩ = some (.bool s1) := (HS1.out.below hbV).cell (i := 1) rfl
  have b2 : (w1.alloc (.cells #[.slice none 0 0] 65)).cell? ⟨w.heap.size, 2, none⟩ = some (.int .i64 s2) := (HS1.out.below hbV).cell (i := 2) rfl
  have b3 : (w1.alloc (.cells #[.slice none 0 0] 65)).cell? ⟨w.heap.size, 3, none⟩ = some (.int .i64 s3) := (HS1.out.below hbV).cell (i := 3) rfl
  have b4 : (w1.alloc (.cells #[.slice none 0 0] 65)).cell? ⟨w.heap.size, 4, none⟩ = some (.int .i64 s4) := (HS1.out.below hbV).cell (i := 4) rfl
  have hown1 : Own (w1.alloc (.cells #[.slice none 0 0] 65)) w1.heap.size 65 1 (some ⟨w1.heap.size, 0, none⟩) 1 1 [.slice none 0 0] := own_one w1 w1.heap.size _ [.slice none 0 0] 1 (Nat.le_refl _) rfl (by decide)
  have HI0 : Hid (InvG w1.heap.size w1 (grpG (dimsA ax) k s1 s2.toNat s3.toNat s4.toNat) (grpR s1 s2.toNat) 0 (w1.alloc (.cells #[.slice none 0 0] 65))) := Lib.hid
    ⟨hbV, Nat.le_refl _, none, 0, [], hown1, Own.nil _ _ _ _, rfl, fun i h => by simp at h⟩
  have HRM : Hid (RowM (MineG w1.heap.size) (w1.alloc (.cells #[.slice none 0 0] 65)) A (axR ax)) := Lib.hid (by
    have h1 := HR1.out.toX (by intro h0; have h1 := axR_length ax; rw [h0] at h1; simp at h1; have h2 := HKK.out.lt; omega) hbV (Nat.le_refl w1.heap.size)
    have hlt : ∀ x, A = some x → x.block < w1.heap.size := fun x hx => by
      subst hx
      have hne : axR ax ≠ [] := by intro h0; have h1 := axR_length ax; rw [h0] at h1; simp at h1; have h2 := HKK.out.lt; omega
      have hr1 := HR1.out
      generalize axR ax = cs at *
      rcases cs with _ | ⟨u, cs⟩
      · exact absurd rfl hne
      · have h3 := World.block_lt_of_cell? w1 _ (hr1.cell (i := 0) rfl)
        rw [add_block] at h3
        exact h3
    refine RowM.of h1.1 fun x hx h2 => ?_
    have h3 := hlt x hx
    rcases h2 with e | ⟨y, n2, c2, h4, h5⟩
    · omega
    · have h6 := hown1.cellAt 0 (by decide)
      rw [h4] at h6
      simp at h6)
  have HBV := Lib.hid hbV
  clear hbV hown1
  go_wp2_with fail
  clear b0 b1 b2 b3 b4
  have HBO := Lib.hid (Nat.le_refl w1.heap.size)
  generalize (w1.alloc (.cells #[.slice none 0 0] 65)) = V at *
  refine (each_grp p A c n ax k s1 s2 s3 s4 N neg w1.heap.size w1 V HKK.out HN.out hl HW.out HRM.out HI0.out).mono ?_
  rintro e w3 ⟨rfl, hi, hk⟩
  obtain ⟨Z, z, hs, h1, h2, h3, h4⟩ := hi.ex
  have HB3 := Lib.hid (blT HB1.out hi.bel)
  have c0 := h1.cellAt 0 (by decide)
  simp at c0
  have HR3 := Lib.hid h2.row
  have HL3 := Lib.hid h3
  have H4 := Lib.hid h4
  clear h1 h2 h3 h4 hi hk
  go_wp2
  go_ret2
  exact ⟨Z, z, hs, rfl, HR3.out, HL3.out, fun i h => ⟨(H4.out i h).1.row, (H4.out i h).2.1.row, (H4.out i h).2.2.row⟩, HB3.out⟩
end Go.Proofs.YtohcoidbncbijaaDoor.P
