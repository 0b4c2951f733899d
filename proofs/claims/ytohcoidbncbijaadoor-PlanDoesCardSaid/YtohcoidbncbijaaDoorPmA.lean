
/- The contract of plan.Make. Conditions: words of their kinds; the slice reads as a list of axes; the library's table lies as it was laid. -/
import Derived.Test.YtohcoidbncbijaaDoorStV
import Derived.Test.YtohcoidbncbijaaDoorStE
import Derived.Test.YtohcoidbncbijaaDoorPlA
import Derived.Laws.ResultCell
namespace Go.Proofs.YtohcoidbncbijaaDoor.P
open Go.RowKit
set_option linter.unusedVariables false
set_option linter.unusedSimpArgs false
/-- The most of so many. -/
def mostN (f : Stp → Nat) (l : List Stp) : Nat → Nat
  | 0 => 0
  | i + 1 => max (mostN f l i) (f (l.getD i (0, false, 0, 0, 0)))
def tlen (p : Int) (ax : List (Int × Bool)) (inv : Bool) (s : Stp) : Nat := (tabS p ax inv s).1.length
theorem mostN_le (f : Stp → Nat) (l : List Stp) {b : Nat} (h : ∀ s ∈ l, f s ≤ b) : ∀ i, i ≤ l.length → mostN f l i ≤ b
  | 0, _ => Nat.zero_le _
  | i + 1, hi => by
    have h1 := mostN_le f l h i (by omega)
    have h2 : f (l.getD i (0, false, 0, 0, 0)) ≤ b := by rw [List.getD_eq_getElem?_getD, List.getElem?_eq_getElem (by omega)]; exact h _ (List.getElem_mem _)
    rw [mostN]; omega
theorem tlen_le {p : Int} {ax : List (Int × Bool)} {inv : Bool} (s : Stp) (h : chk16 p ax s = 0) : ∃ k N neg, StepK p ax s k N neg ∧ tabS p ax inv s = (tabL p N neg inv s, 0) ∧ tlen p ax inv s ≤ N := by
  obtain ⟨k, N, neg, hK⟩ := chk16_ok h
  have e : tabS p ax inv s = (tabL p N neg inv s, 0) := by
    rw [tabS, if_pos h, hK.axis, Int.toNat_natCast, hK.get, hK.dim, Int.toNat_natCast]
  exact ⟨k, N, neg, hK, e, by unfold tlen; rw [e]; exact tabL_len hK inv⟩
theorem load_plan (w : World) (b : Nat) (v0 v1 v2 v3 : Value) (c0 : w.cell? ⟨b, 0, none⟩ = some v0) (c1 : w.cell? ⟨b, 1, none⟩ = some v1) (c2 : w.cell? ⟨b, 2, none⟩ = some v2) (c3 : w.cell? ⟨b, 3, none⟩ = some v3) :
    (loadVar 54 ⟨b, 0, none⟩).run Tryd.prog w = .ok (.agg #[v0, v1, v2, v3]) w := by
  go_simp
theorem plan_ret {fn : Func} {p u : Tmp} (h : fn.results = #[.cell p 54, .tmp u]) (tmps : Array Value) (w : World) (b : Nat) (v0 v1 v2 v3 e : Value) (hp : tmps.getD p undef = .pointer (some ⟨b, 0, none⟩)) (he : tmps.getD u undef = e) (c0 : w.cell? ⟨b, 0, none⟩ = some v0) (c1 : w.cell? ⟨b, 1, none⟩ = some v1) (c2 : w.cell? ⟨b, 2, none⟩ = some v2) (c3 : w.cell? ⟨b, 3, none⟩ = some v3) :
    (results fn tmps).run Tryd.prog w = .ok (.tuple #[.agg #[v0, v1, v2, v3], e]) w := by
  rw [results_cell_tmp h, hp, he]
  have h1 := load_plan w b v0 v1 v2 v3 c0 c1 c2 c3
  simp [asAddr, Result.andThen, h1]
theorem Own.setOff {w : World} {B : Nat} {E : TypeId} {s g n c : Nat} {cs : List Value} (h : Own w B E s (some ⟨g, 0, none⟩) n c cs) {p : Addr} (hne : p.block ≠ g) (v : Value) : Own (w.setCell p v) B E s (some ⟨g, 0, none⟩) n c cs := by
  refine ⟨h.1, ?_⟩
  rcases h.2 with ⟨hv, _⟩ | ⟨g2, cap, cur, hv, hB, hh, r⟩
  · cases hv
  · refine .inr ⟨g2, cap, cur, hv, hB, ?_, r⟩
    cases hv
    exact (Deep.blk_setCell_other w p v g (by omega)).trans hh
theorem own4 {w : World} {B E b : Nat} {v0 v1 v2 v3 : Value} (h : Own w B E 1 (some ⟨b, 0, none⟩) 4 4 [v0, v1, v2, v3]) (u0 u1 u2 u3 : Value) :
    Own ((((w.setCell ⟨b, 0, none⟩ u0).setCell ⟨b, 1, none⟩ u1).setCell ⟨b, 2, none⟩ u2).setCell ⟨b, 3, none⟩ u3) B E 1 (some ⟨b, 0, none⟩) 4 4 [u0, u1, u2, u3] :=
  (((h.stored 0 u0).stored 1 u1).stored 2 u2).stored 3 u3
theorem Row.set4 {w : World} {A : Option Addr} {cs : List Value} (h : Row w A cs) {b : Nat} (hb : ∀ x, A = some x → x.block ≠ b) (u0 u1 u2 u3 : Value) :
    Row ((((w.setCell ⟨b, 0, none⟩ u0).setCell ⟨b, 1, none⟩ u1).setCell ⟨b, 2, none⟩ u2).setCell ⟨b, 3, none⟩ u3) A cs := by
  have h1 : RowX b w A cs := ⟨h, hb⟩
  have g1 := (Grown.refl b w).setCell 0 u0
  have g2 := g1.setCell 1 u1
  have g3 := g2.setCell 2 u2
  have g4 := g3.setCell 3 u3
  exact (h1.grown g4).1
theorem below_set4 {B : Nat} {w0 w : World} (h : Below B w0 w) {b : Nat} (hb : B ≤ b) (u0 u1 u2 u3 : Value) :
    Below B w0 ((((w.setCell ⟨b, 0, none⟩ u0).setCell ⟨b, 1, none⟩ u1).setCell ⟨b, 2, none⟩ u2).setCell ⟨b, 3, none⟩ u3) := by
  have h1 := h.setCell (p := ⟨b, 0, none⟩) hb u0
  have h2 := h1.setCell (p := ⟨b, 1, none⟩) hb u1
  have h3 := h2.setCell (p := ⟨b, 2, none⟩) hb u2
  exact h3.setCell (p := ⟨b, 3, none⟩) hb u3
theorem own4_cells {w : World} {B E b : Nat} {v0 v1 v2 v3 : Value} (h : Own w B E 1 (some ⟨b, 0, none⟩) 4 4 [v0, v1, v2, v3]) :
    w.cell? ⟨b, 0, none⟩ = some v0 ∧ w.cell? ⟨b, 1, none⟩ = some v1 ∧ w.cell? ⟨b, 2, none⟩ = some v2 ∧ w.cell? ⟨b, 3, none⟩ = some v3 :=
  ⟨h.cellAt 0 (by decide), h.cellAt 1 (by decide), h.cellAt 2 (by decide), h.cellAt 3 (by decide)⟩
set_option maxRecDepth 100000 in
set_option maxHeartbeats 1000000 in
theorem pmake_no (p : Int) (A : Option Addr) (c n : Nat) (ax : List (Int × Bool)) (inv : Bool) (w : World) (hn : ax.length = n) (hp : U64 p) (hr : Row w A (axR ax)) (hl : n ≤ 8796093022208) (hw : ∀ a ∈ ax, i64 a.1) (hT : Tab w) (hc : chk7 p ax ≠ 0) :
    Calls Tryd.prog 33 #[.int .u64 p, .slice A n c, .bool inv] w fun e w' => e = .returned (.tuple #[.agg #[.int .i64 0, .int .i64 0, .int .i64 0, .slice none 0 0], .int .i64 (chk7 p ax)]) ∧ Below w.heap.size w w' := by
  have HP := Lib.hid hp
  have HN := Lib.hid hn
  have HW := Lib.hid hw
  have HF : Hid (stepsS p ax inv = ([], chk7 p ax)) := Lib.hid (by rw [stepsS, if_neg hc])
  have t0 : (chk7 p ax != 0) = true := by simpa using hc
  have hb0 : Below w.heap.size w (w.alloc (.cells #[.int .i64 0, .int .i64 0, .int .i64 0, .slice none 0 0] 54)) := (Below.refl _ _).alloc (Nat.le_refl _) _
  have HB0 := Lib.hid hb0
  have HR0 := Lib.hid (hr.below hb0)
  have HT0 := Lib.hid (hT.below hb0)
  have HO0 : Hid (Own (w.alloc (.cells #[.int .i64 0, .int .i64 0, .int .i64 0, .slice none 0 0] 54)) w.heap.size 54 1 (some ⟨w.heap.size, 0, none⟩) 4 4 [.int .i64 0, .int .i64 0, .int .i64 0, .slice none 0 0]) := Lib.hid (own_one w w.heap.size 54 [.int .i64 0, .int .i64 0, .int .i64 0, .slice none 0 0] 4 (Nat.le_refl _) rfl (by decide))
  clear hn hp hr hw hT hb0 hc
  go_enter Tryd.func33, Tryd.ntmps33
  go_wp2_with fail
  generalize (w.alloc (.cells #[.int .i64 0, .int .i64 0, .int .i64 0, .slice none 0 0] 54)) = V0 at *
  refine (psteps_calls p A c n ax inv V0 HN.out HP.out HR0.out hl HW.out HT0.out).mono ?_
  rw [HF.out]
  rintro e w2 ⟨B, b, rfl, ho, hb⟩
  have HB2 := Lib.hid (blT HB0.out hb)
  have HO2 := Lib.hid (HO0.out.grown hb)
  clear ho hb
  dsimp only
  obtain ⟨c0, c1, c2, c3⟩ := own4_cells HO2.out
  have f0 := HO2.out.frozenAt 0
  have f1 := HO2.out.frozenAt 1
  have f2 := HO2.out.frozenAt 2
  have f3 := HO2.out.frozenAt 3
  have HO3 := Lib.hid (own4 HO2.out (.int .i64 0) (.int .i64 0) (.int .i64 0) (.slice none 0 0))
  have HB3 : Hid (Below w.heap.size w ((((w2.setCell ⟨w.heap.size, 0, none⟩ (.int .i64 0)).setCell ⟨w.heap.size, 1, none⟩ (.int .i64 0)).setCell ⟨w.heap.size, 2, none⟩ (.int .i64 0)).setCell ⟨w.heap.size, 3, none⟩ (.slice none 0 0))) := Lib.hid ((((HB2.out.setCell (p := ⟨w.heap.size, 0, none⟩) (Nat.le_refl _) _).setCell (p := ⟨w.heap.size, 1, none⟩) (Nat.le_refl _) _).setCell (p := ⟨w.heap.size, 2, none⟩) (Nat.le_refl _) _).setCell (p := ⟨w.heap.size, 3, none⟩) (Nat.le_refl _) _)
  go_wp2
  clear c0 c1 c2 c3
  obtain ⟨c0, c1, c2, c3⟩ := own4_cells HO3.out
  refine bodyPost_ret (plan_ret rfl _ _ w.heap.size _ _ _ _ _ rfl rfl c0 c1 c2 c3) rfl ⟨rfl, HB3.out⟩
set_option maxRecDepth 100000 in
set_option maxHeartbeats 1000000 in
theorem pmake_yes (p : Int) (A : Option Addr) (c n : Nat) (ax : List (Int × Bool)) (inv : Bool) (w : World) (hn : ax.length = n) (hp : U64 p) (hr : Row w A (axR ax)) (hl : n ≤ 8796093022208) (hw : ∀ a ∈ ax, i64 a.1) (hT : Tab w) (hc : chk7 p ax = 0) :
    Calls Tryd.prog 33 #[.int .u64 p, .slice A n c, .bool inv] w fun e w' => ∃ B b, e = .returned (.tuple #[.agg #[.int .i64 (prodL (dimsA ax)), .int .i64 (mostN (tlen p ax inv) (stepsN ax inv n) (stepsN ax inv n).length : Nat), .int .i64 (2 * (prodL (dimsA ax) + 6) + (mostN (tlen p ax inv) (stepsN ax inv n) (stepsN ax inv n).length : Nat)), .slice B (stepsN ax inv n).length b], .int .i64 0]) ∧
      Row w' B (spR (stepsN ax inv n)) ∧ Below w.heap.size w w' := by
  have HP := Lib.hid hp
  have HN := Lib.hid hn
  have HW := Lib.hid hw
  have hC7 := chk7_ok hc
  have HF : Hid (stepsS p ax inv = (stepsN ax inv n, 0)) := Lib.hid (by rw [stepsS, if_pos hc, hn])
  have HMAY : Hid (∀ s ∈ stepsN ax inv n, chk16 p ax s = 0) := Lib.hid fun s hs => steps_may hC7 (by rw [hn]; exact Nat.le_refl _) hs
  have hp1 := hC7.dims.pos.prod
  have hp4 := hC7.dims.all
  have HAL : Hid (allS (dimsA ax) = (prodL (dimsA ax), 0)) := Lib.hid (allS_yes hC7.dims)
  have HDL : Hid ((dimsA ax).length = n) := Lib.hid (by rw [dimsA_length]; exact hn)
  have HDI : Hid (∀ d ∈ dimsA ax, i64 d) := Lib.hid (dimsA_i64 hw)
  have hlen : (stepsN ax inv n).length ≤ 56 := by
    have h1 := stepsN_len hC7.smooth inv n (by rw [hn]; exact Nat.le_refl _)
    have h2 := hC7.dims.n4
    rw [dimsA_length, hn] at h2
    omega
  have HTL : Hid (∀ s ∈ stepsN ax inv n, tlen p ax inv s ≤ 4096) := Lib.hid fun s hs => by
    obtain ⟨k, N, neg, hK, _, h2⟩ := tlen_le (inv := inv) s (HMAY.out s hs)
    have := hK.c6.n2
    omega
  generalize prodL (dimsA ax) = PD at *
  obtain ⟨l, hl2⟩ : ∃ l, stepsN ax inv n = l := ⟨_, rfl⟩
  rw [hl2] at HF HMAY hlen HTL ⊢
  obtain ⟨K, hK⟩ : ∃ K, l.length = K := ⟨_, rfl⟩
  have HK : Hid (l.length = K) := Lib.hid hK
  have HK2 : Hid (((l, (0 : Int)).1).length = K) := Lib.hid hK
  rw [hK] at hlen ⊢
  have hb0 : Below w.heap.size w (w.alloc (.cells #[.int .i64 0, .int .i64 0, .int .i64 0, .slice none 0 0] 54)) := (Below.refl _ _).alloc (Nat.le_refl _) _
  have HB0 := Lib.hid hb0
  have HR0 := Lib.hid (hr.below hb0)
  have HT0 := Lib.hid (hT.below hb0)
  have HO0 : Hid (Own (w.alloc (.cells #[.int .i64 0, .int .i64 0, .int .i64 0, .slice none 0 0] 54)) w.heap.size 54 1 (some ⟨w.heap.size, 0, none⟩) 4 4 [.int .i64 0, .int .i64 0, .int .i64 0, .slice none 0 0]) := Lib.hid (own_one w w.heap.size 54 [.int .i64 0, .int .i64 0, .int .i64 0, .slice none 0 0] 4 (Nat.le_refl _) rfl (by decide))
  clear hn hp hr hw hT hb0 hc hC7 hl2 hK
  go_enter Tryd.func33, Tryd.ntmps33
  go_wp2_with fail
  generalize (w.alloc (.cells #[.int .i64 0, .int .i64 0, .int .i64 0, .slice none 0 0] 54)) = V0 at *
  refine (psteps_calls p A c n ax inv V0 HN.out HP.out HR0.out hl HW.out HT0.out).mono ?_
  rw [HF.out, HK2.out]
  rintro e w2 ⟨B, b, rfl, ho, hb⟩
  have HB2 := Lib.hid (blT HB0.out hb)
  have HO2 := Lib.hid (HO0.out.grown hb)
  have HR2 := Lib.hid (HR0.out.below hb)
  have HT2 := Lib.hid (HT0.out.below hb)
  have HL2 := Lib.hid ho.row
  have HLO : Hid (∀ x, B = some x → w.heap.size + 1 ≤ x.block) := Lib.hid fun x hx => by
    have h1 := ho.from' x hx
    have h2 := (Own.base HO0.out).2
    omega
  clear ho hb
  dsimp only
  go_wp2_with fail
  refine (dims7_calls A c n ax w2 HN.out HR2.out hl).mono ?_
  rintro e w3 ⟨D, rfl, ho, hb⟩
  have HB3 := Lib.hid (blT HB2.out hb)
  have HO3 := Lib.hid (HO2.out.grown hb)
  have HR3 := Lib.hid (HR2.out.below hb)
  have HT3 := Lib.hid (HT2.out.below hb)
  have HL3 := Lib.hid (HL2.out.below hb)
  have HD3 := Lib.hid ho.row
  clear ho hb
  go_wp2_with fail
  refine (all_n D n n (dimsA ax) w3 HDL.out HD3.out (by omega) HDI.out).mono ?_
  rw [HAL.out]
  rintro e w4 ⟨rfl, rfl⟩
  dsimp only
  have hbA : Below w4.heap.size w4 (w4.alloc (.cells #[.int .i64 PD, .int .i64 0, .int .i64 0, .slice B K b] 54)) := (Below.refl _ _).alloc (Nat.le_refl _) _
  have HP0 : Hid (Own (w4.alloc (.cells #[.int .i64 PD, .int .i64 0, .int .i64 0, .slice B K b] 54)) w4.heap.size 54 1 (some ⟨w4.heap.size, 0, none⟩) 4 4 [.int .i64 PD, .int .i64 ((mostN (tlen p ax inv) l 0 : Nat) : Int), .int .i64 0, .slice B K b]) := Lib.hid (own_one w4 w4.heap.size 54 [.int .i64 PD, .int .i64 0, .int .i64 0, .slice B K b] 4 (Nat.le_refl _) rfl (by decide))
  have HBA := Lib.hid hbA
  have HSW : Hid (w.heap.size < w4.heap.size) := Lib.hid (Own.base HO3.out).2
  clear hbA
  go_wp2
  generalize (w4.alloc (.cells #[.int .i64 PD, .int .i64 0, .int .i64 0, .slice B K b] 54)) = V1 at *
  obtain ⟨bp, hbp⟩ : ∃ b, w4.heap.size = b := ⟨_, rfl⟩
  have HBP := Lib.hid hbp
  rw [hbp] at HP0 HBA HSW
  try rw [hbp]
  clear hbp
  go_loopw [42] (fun q ws => ∃ i : Nat, i ≤ K ∧ q = .int .i64 i ∧ Hid (Own ws bp 54 1 (some ⟨bp, 0, none⟩) 4 4 [.int .i64 PD, .int .i64 ((mostN (tlen p ax inv) l i : Nat) : Int), .int .i64 0, .slice B K b]) ∧ Hid (Below bp w4 ws)) (fun q _ => K - (intOf q).toNat)
  case atStart => exact ⟨0, Nat.zero_le _, rfl, HP0, HBA⟩
  case round =>
    obtain ⟨i, hi, rfl, HPI, HB5⟩ := hrel
    have HB5' : Hid (Below w4.heap.size w4 wr) := Lib.hid (by rw [HBP.out]; exact HB5.out)
    have hmo : mostN (tlen p ax inv) l i ≤ 4096 := mostN_le _ _ HTL.out i (by rw [HK.out]; exact hi)
    by_cases hlt : i < K
    · have hil : i < l.length := by have := HK.out; omega
      obtain ⟨la, rfl⟩ := HL3.out.some_of (by intro h0; have h1 := spR_length l; rw [h0] at h1; simp at h1; omega)
      obtain ⟨b0, b1, b2, b3, b4⟩ := sp_cells (HL3.out.below HB5'.out) hil
      obtain ⟨ks, N, neg, hKs, htab, hlenT⟩ := tlen_le (inv := inv) _ (HMAY.out _ (List.getElem_mem hil))
      have hN4 := hKs.c6.n2
      have HNX : Hid (mostN (tlen p ax inv) l (i + 1) = max (mostN (tlen p ax inv) l i) (tlen p ax inv l[i])) := Lib.hid (by rw [mostN, List.getD_eq_getElem?_getD, List.getElem?_eq_getElem hil]; rfl)
      have HTE : Hid ((tabS p ax inv l[i]).1.length = tlen p ax inv l[i]) := Lib.hid rfl
      have HT2 : Hid ((tabS p ax inv l[i]).2 = 0) := Lib.hid (by rw [htab])
      obtain ⟨⟨s0, s1, s2, s3, s4⟩, hs⟩ : ∃ s, l[i] = s := ⟨_, rfl⟩
      rw [hs] at HNX HTE HT2 hlenT b0 b1 b2 b3 b4
      dsimp only at b0 b1 b2 b3 b4
      clear hs hil hKs htab
      generalize tlen p ax inv (s0, s1, s2, s3, s4) = tn at *
      generalize mostN (tlen p ax inv) l i = mo at *
      have hbG : Below wr.heap.size wr (wr.alloc (.cells #[.int .i64 s0, .bool s1, .int .i64 s2, .int .i64 s3, .int .i64 s4] 39)) := (Below.refl _ _).alloc (Nat.le_refl _) _
      have HBG := Lib.hid hbG
      clear hbG
      go_wp2_with fail
      clear b0 b1 b2 b3 b4
      generalize (wr.alloc (.cells #[.int .i64 s0, .bool s1, .int .i64 s2, .int .i64 s3, .int .i64 s4] 39)) = V2 at *
      have HBV : Hid (Below w4.heap.size w4 V2) := Lib.hid (blT HB5'.out HBG.out)
      refine (stab_calls p A c n ax inv s0 s1 s2 s3 s4 V2 HN.out HP.out (HR3.out.below HBV.out) hl HW.out (HT3.out.below HBV.out)).mono ?_
      rw [HTE.out, HT2.out]
      rintro e w7 ⟨T, tc, rfl, ho, hb⟩
      have HPV := Lib.hid ((HPI.out.grown HBG.out).grown hb)
      have HB7 : Hid (Below bp w4 w7) := Lib.hid (by have h1 := blT HBV.out hb; rw [HBP.out] at h1; exact h1)
      clear ho hb
      obtain ⟨c0, c1, c2, c3⟩ := own4_cells HPV.out
      have f1 := HPV.out.frozenAt 1
      have hmx : max (mo : Int) (tn : Int) = ((max mo tn : Nat) : Int) := by omega
      have HPS : Hid (Own (w7.setCell ⟨bp, 1, none⟩ (.int .i64 (max (mo : Int) (tn : Int)))) bp 54 1 (some ⟨bp, 0, none⟩) 4 4 [.int .i64 PD, .int .i64 ((mostN (tlen p ax inv) l (i + 1) : Nat) : Int), .int .i64 0, .slice (some la) K b]) := Lib.hid (by
        have h1 := HPV.out.stored 1 (.int .i64 (max (mo : Int) (tn : Int)))
        rw [HNX.out, ← hmx]
        exact h1)
      have HBS : Hid (Below bp w4 (w7.setCell ⟨bp, 1, none⟩ (.int .i64 (max (mo : Int) (tn : Int))))) := Lib.hid (HB7.out.setCell (p := ⟨bp, 1, none⟩) (Nat.le_refl _) _)
      clear hmx
      go_wp2
      go_roundw
      case rel => exact ⟨i + 1, by omega, by go_num, HPS, HBS⟩
      case measure => simp [intOf]; omega
    · have hie : i = K := by omega
      subst hie
      obtain ⟨c0, c1, c2, c3⟩ := own4_cells HPI.out
      have g2 := HPI.out.frozenAt 2
      obtain ⟨mo, hme⟩ : ∃ m, mostN (tlen p ax inv) l i = m := ⟨_, rfl⟩
      rw [hme] at c1 HPI hmo
      have HME := Lib.hid hme
      clear hme
      have o1 : IntKind.i64.wrap (PD + 6) = PD + 6 := wrapI (by omega) (by omega)
      have o2 : IntKind.i64.wrap (2 * (PD + 6)) = 2 * (PD + 6) := wrapI (by omega) (by omega)
      have o3 : IntKind.i64.wrap (2 * (PD + 6) + (mo : Int)) = 2 * (PD + 6) + (mo : Int) := wrapI (by omega) (by omega)
      have hs0 := (HO3.out.keepBelow (S := bp) (by have := HSW.out; exact this) HB5.out).setOff (p := ⟨bp, 2, none⟩) (by have := HSW.out; dsimp only; omega) (.int .i64 (2 * (PD + 6) + (mo : Int)))
      have hs1 := HPI.out.stored 2 (.int .i64 (2 * (PD + 6) + (mo : Int)))
      have hs1' : Own (wr.setCell ⟨bp, 2, none⟩ (.int .i64 (2 * (PD + 6) + (mo : Int)))) bp 54 1 (some ⟨bp, 0, none⟩) 4 4 [.int .i64 PD, .int .i64 (mo : Int), .int .i64 (2 * (PD + 6) + (mo : Int)), .slice B i b] := hs1
      have hb8 : Below w.heap.size w (wr.setCell ⟨bp, 2, none⟩ (.int .i64 (2 * (PD + 6) + (mo : Int)))) := (blT HB3.out HB5'.out).setCell (p := ⟨bp, 2, none⟩) (by have := HSW.out; dsimp only; omega) _
      have hr8 := (HL3.out.below HB5'.out)
      have hb9 : Below bp w4 (wr.setCell ⟨bp, 2, none⟩ (.int .i64 (2 * (PD + 6) + (mo : Int)))) := HB5.out.setCell (p := ⟨bp, 2, none⟩) (Nat.le_refl _) _
      have HRF : Hid (∀ W, Below bp w4 W → Row W B (spR l)) := Lib.hid fun W h => HL3.out.below (by rw [HBP.out]; exact h)
      obtain ⟨d0, d1, d2, d3⟩ := own4_cells hs1'
      obtain ⟨e0, e1, e2, e3⟩ := own4_cells hs0
      have f0 := hs0.frozenAt 0
      have f1 := hs0.frozenAt 1
      have f2 := hs0.frozenAt 2
      have f3 := hs0.frozenAt 3
      have HF4 := Lib.hid (own4 hs0 (.int .i64 PD) (.int .i64 (mo : Int)) (.int .i64 (2 * (PD + 6) + (mo : Int))) (.slice B i b))
      have HB8 := Lib.hid hb8
      have HLX : Hid (Row (((((wr.setCell ⟨bp, 2, none⟩ (.int .i64 (2 * (PD + 6) + (mo : Int)))).setCell ⟨w.heap.size, 0, none⟩ (.int .i64 PD)).setCell ⟨w.heap.size, 1, none⟩ (.int .i64 (mo : Int))).setCell ⟨w.heap.size, 2, none⟩ (.int .i64 (2 * (PD + 6) + (mo : Int)))).setCell ⟨w.heap.size, 3, none⟩ (.slice B i b)) B (spR l)) := Lib.hid (by
        exact (HRF.out _ hb9).set4 (fun x hx => by have h2 := HLO.out x hx; omega) _ _ _ _)
      have HBX : Hid (Below w.heap.size w (((((wr.setCell ⟨bp, 2, none⟩ (.int .i64 (2 * (PD + 6) + (mo : Int)))).setCell ⟨w.heap.size, 0, none⟩ (.int .i64 PD)).setCell ⟨w.heap.size, 1, none⟩ (.int .i64 (mo : Int))).setCell ⟨w.heap.size, 2, none⟩ (.int .i64 (2 * (PD + 6) + (mo : Int)))).setCell ⟨w.heap.size, 3, none⟩ (.slice B i b))) := Lib.hid
        (below_set4 hb8 (Nat.le_refl _) _ _ _ _)
      clear hs0 hs1 hs1' hb8 hr8 hb9
      go_wp2
      clear c0 c1 c2 c3 d0 d1 d2 d3 e0 e1 e2 e3
      obtain ⟨c0, c1, c2, c3⟩ := own4_cells HF4.out
      exact bodyPost_ret (plan_ret rfl _ _ w.heap.size _ _ _ _ _ rfl rfl c0 c1 c2 c3) rfl ⟨B, b, by rw [HME.out]; rfl, HLX.out, HBX.out⟩
end Go.Proofs.YtohcoidbncbijaaDoor.P
