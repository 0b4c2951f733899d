
/- The contract of step.Do. Conditions: words of their kinds; slices read as lists; the library's table lies as it was laid. -/
import Derived.Test.YtohcoidbncbijaaDoorStpB
import Derived.Test.YtohcoidbncbijaaDoorStE
import Derived.Test.YtohcoidbncbijaaDoorStW
namespace Go.Proofs.YtohcoidbncbijaaDoor.P
open Go.RowKit
set_option linter.unusedVariables false
set_option linter.unusedSimpArgs false
set_option maxRecDepth 100000 in
set_option maxHeartbeats 4000000 in
theorem Row.toX {w V : World} {A : Option Addr} {cs : List Value} (h : Row w A cs) (hne : cs ≠ []) (hb : Below w.heap.size w V) {og : Nat} (hg : w.heap.size ≤ og) : RowX og V A cs := ⟨h.below hb, fun x hx => by
  subst hx
  rcases cs with _ | ⟨u, cs⟩
  · exact absurd rfl hne
  · have h1 := World.block_lt_of_cell? w _ (h.cell (i := 0) rfl)
    rw [add_block] at h1
    omega⟩
theorem nums_ne {k : IntKind} {l : List Int} (h : 1 ≤ l.length) : nums k l ≠ [] := by
  intro h0
  have h1 := nums_length k l
  rw [h0] at h1
  simp at h1
  omega
theorem tabL_pos {p : Int} {ax : List (Int × Bool)} {s : Stp} {k N : Nat} {neg : Bool} (hK : StepK p ax s k N neg) (inv : Bool) : 1 ≤ (tabL p N neg inv s).length := by
  have hN := hK.c6.n1
  rcases hK.kind with ⟨h1, _⟩ | ⟨h1, h2⟩
  · unfold tabL; rw [if_pos h1]; simp; omega
  · obtain ⟨R, L, M, hs, hS⟩ := stg_mem hK.c6.smooth h2
    unfold tabL
    rw [if_neg (by rw [h1]; decide), hs]
    simp only [List.length_map, List.length_range, Int.toNat_natCast]
    exact Nat.mul_pos (by have := hS.m1; omega) (by have := hS.r2; omega)
set_option maxRecDepth 100000 in
set_option maxHeartbeats 4000000 in
theorem sdo_calls (p : Int) (A : Option Addr) (c n : Nat) (ax : List (Int × Bool)) (inv : Bool) (s0 : Int) (s1 : Bool) (s2 s3 s4 : Int) (X : Option Addr) (cx m : Nat) (x : List Int) (w : World) (hn : ax.length = n) (hm : x.length = m) (hp : U64 p) (hr : Row w A (axR ax)) (hl : n ≤ 8796093022208) (hw : ∀ a ∈ ax, i64 a.1)
    (hrx : Row w X (nums .u64 x)) (hlm : m ≤ 9223372036854775807) (hwx : ∀ d ∈ x, U64 d) (hT : Tab w) :
    Calls Tryd.prog 39 #[.int .u64 p, .slice A n c, .bool inv, .agg #[.int .i64 s0, .bool s1, .int .i64 s2, .int .i64 s3, .int .i64 s4], .slice X m cx] w fun e w' => ∃ B b,
      e = .returned (.tuple #[.slice B (doS16 p ax inv (s0, s1, s2, s3, s4) x).1.length b, .int .i64 (doS16 p ax inv (s0, s1, s2, s3, s4) x).2]) ∧ Own w' w.heap.size 22 1 B (doS16 p ax inv (s0, s1, s2, s3, s4) x).1.length b (nums .u64 (doS16 p ax inv (s0, s1, s2, s3, s4) x).1) ∧ Below w.heap.size w w' := by
  have HP := Lib.hid hp
  have HN := Lib.hid hn
  have HM := Lib.hid hm
  have HW := Lib.hid hw
  have HWX := Lib.hid hwx
  have hb0 : Below w.heap.size w ((((w.alloc (.cells #[.int .u64 p] 22)).alloc (.cells #[.bool inv] 4)).alloc (.cells #[.int .i64 s0, .bool s1, .int .i64 s2, .int .i64 s3, .int .i64 s4] 39)).alloc (.cells #[.slice X m cx] 41)) := ((((Below.refl _ _).alloc (Nat.le_refl _) _).alloc (by simp only [size_alloc]; omega) _).alloc (by simp only [size_alloc]; omega) _).alloc (by simp only [size_alloc]; omega) _
  have HB0 := Lib.hid hb0
  have HR0 := Lib.hid (hr.below hb0)
  have HRX0 := Lib.hid (hrx.below hb0)
  have HT0 := Lib.hid (hT.below hb0)
  have hx0 : Row ((((w.alloc (.cells #[.int .u64 p] 22)).alloc (.cells #[.bool inv] 4)).alloc (.cells #[.int .i64 s0, .bool s1, .int .i64 s2, .int .i64 s3, .int .i64 s4] 39)).alloc (.cells #[.slice X m cx] 41)) (some ⟨w.heap.size + 1 + 1 + 1, 0, none⟩) [.slice X m cx] := by
    have h1 := row_new (((w.alloc (.cells #[.int .u64 p] 22)).alloc (.cells #[.bool inv] 4)).alloc (.cells #[.int .i64 s0, .bool s1, .int .i64 s2, .int .i64 s3, .int .i64 s4] 39)) [.slice X m cx] 41
    simp only [size_alloc] at h1
    exact h1
  have hs0 : Row ((((w.alloc (.cells #[.int .u64 p] 22)).alloc (.cells #[.bool inv] 4)).alloc (.cells #[.int .i64 s0, .bool s1, .int .i64 s2, .int .i64 s3, .int .i64 s4] 39)).alloc (.cells #[.slice X m cx] 41)) (some ⟨w.heap.size + 1 + 1, 0, none⟩) [.int .i64 s0, .bool s1, .int .i64 s2, .int .i64 s3, .int .i64 s4] := by
    have h1 := (row_new ((w.alloc (.cells #[.int .u64 p] 22)).alloc (.cells #[.bool inv] 4)) [.int .i64 s0, .bool s1, .int .i64 s2, .int .i64 s3, .int .i64 s4] 39).below ((Below.refl _ _).alloc (Nat.le_refl _) (.cells #[.slice X m cx] 41))
    simp only [size_alloc] at h1
    exact h1
  have hi0 : Row ((((w.alloc (.cells #[.int .u64 p] 22)).alloc (.cells #[.bool inv] 4)).alloc (.cells #[.int .i64 s0, .bool s1, .int .i64 s2, .int .i64 s3, .int .i64 s4] 39)).alloc (.cells #[.slice X m cx] 41)) (some ⟨w.heap.size + 1, 0, none⟩) [.bool inv] := by
    have h1 := (row_new (w.alloc (.cells #[.int .u64 p] 22)) [.bool inv] 4).below (((Below.refl _ _).alloc (Nat.le_refl _) (.cells #[.int .i64 s0, .bool s1, .int .i64 s2, .int .i64 s3, .int .i64 s4] 39)).alloc (by simp only [size_alloc]; omega) (.cells #[.slice X m cx] 41))
    simp only [size_alloc] at h1
    exact h1
  have hp0 : Row ((((w.alloc (.cells #[.int .u64 p] 22)).alloc (.cells #[.bool inv] 4)).alloc (.cells #[.int .i64 s0, .bool s1, .int .i64 s2, .int .i64 s3, .int .i64 s4] 39)).alloc (.cells #[.slice X m cx] 41)) (some ⟨w.heap.size, 0, none⟩) [.int .u64 p] :=
    (row_new w [.int .u64 p] 22).below ((((Below.refl _ _).alloc (Nat.le_refl _) (.cells #[.bool inv] 4)).alloc (by simp only [size_alloc]; omega) (.cells #[.int .i64 s0, .bool s1, .int .i64 s2, .int .i64 s3, .int .i64 s4] 39)).alloc (by simp only [size_alloc]; omega) (.cells #[.slice X m cx] 41))
  have HX0 := Lib.hid hx0
  have HS0 := Lib.hid hs0
  have HI0 := Lib.hid hi0
  have HP0 := Lib.hid hp0
  have HSZ : Hid (((((w.alloc (.cells #[.int .u64 p] 22)).alloc (.cells #[.bool inv] 4)).alloc (.cells #[.int .i64 s0, .bool s1, .int .i64 s2, .int .i64 s3, .int .i64 s4] 39)).alloc (.cells #[.slice X m cx] 41)).heap.size = w.heap.size + 4) := Lib.hid (by simp)
  clear hn hm hp hr hw hrx hwx hT hb0 hx0 hs0 hi0 hp0
  by_cases hc : wrd16 p ax (s0, s1, s2, s3, s4) x = 0
  case neg =>
    have HF : Hid (doS16 p ax inv (s0, s1, s2, s3, s4) x = ([], wrd16 p ax (s0, s1, s2, s3, s4) x)) := Lib.hid (by rw [doS16, if_neg hc])
    have t0 : (wrd16 p ax (s0, s1, s2, s3, s4) x != 0) = true := by simpa using hc
    rw [HF.out]
    clear hc
    go_enter Tryd.func39, Tryd.ntmps39
    go_wp2_with fail
    generalize ((((w.alloc (.cells #[.int .u64 p] 22)).alloc (.cells #[.bool inv] 4)).alloc (.cells #[.int .i64 s0, .bool s1, .int .i64 s2, .int .i64 s3, .int .i64 s4] 39)).alloc (.cells #[.slice X m cx] 41)) = V0 at *
    refine (swrd_calls p _ _ _ ax s0 s1 s2 s3 s4 X cx m x V0 HN.out HM.out HP.out HR0.out hl HW.out HRX0.out hlm HT0.out).mono ?_
    rintro e w2 ⟨rfl, hb⟩
    have HB2 := Lib.hid (HB0.out.trans (hb.mono (by have := HSZ.out; omega)))
    clear hb
    go_wp2
    go_ret2
    exact ⟨none, 0, rfl, Own.nil _ _ _ _, HB2.out⟩
  have HC := Lib.hid hc
  have hc16 : chk16 p ax (s0, s1, s2, s3, s4) = 0 := by
    unfold wrd16 at hc
    split at hc
    · assumption
    · exact hc
  have hc2 := hc
  rw [wrd16, if_pos hc16] at hc2
  have hpx : prodL (dimsA ax) = x.length := by
    split at hc2
    · assumption
    · cases hc2
  rw [if_pos hpx] at hc2
  have hin : inS p x = true := by
    split at hc2
    · assumption
    · cases hc2
  obtain ⟨k, N, neg, hK⟩ := chk16_ok hc16
  have hsk := hK.axis
  dsimp only at hsk
  subst hsk
  have HF : Hid (doS16 p ax inv ((k : Int), s1, s2, s3, s4) x = (stepDo p ax inv ((k : Int), s1, s2, s3, s4) x, 0)) := Lib.hid (by rw [doS16, if_pos hc])
  have HTS : Hid (tabS p ax inv ((k : Int), s1, s2, s3, s4) = (tabL p N neg inv ((k : Int), s1, s2, s3, s4), 0)) := Lib.hid (by
    rw [tabS, if_pos hc16]
    dsimp only
    rw [Int.toNat_natCast, hK.get, hK.dim, Int.toNat_natCast])
  have hm4 : m ≤ 4096 := by have h1 := hK.chk.dims.all; have h2 := HM.out; omega
  have hm1 : 1 ≤ m := by have h1 := hK.chk.dims.pos.prod; have h2 := HM.out; omega
  have hmk := make_u64 m (by omega)
  have HKK := Lib.hid hK
  have HPX := Lib.hid hpx
  have HIN := Lib.hid hin
  obtain ⟨tl, htl⟩ : ∃ tl, (tabL p N neg inv ((k : Int), s1, s2, s3, s4)).length = tl := ⟨_, rfl⟩
  have HTL := Lib.hid htl
  have HTL2 : Hid (((tabL p N neg inv ((k : Int), s1, s2, s3, s4), (0 : Int)).1).length = tl) := Lib.hid htl
  clear hc hc16 hc2 hpx hin hK htl
  have p0 := HP0.out.cell (i := 0) rfl
  have i0 := HI0.out.cell (i := 0) rfl
  have x0 := HX0.out.cell (i := 0) rfl
  go_enter Tryd.func39, Tryd.ntmps39
  go_wp2_with fail
  generalize ((((w.alloc (.cells #[.int .u64 p] 22)).alloc (.cells #[.bool inv] 4)).alloc (.cells #[.int .i64 (k : Int), .bool s1, .int .i64 s2, .int .i64 s3, .int .i64 s4] 39)).alloc (.cells #[.slice X m cx] 41)) = V0 at *
  refine (swrd_calls p _ _ _ ax (k : Int) s1 s2 s3 s4 X cx m x V0 HN.out HM.out HP.out HR0.out hl HW.out HRX0.out hlm HT0.out).mono ?_
  rw [HC.out]
  rintro e w1 ⟨rfl, hb⟩
  have HB1 := Lib.hid (HB0.out.trans (hb.mono (by have := HSZ.out; omega)))
  have HR1 := Lib.hid (HR0.out.below hb)
  have HRX1 := Lib.hid (HRX0.out.below hb)
  have HT1 := Lib.hid (HT0.out.below hb)
  have HX1 := Lib.hid (HX0.out.below hb)
  have HS1 := Lib.hid (HS0.out.below hb)
  have HI1 := Lib.hid (HI0.out.below hb)
  have HP1 := Lib.hid (HP0.out.below hb)
  have HZ1 : Hid (w.heap.size + 4 ≤ w1.heap.size) := Lib.hid (by have h1 := HSZ.out; have h2 := hb.size; omega)
  clear hb p0 i0 x0
  have p1 : w1.cell? ⟨w.heap.size, 0, none⟩ = some (.int .u64 p) := HP1.out.cell (i := 0) rfl
  have i1 : w1.cell? ⟨w.heap.size + 1, 0, none⟩ = some (.bool inv) := HI1.out.cell (i := 0) rfl
  have b0 : w1.cell? ⟨w.heap.size + 1 + 1, 0, none⟩ = some (.int .i64 (k : Int)) := HS1.out.cell (i := 0) rfl
  have b1 : w1.cell? ⟨w.heap.size + 1 + 1, 1, none⟩ = some (.bool s1) := HS1.out.cell (i := 1) rfl
  have b2 : w1.cell? ⟨w.heap.size + 1 + 1, 2, none⟩ = some (.int .i64 s2) := HS1.out.cell (i := 2) rfl
  have b3 : w1.cell? ⟨w.heap.size + 1 + 1, 3, none⟩ = some (.int .i64 s3) := HS1.out.cell (i := 3) rfl
  have b4 : w1.cell? ⟨w.heap.size + 1 + 1, 4, none⟩ = some (.int .i64 s4) := HS1.out.cell (i := 4) rfl
  go_wp2_with fail
  clear p1 i1 b0 b1 b2 b3 b4
  refine (stab_calls p A c n ax inv (k : Int) s1 s2 s3 s4 w1 HN.out HP.out HR1.out hl HW.out HT1.out).mono ?_
  rw [HTS.out, HTL2.out]
  rintro e w2 ⟨Tb, tc, rfl, ho, hb⟩
  have HB2 := Lib.hid (HB1.out.trans (hb.mono (by have := HZ1.out; omega)))
  have HR2 := Lib.hid (HR1.out.below hb)
  have HRX2 := Lib.hid (HRX1.out.below hb)
  have HX2 := Lib.hid (HX1.out.below hb)
  have HS2 := Lib.hid (HS1.out.below hb)
  have HI2 := Lib.hid (HI1.out.below hb)
  have HP2 := Lib.hid (HP1.out.below hb)
  have HTB := Lib.hid ho.row
  have HZ2 : Hid (w.heap.size + 4 ≤ w2.heap.size) := Lib.hid (by have h1 := HZ1.out; have h2 := hb.size; omega)
  clear ho hb
  have hbA : Below w2.heap.size w2 (w2.alloc (.cells #[.slice Tb tl tc] 41)) := (Below.refl _ _).alloc (Nat.le_refl _) _
  have x2 : (w2.alloc (.cells #[.slice Tb tl tc] 41)).cell? ⟨w.heap.size + 1 + 1 + 1, 0, none⟩ = some (.slice X m cx) := (HX2.out.below hbA).cell (i := 0) rfl
  have hbV : Below w2.heap.size w2 ((((w2.alloc (.cells #[.slice Tb tl tc] 41)).alloc (.cells (madeCells #[.int .u64 0] m) 22)).alloc (.cells #[.slice (some ⟨w2.heap.size + 1, 0, none⟩) m m] 41)).alloc (.cells #[.int .i64 0] 27)) := (((hbA.alloc (by simp only [size_alloc]; omega) _).alloc (by simp only [size_alloc]; omega) _).alloc (by simp only [size_alloc]; omega) _)
  have b0 : ((((w2.alloc (.cells #[.slice Tb tl tc] 41)).alloc (.cells (madeCells #[.int .u64 0] m) 22)).alloc (.cells #[.slice (some ⟨w2.heap.size + 1, 0, none⟩) m m] 41)).alloc (.cells #[.int .i64 0] 27)).cell? ⟨w.heap.size + 1 + 1, 0, none⟩ = some (.int .i64 (k : Int)) := (HS2.out.below hbV).cell (i := 0) rfl
  have b1 : ((((w2.alloc (.cells #[.slice Tb tl tc] 41)).alloc (.cells (madeCells #[.int .u64 0] m) 22)).alloc (.cells #[.slice (some ⟨w2.heap.size + 1, 0, none⟩) m m] 41)).alloc (.cells #[.int .i64 0] 27)).cell? ⟨w.heap.size + 1 + 1, 1, none⟩ = some (.bool s1) := (HS2.out.below hbV).cell (i := 1) rfl
  have b2 : ((((w2.alloc (.cells #[.slice Tb tl tc] 41)).alloc (.cells (madeCells #[.int .u64 0] m) 22)).alloc (.cells #[.slice (some ⟨w2.heap.size + 1, 0, none⟩) m m] 41)).alloc (.cells #[.int .i64 0] 27)).cell? ⟨w.heap.size + 1 + 1, 2, none⟩ = some (.int .i64 s2) := (HS2.out.below hbV).cell (i := 2) rfl
  have b3 : ((((w2.alloc (.cells #[.slice Tb tl tc] 41)).alloc (.cells (madeCells #[.int .u64 0] m) 22)).alloc (.cells #[.slice (some ⟨w2.heap.size + 1, 0, none⟩) m m] 41)).alloc (.cells #[.int .i64 0] 27)).cell? ⟨w.heap.size + 1 + 1, 3, none⟩ = some (.int .i64 s3) := (HS2.out.below hbV).cell (i := 3) rfl
  have b4 : ((((w2.alloc (.cells #[.slice Tb tl tc] 41)).alloc (.cells (madeCells #[.int .u64 0] m) 22)).alloc (.cells #[.slice (some ⟨w2.heap.size + 1, 0, none⟩) m m] 41)).alloc (.cells #[.int .i64 0] 27)).cell? ⟨w.heap.size + 1 + 1, 4, none⟩ = some (.int .i64 s4) := (HS2.out.below hbV).cell (i := 4) rfl
  go_wp2_with fail
  have HOG : Hid (w2.heap.size ≤ w2.heap.size + 1) := Lib.hid (by omega)
  have xR := HR2.out.toX (by intro h0; have h1 := axR_length ax; rw [h0] at h1; simp at h1; have h2 := HKK.out.lt; omega) hbV HOG.out
  have xX := HRX2.out.toX (nums_ne (by rw [HM.out]; exact hm1)) hbV HOG.out
  have xT := HTB.out.toX (nums_ne (tabL_pos HKK.out inv)) hbV HOG.out
  have xbx := HX2.out.toX (List.cons_ne_nil _ _) hbV HOG.out
  have xbs := HS2.out.toX (List.cons_ne_nil _ _) hbV HOG.out
  have xbp := HP2.out.toX (List.cons_ne_nil _ _) hbV HOG.out
  have xbi := HI2.out.toX (List.cons_ne_nil _ _) hbV HOG.out
  have xbt : RowX (w2.heap.size + 1) ((((w2.alloc (.cells #[.slice Tb tl tc] 41)).alloc (.cells (madeCells #[.int .u64 0] m) 22)).alloc (.cells #[.slice (some ⟨w2.heap.size + 1, 0, none⟩) m m] 41)).alloc (.cells #[.int .i64 0] 27)) (some ⟨w2.heap.size, 0, none⟩) [.slice Tb tl tc] := by
    refine (row_new w2 [.slice Tb tl tc] 41).toX (List.cons_ne_nil _ _) ?_ (by simp)
    exact ((((Below.refl _ _).alloc (Nat.le_refl _) _).alloc (by simp only [size_alloc]; omega) _).alloc (by simp only [size_alloc]; omega) _)
  have hso : (((w2.alloc (.cells #[.slice Tb tl tc] 41)).alloc (.cells (madeCells #[.int .u64 0] m) 22))).heap.size = w2.heap.size + 1 + 1 := by simp only [size_alloc]
  have xbo : RowX (w2.heap.size + 1) ((((w2.alloc (.cells #[.slice Tb tl tc] 41)).alloc (.cells (madeCells #[.int .u64 0] m) 22)).alloc (.cells #[.slice (some ⟨w2.heap.size + 1, 0, none⟩) m m] 41)).alloc (.cells #[.int .i64 0] 27)) (some ⟨w2.heap.size + 1 + 1, 0, none⟩) [.slice (some ⟨w2.heap.size + 1, 0, none⟩) m m] := by
    refine ⟨?_, fun y hy => by cases hy; dsimp only; omega⟩
    have h1 := (row_new ((w2.alloc (.cells #[.slice Tb tl tc] 41)).alloc (.cells (madeCells #[.int .u64 0] m) 22)) [.slice (some ⟨w2.heap.size + 1, 0, none⟩) m m] 41).below ((Below.refl _ _).alloc (Nat.le_refl _) (.cells #[.int .i64 0] 27))
    rw [hso] at h1
    exact h1
  have xbb : RowX (w2.heap.size + 1) ((((w2.alloc (.cells #[.slice Tb tl tc] 41)).alloc (.cells (madeCells #[.int .u64 0] m) 22)).alloc (.cells #[.slice (some ⟨w2.heap.size + 1, 0, none⟩) m m] 41)).alloc (.cells #[.int .i64 0] 27)) (some ⟨w2.heap.size + 1 + 1 + 1, 0, none⟩) [.int .i64 0] := by
    refine ⟨?_, fun y hy => by cases hy; dsimp only; omega⟩
    have h1 := row_new (((w2.alloc (.cells #[.slice Tb tl tc] 41)).alloc (.cells (madeCells #[.int .u64 0] m) 22)).alloc (.cells #[.slice (some ⟨w2.heap.size + 1, 0, none⟩) m m] 41)) [.int .i64 0] 27
    rw [size_alloc, hso] at h1
    exact h1
  have xow : Own ((((w2.alloc (.cells #[.slice Tb tl tc] 41)).alloc (.cells (madeCells #[.int .u64 0] m) 22)).alloc (.cells #[.slice (some ⟨w2.heap.size + 1, 0, none⟩) m m] 41)).alloc (.cells #[.int .i64 0] 27)) (w2.heap.size + 1) 22 1 (some ⟨w2.heap.size + 1, 0, none⟩) m m (nums .u64 (List.replicate m 0)) := by
    have h1 := (own_made (w2.alloc (.cells #[.slice Tb tl tc] 41)) (w2.heap.size + 1) 22 (.int .u64 0) m (by simp only [size_alloc]; omega) (by omega)).grown (((Below.refl _ _).alloc (Nat.le_refl _) (.cells #[.slice (some ⟨w2.heap.size + 1, 0, none⟩) m m] 41)).alloc (by simp only [size_alloc]; omega) (.cells #[.int .i64 0] 27))
    rw [size_alloc, nums_replicate] at h1
    exact h1
  have HBV := Lib.hid hbV
  have HXBO := Lib.hid xbo
  have HXBB := Lib.hid xbb
  clear hbV hbA b0 b1 b2 b3 b4 x2 hmk
  generalize ((((w2.alloc (.cells #[.slice Tb tl tc] 41)).alloc (.cells (madeCells #[.int .u64 0] m) 22)).alloc (.cells #[.slice (some ⟨w2.heap.size + 1, 0, none⟩) m m] 41)).alloc (.cells #[.int .i64 0] 27)) = V at *
  refine (each_do p A c n ax inv k s1 s2 s3 s4 N neg X cx m x Tb tl tc (w2.heap.size + 1) _ _ _ _ _ _ _ V HKK.out HN.out hl HW.out HM.out HPX.out HIN.out HWX.out HP.out HTL.out xR xX xT xbx xbs xbp xbi xbt xbo xow).mono ?_
  rintro e w3 ⟨rfl, ho, hg⟩
  have HO3 : Hid (Own w3 w.heap.size 22 1 (some ⟨w2.heap.size + 1, 0, none⟩) m m (nums .u64 (stepDo p ax inv ((k : Int), s1, s2, s3, s4) x))) := Lib.hid (ho.mono (by have := HZ2.out; omega))
  have HB3 : Hid (Below w.heap.size w w3) := Lib.hid ((HB2.out.trans (HBV.out.mono (by have := HZ2.out; omega))).trans (hg.of_below (by have := HZ2.out; omega) (by have h1 := HZ2.out; have h2 := HBV.out.size; omega)))
  have c1 := RowX.cellB (HXBO.out.grown hg) (i := 0) rfl
  have c2 := RowX.cellB (HXBB.out.grown hg) (i := 0) rfl
  have HLO : Hid (((stepDo p ax inv ((k : Int), s1, s2, s3, s4) x, (0 : Int)).1).length = m) := Lib.hid (by rw [stepDo_length]; exact HM.out)
  clear ho hg xR xX xT xbx xbs xbp xbi xbt xbo xow xbb hso
  go_wp2
  go_ret2
  rw [HF.out, HLO.out]
  exact ⟨_, _, rfl, HO3.out, HB3.out⟩
end Go.Proofs.YtohcoidbncbijaaDoor.P
