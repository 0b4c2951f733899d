
/- The contract of brackenref16.Table. Conditions: words of their kinds; slices read as lists. -/
import Derived.Test.YtohcoidbncbijaaDoorStU
import Derived.Test.YtohcoidbncbijaaDoorStK
import Derived.Test.YtohcoidbncbijaaDoorStE
namespace Go.Proofs.YtohcoidbncbijaaDoor.P
open Go.RowKit
set_option linter.unusedVariables false
set_option linter.unusedSimpArgs false
theorem inv_uniq {p x b : Int} (hk : knownS p = true) (h : redS p (x * b) = 1) (hb : redS p b = b) : (invS p x).1 = b := by
  have h1 : redS p 1 = 1 := one_red hk
  have hx : redS p x ≠ 0 := fun e => by
    have h2 : redS p (x * b) = redS p (0 * b) := red_mul (by rw [e, redS_zero]) rfl
    rw [Int.zero_mul, redS_zero, h] at h2
    exact absurd h2 (by decide)
  have hf := redS_fermat hk hx
  have hp := (known_pos hk).1
  have e1 : (p - 1).toNat = (p - 2).toNat + 1 := by omega
  rw [e1, Int.pow_succ, Int.mul_comm] at hf
  have h3 : redS p (x * x ^ (p - 2).toNat) = redS p (x * b) := by rw [hf, h]
  have h4 := redS_cancel hk hx h3
  rw [invS, if_pos hk, if_neg hx]
  show powS p x (p - 2).toNat = b
  unfold powS
  rw [h4, hb]
/-- What the document's table starts from. -/
def refW (p : Int) (N : Nat) (neg : Bool) (j : Nat) : Int := if neg then powS p (rootS p (2 * (N : Int))).1 j else 1
theorem refW_is {p : Int} {N : Nat} {neg : Bool} (h6 : Chk6 p N neg) (j : Nat) : refW p N neg j = twF p N neg false j := by
  unfold refW twF rtS
  cases neg
  · simp only [Bool.false_eq_true, if_false]
    unfold powS
    rw [Int.one_pow, one_red h6.known]
  · simp only [Bool.false_eq_true, if_false, if_true]
    rw [Int.mul_comm]
theorem refW_inv {p : Int} {N : Nat} {neg : Bool} (h6 : Chk6 p N neg) (j : Nat) : (invS p (mulS p (refW p N neg j) (N : Int))).1 = twF p N neg true j := by
  rw [refW_is h6]
  refine inv_uniq h6.known ?_ ?_
  · have h := tw_undo h6 j
    unfold mulS
    rw [redS_mul_left, show twF p N neg false j * (N : Int) * twF p N neg true j = twF p N neg false j * twF p N neg true j * (N : Int) by ac_rfl]
    exact h
  · unfold twF; rw [if_pos rfl]; unfold mulS; exact redS_redS _ _
theorem refG_is (p R M : Int) (a u : Nat) : powS p (rootS p (R * M)).1 (a * u) = tgF p R M false a u := by
  unfold tgF rtS
  simp only [Bool.false_eq_true, if_false]
  rw [powS_mul]
theorem refG_inv {p : Int} {N : Nat} {neg : Bool} (h6 : Chk6 p N neg) {R L M : Nat} (hS : StageK N R L M) (a u : Nat) : (invS p (powS p (rootS p ((R : Int) * (M : Int))).1 (a * u))).1 = tgF p R M true a u := by
  rw [refG_is]
  refine inv_uniq h6.known (tg_undo h6 hS a u) ?_
  unfold tgF powS
  exact redS_redS _ _
theorem tgL_row (p : Int) (R M : Nat) (inv : Bool) {a u : Nat} (hu : u < R) :
    ((List.range (a * R + (u + 1))).map fun i => tgF p R M inv (i / R) (i % R)) = ((List.range (a * R + u)).map fun i => tgF p R M inv (i / R) (i % R)) ++ [tgF p R M inv a u] := by
  rw [← Nat.add_assoc, List.range_succ, List.map_append, List.map_singleton, (dig_last hu).1, (dig_last hu).2]
set_option maxRecDepth 100000 in
set_option maxHeartbeats 4000000 in
theorem rtab_calls (p : Int) (A : Option Addr) (c n : Nat) (ax : List (Int × Bool)) (inv : Bool) (s0 : Int) (s1 : Bool) (s2 s3 s4 : Int) (w : World) (hn : ax.length = n) (hp : U64 p) (hr : Row w A (axR ax)) (hl : n ≤ 8796093022208) (hw : ∀ a ∈ ax, i64 a.1) :
    Calls Tryd.prog 43 #[.int .u64 p, .slice A n c, .bool inv, .agg #[.int .i64 s0, .bool s1, .int .i64 s2, .int .i64 s3, .int .i64 s4]] w fun e w' => ∃ B b,
      e = .returned (.tuple #[.slice B (tabS p ax inv (s0, s1, s2, s3, s4)).1.length b, .int .i64 (tabS p ax inv (s0, s1, s2, s3, s4)).2]) ∧ Own w' w.heap.size 22 1 B (tabS p ax inv (s0, s1, s2, s3, s4)).1.length b (nums .u64 (tabS p ax inv (s0, s1, s2, s3, s4)).1) ∧ Below w.heap.size w w' := by
  have HP := Lib.hid hp
  have HN := Lib.hid hn
  have HW := Lib.hid hw
  have hb0 : Below w.heap.size w (w.alloc (.cells #[.int .i64 s0, .bool s1, .int .i64 s2, .int .i64 s3, .int .i64 s4] 39)) := (Below.refl _ _).alloc (Nat.le_refl _) _
  have HB0 := Lib.hid hb0
  have HR0 := Lib.hid (hr.below hb0)
  have HS0 : Hid (Row (w.alloc (.cells #[.int .i64 s0, .bool s1, .int .i64 s2, .int .i64 s3, .int .i64 s4] 39)) (some ⟨w.heap.size, 0, none⟩) [.int .i64 s0, .bool s1, .int .i64 s2, .int .i64 s3, .int .i64 s4]) := Lib.hid (row_new w [.int .i64 s0, .bool s1, .int .i64 s2, .int .i64 s3, .int .i64 s4] _)
  clear hn hp hr hw hb0
  by_cases hc : chk16 p ax (s0, s1, s2, s3, s4) = 0
  case neg =>
    have HF : Hid (tabS p ax inv (s0, s1, s2, s3, s4) = ([], chk16 p ax (s0, s1, s2, s3, s4))) := Lib.hid (by rw [tabS, if_neg hc])
    have t0 : (chk16 p ax (s0, s1, s2, s3, s4) != 0) = true := by simpa using hc
    rw [HF.out]
    clear hc
    go_enter Tryd.func43, Tryd.ntmps43
    go_wp2_with fail
    generalize (w.alloc (.cells #[.int .i64 s0, .bool s1, .int .i64 s2, .int .i64 s3, .int .i64 s4] 39)) = V0 at *
    refine (r16chk_calls p _ _ _ ax s0 s1 s2 s3 s4 V0 HN.out HP.out HR0.out hl HW.out).mono ?_
    rintro e w2 ⟨rfl, hb⟩
    have HB2 := Lib.hid (blT HB0.out hb)
    clear hb
    go_wp2
    go_ret2
    exact ⟨none, 0, rfl, Own.nil _ _ _ _, HB2.out⟩
  have HC := Lib.hid hc
  obtain ⟨k, N, neg, hK⟩ := chk16_ok hc
  have hsk := hK.axis
  dsimp only at hsk
  subst hsk
  have HF : Hid (tabS p ax inv ((k : Int), s1, s2, s3, s4) = (tabL p N neg inv ((k : Int), s1, s2, s3, s4), 0)) := Lib.hid (by
    rw [tabS, if_pos hc]
    dsimp only
    rw [Int.toNat_natCast, hK.get, hK.dim, Int.toNat_natCast])
  have h6 := hK.c6
  have hN1 := h6.n1
  have hN4 := h6.n2
  have hka := hK.lt
  have hkn : k < n := by have := HN.out; omega
  have hge : ax[k] = ((N : Int), neg) := by
    have h1 := hK.get
    rw [List.getD_eq_getElem?_getD, List.getElem?_eq_getElem hka] at h1
    exact h1
  obtain ⟨xa, rfl⟩ := HR0.out.some_of (by intro h0; have h1 := axR_length ax; rw [h0] at h1; simp at h1; omega)
  have HAC : Hid (∀ ws, Row ws (some xa) (axR ax) → ws.cell? (xa.add (k * 2)) = some (.int .i64 (N : Int)) ∧ ws.cell? ⟨(xa.add (k * 2)).block, (xa.add (k * 2)).off + 1, none⟩ = some (.bool neg)) := Lib.hid fun ws h => by
    have h1 := ax_cells h hka
    rw [hge] at h1
    exact h1
  have g3 : decide (n ≤ k) = false := by simp; omega
  have hkind := hK.kind
  have hsm := hK.c6.smooth
  clear hc hK hge hka
  rcases hkind with ⟨ht, hz⟩ | ⟨ht, hz⟩
  · (try dsimp only at ht hz)
    subst ht
    simp only [Prod.mk.injEq] at hz
    obtain ⟨rfl, rfl, rfl⟩ := hz
    go_enter Tryd.func43, Tryd.ntmps43
    go_wp2_with fail
    generalize (w.alloc (.cells #[.int .i64 (k : Int), .bool true, .int .i64 0, .int .i64 0, .int .i64 0] 39)) = V0 at *
    refine (r16chk_calls p _ _ _ ax (k : Int) true 0 0 0 V0 HN.out HP.out HR0.out hl HW.out).mono ?_
    rw [HC.out]
    rintro e w1 ⟨rfl, hb⟩
    have HB1 := Lib.hid (blT HB0.out hb)
    have HS1 := Lib.hid (HS0.out.below hb)
    obtain ⟨c0, c1⟩ := HAC.out _ (HR0.out.below hb)
    clear hb
    have b0 : w1.cell? ⟨w.heap.size, 0, none⟩ = some (.int .i64 (k : Int)) := HS1.out.cell (i := 0) rfl
    have b1 : w1.cell? ⟨w.heap.size, 1, none⟩ = some (.bool true) := HS1.out.cell (i := 1) rfl
    have HAX : Hid (Row (w1.alloc (.cells #[.int .i64 (N : Int), .bool neg] 32)) (some ⟨w1.heap.size, 0, none⟩) [.int .i64 (N : Int), .bool neg]) := Lib.hid (row_new w1 [.int .i64 (N : Int), .bool neg] _)
    have HBV1 : Hid (Below w.heap.size w (w1.alloc (.cells #[.int .i64 (N : Int), .bool neg] 32))) := Lib.hid (HB1.out.alloc HB1.out.size _)
    go_wp2
    clear b0 b1 c0 c1 g3
    generalize (w1.alloc (.cells #[.int .i64 (N : Int), .bool neg] 32)) = V1 at *
    generalize w1.heap.size = ab at *
    have HSW : Hid (w.heap.size ≤ V1.heap.size) := Lib.hid HBV1.out.size
    cases neg
    · cases inv
      · skip
        go_loopw [11, 38] (fun o q wr => ∃ (j : Nat) (Z : Option Addr) (z : Nat), j ≤ N ∧ q = .int .i64 j ∧ o = .slice Z j z ∧ Hid (Own wr V1.heap.size 22 1 Z j z (nums .u64 ((List.range j).map (twF p N false false)))) ∧ Hid (Below V1.heap.size V1 wr)) (fun _ q _ => N - (intOf q).toNat)
        case atStart => exact ⟨0, none, 0, Nat.zero_le _, rfl, rfl, Lib.hid (Own.nil _ _ _ _), Lib.hid (Below.refl _ _)⟩
        case round =>
          obtain ⟨j, Z, z, hj, rfl, rfl, HO, HBW⟩ := hrel
          have HAX2 := Lib.hid (HAX.out.below HBW.out)
          by_cases hlt : j < N
          · have x0 : wr.cell? ⟨ab, 0, none⟩ = some (.int .i64 (N : Int)) := HAX2.out.cell (i := 0) rfl
            have x1 : wr.cell? ⟨ab, 1, none⟩ = some (.bool false) := HAX2.out.cell (i := 1) rfl
            have HNX : Hid ((List.range (j + 1)).map (twF p N false false) = (List.range j).map (twF p N false false) ++ [twF p N false false j]) := Lib.hid (by rw [List.range_succ, List.map_append, List.map_singleton])
            have hcj : IntKind.u64.wrap (j : Int) = (j : Int) := by rw [IntKind.wrap_u64]; omega
            have hcN : IntKind.u64.wrap (N : Int) = (N : Int) := by rw [IntKind.wrap_u64]; omega
            have h2N : IntKind.i64.wrap (2 * (N : Int)) = 2 * (N : Int) := wrapI (by omega) (by omega)
            have HWJ := Lib.hid (refW_is h6 j)
            have HWI := Lib.hid (refW_inv h6 j)
            obtain ⟨w7, hw7⟩ : ∃ w7, w7 = wr := ⟨_, rfl⟩
            rw [← hw7] at HO HBW HAX2 x0 x1
            rw [← hw7]
            clear hw7
            have HO6 := HO
            have HB6 := HBW
            have HA6 := HAX2
            have hw1 : refW p N false j = 1 := rfl
            rw [hw1] at HWJ HWI
            obtain ⟨w10, hw10⟩ : ∃ w10, w10 = w7 := ⟨_, rfl⟩
            rw [← hw10] at HO6 HB6 HA6 x0 x1
            rw [← hw10]
            clear hw10
            have HO9 := HO6
            have HB9 := HB6
            have HA9 := HA6
            have HSZ := Lib.hid HB9.out.size
            go_wp2_with (at_builtin; refine append_row _ Tryd.underlying41 info_u64 rfl _ _ rfl V1.heap.size j z 1 1 Z ⟨w10.heap.size, 0, none⟩ ((List.range j).map (twF p N false false)) [1] rfl rfl (HO9.out.grown ((Below.refl _ _).alloc (Nat.le_refl _) _)) (row_new w10 [.int .u64 1] 22) rfl (by decide) (Nat.le_trans HSZ.out (by simp)) (by omega) (by omega) ?_; intro g cap2 w11 hown hbel hgrow hlt5)
            have HO11 : Hid (Own w11 V1.heap.size 22 1 (some ⟨g, 0, none⟩) (j + 1) cap2 (nums .u64 ((List.range (j + 1)).map (twF p N false false)))) := Lib.hid (by rw [HNX.out, ← HWJ.out]; exact hown)
            have HB11 : Hid (Below V1.heap.size V1 w11) := Lib.hid ((HB9.out.alloc HSZ.out _).trans (hbel.mono (Nat.le_refl _)))
            clear hown hbel hgrow hlt5
            go_roundw
            case rel => exact ⟨j + 1, some ⟨g, 0, none⟩, cap2, by omega, by go_num, rfl, HO11, HB11⟩
            case measure => simp [intOf]; omega
          · have hje : j = N := by omega
            subst hje
            have HRO := Lib.hid (HO.out.mono (show w.heap.size ≤ V1.heap.size from HSW.out))
            have HBE := Lib.hid (blT HBV1.out HBW.out)
            have x0 : wr.cell? ⟨ab, 0, none⟩ = some (.int .i64 (j : Int)) := HAX2.out.cell (i := 0) rfl
            go_wp2
            go_ret2
            rw [HF.out, show (((tabL p j false false ((k : Int), true, 0, 0, 0), (0 : Int)).1).length) = j from by rw [tabL_twist]; simp]
            exact ⟨_, _, rfl, by rw [tabL_twist]; exact HRO.out, HBE.out⟩
      · skip
        go_loopw [11, 38] (fun o q wr => ∃ (j : Nat) (Z : Option Addr) (z : Nat), j ≤ N ∧ q = .int .i64 j ∧ o = .slice Z j z ∧ Hid (Own wr V1.heap.size 22 1 Z j z (nums .u64 ((List.range j).map (twF p N false true)))) ∧ Hid (Below V1.heap.size V1 wr)) (fun _ q _ => N - (intOf q).toNat)
        case atStart => exact ⟨0, none, 0, Nat.zero_le _, rfl, rfl, Lib.hid (Own.nil _ _ _ _), Lib.hid (Below.refl _ _)⟩
        case round =>
          obtain ⟨j, Z, z, hj, rfl, rfl, HO, HBW⟩ := hrel
          have HAX2 := Lib.hid (HAX.out.below HBW.out)
          by_cases hlt : j < N
          · have x0 : wr.cell? ⟨ab, 0, none⟩ = some (.int .i64 (N : Int)) := HAX2.out.cell (i := 0) rfl
            have x1 : wr.cell? ⟨ab, 1, none⟩ = some (.bool false) := HAX2.out.cell (i := 1) rfl
            have HNX : Hid ((List.range (j + 1)).map (twF p N false true) = (List.range j).map (twF p N false true) ++ [twF p N false true j]) := Lib.hid (by rw [List.range_succ, List.map_append, List.map_singleton])
            have hcj : IntKind.u64.wrap (j : Int) = (j : Int) := by rw [IntKind.wrap_u64]; omega
            have hcN : IntKind.u64.wrap (N : Int) = (N : Int) := by rw [IntKind.wrap_u64]; omega
            have h2N : IntKind.i64.wrap (2 * (N : Int)) = 2 * (N : Int) := wrapI (by omega) (by omega)
            have HWJ := Lib.hid (refW_is h6 j)
            have HWI := Lib.hid (refW_inv h6 j)
            obtain ⟨w7, hw7⟩ : ∃ w7, w7 = wr := ⟨_, rfl⟩
            rw [← hw7] at HO HBW HAX2 x0 x1
            rw [← hw7]
            clear hw7
            have HO6 := HO
            have HB6 := HBW
            have HA6 := HAX2
            have hw1 : refW p N false j = 1 := rfl
            rw [hw1] at HWJ HWI
            go_wp2_with fail
            refine (r01_mul p 1 (N : Int) w7 HP.out ⟨by omega, by omega⟩ ⟨by omega, by omega⟩).mono ?_
            rintro e w8 ⟨rfl, rfl⟩
            go_wp2_with fail
            refine (r02_inv p (mulS p 1 (N : Int)) w8 HP.out (u64_mulS _ _ _)).mono ?_
            rw [HWI.out]
            rintro e w9 ⟨rfl, ⟨q9, rfl⟩⟩
            have HO9 := Lib.hid (HO6.out.drewN q9)
            have HB9 : Hid (Below V1.heap.size V1 (w8.drewN q9)) := Lib.hid (below_drewN HB6.out q9)
            have HA9 : Hid (Row (w8.drewN q9) (some ⟨ab, 0, none⟩) [.int .i64 (N : Int), .bool false]) := Lib.hid (HA6.out.drewN q9)
            clear x0
            generalize w8.drewN q9 = w10 at *
            dsimp only
            have HSZ := Lib.hid HB9.out.size
            go_wp2_with (at_builtin; refine append_row _ Tryd.underlying41 info_u64 rfl _ _ rfl V1.heap.size j z 1 1 Z ⟨w10.heap.size, 0, none⟩ ((List.range j).map (twF p N false true)) [(twF p N false true j)] rfl rfl (HO9.out.grown ((Below.refl _ _).alloc (Nat.le_refl _) _)) (row_new w10 [.int .u64 (twF p N false true j)] 22) rfl (by decide) (Nat.le_trans HSZ.out (by simp)) (by omega) (by omega) ?_; intro g cap2 w11 hown hbel hgrow hlt5)
            have HO11 : Hid (Own w11 V1.heap.size 22 1 (some ⟨g, 0, none⟩) (j + 1) cap2 (nums .u64 ((List.range (j + 1)).map (twF p N false true)))) := Lib.hid (by rw [HNX.out]; exact hown)
            have HB11 : Hid (Below V1.heap.size V1 w11) := Lib.hid ((HB9.out.alloc HSZ.out _).trans (hbel.mono (Nat.le_refl _)))
            clear hown hbel hgrow hlt5
            go_roundw
            case rel => exact ⟨j + 1, some ⟨g, 0, none⟩, cap2, by omega, by go_num, rfl, HO11, HB11⟩
            case measure => simp [intOf]; omega
          · have hje : j = N := by omega
            subst hje
            have HRO := Lib.hid (HO.out.mono (show w.heap.size ≤ V1.heap.size from HSW.out))
            have HBE := Lib.hid (blT HBV1.out HBW.out)
            have x0 : wr.cell? ⟨ab, 0, none⟩ = some (.int .i64 (j : Int)) := HAX2.out.cell (i := 0) rfl
            go_wp2
            go_ret2
            rw [HF.out, show (((tabL p j false true ((k : Int), true, 0, 0, 0), (0 : Int)).1).length) = j from by rw [tabL_twist]; simp]
            exact ⟨_, _, rfl, by rw [tabL_twist]; exact HRO.out, HBE.out⟩
    · cases inv
      · skip
        go_loopw [11, 38] (fun o q wr => ∃ (j : Nat) (Z : Option Addr) (z : Nat), j ≤ N ∧ q = .int .i64 j ∧ o = .slice Z j z ∧ Hid (Own wr V1.heap.size 22 1 Z j z (nums .u64 ((List.range j).map (twF p N true false)))) ∧ Hid (Below V1.heap.size V1 wr)) (fun _ q _ => N - (intOf q).toNat)
        case atStart => exact ⟨0, none, 0, Nat.zero_le _, rfl, rfl, Lib.hid (Own.nil _ _ _ _), Lib.hid (Below.refl _ _)⟩
        case round =>
          obtain ⟨j, Z, z, hj, rfl, rfl, HO, HBW⟩ := hrel
          have HAX2 := Lib.hid (HAX.out.below HBW.out)
          by_cases hlt : j < N
          · have x0 : wr.cell? ⟨ab, 0, none⟩ = some (.int .i64 (N : Int)) := HAX2.out.cell (i := 0) rfl
            have x1 : wr.cell? ⟨ab, 1, none⟩ = some (.bool true) := HAX2.out.cell (i := 1) rfl
            have HNX : Hid ((List.range (j + 1)).map (twF p N true false) = (List.range j).map (twF p N true false) ++ [twF p N true false j]) := Lib.hid (by rw [List.range_succ, List.map_append, List.map_singleton])
            have hcj : IntKind.u64.wrap (j : Int) = (j : Int) := by rw [IntKind.wrap_u64]; omega
            have hcN : IntKind.u64.wrap (N : Int) = (N : Int) := by rw [IntKind.wrap_u64]; omega
            have h2N : IntKind.i64.wrap (2 * (N : Int)) = 2 * (N : Int) := wrapI (by omega) (by omega)
            have HWJ := Lib.hid (refW_is h6 j)
            have HWI := Lib.hid (refW_inv h6 j)
            go_wp2_with fail
            refine (r03_root p (2 * (N : Int)) wr HP.out).mono ?_
            rintro e w5 ⟨rfl, hb5⟩
            have HO5 := Lib.hid (HO.out.grown hb5)
            have HB5 : Hid (Below V1.heap.size V1 w5) := Lib.hid (blT HBW.out hb5)
            have HA5 := Lib.hid (HAX2.out.below hb5)
            clear hb5 x0 x1
            have x0 : w5.cell? ⟨ab, 0, none⟩ = some (.int .i64 (N : Int)) := HA5.out.cell (i := 0) rfl
            dsimp only
            go_wp2_with fail
            refine (r02_pow p (rootS p (2 * (N : Int))).1 HP.out (u64_rootS _ _) j w5 (by omega)).mono ?_
            rw [show powS p (rootS p (2 * (N : Int))).1 j = refW p N true j from rfl]
            rintro e w6 ⟨rfl, ⟨q6, rfl⟩⟩
            have HO6 := Lib.hid (HO5.out.drewN q6)
            have HB6 : Hid (Below V1.heap.size V1 (w5.drewN q6)) := Lib.hid (below_drewN HB5.out q6)
            have HA6 : Hid (Row (w5.drewN q6) (some ⟨ab, 0, none⟩) [.int .i64 (N : Int), .bool true]) := Lib.hid (HA5.out.drewN q6)
            clear x0
            generalize w5.drewN q6 = w7 at *
            have x0 : w7.cell? ⟨ab, 0, none⟩ = some (.int .i64 (N : Int)) := HA6.out.cell (i := 0) rfl
            obtain ⟨w10, hw10⟩ : ∃ w10, w10 = w7 := ⟨_, rfl⟩
            rw [← hw10] at HO6 HB6 HA6 x0
            rw [← hw10]
            clear hw10
            have HO9 := HO6
            have HB9 := HB6
            have HA9 := HA6
            have HSZ := Lib.hid HB9.out.size
            go_wp2_with (at_builtin; refine append_row _ Tryd.underlying41 info_u64 rfl _ _ rfl V1.heap.size j z 1 1 Z ⟨w10.heap.size, 0, none⟩ ((List.range j).map (twF p N true false)) [(refW p N true j)] rfl rfl (HO9.out.grown ((Below.refl _ _).alloc (Nat.le_refl _) _)) (row_new w10 [.int .u64 (refW p N true j)] 22) rfl (by decide) (Nat.le_trans HSZ.out (by simp)) (by omega) (by omega) ?_; intro g cap2 w11 hown hbel hgrow hlt5)
            have HO11 : Hid (Own w11 V1.heap.size 22 1 (some ⟨g, 0, none⟩) (j + 1) cap2 (nums .u64 ((List.range (j + 1)).map (twF p N true false)))) := Lib.hid (by rw [HNX.out, ← HWJ.out]; exact hown)
            have HB11 : Hid (Below V1.heap.size V1 w11) := Lib.hid ((HB9.out.alloc HSZ.out _).trans (hbel.mono (Nat.le_refl _)))
            clear hown hbel hgrow hlt5
            go_roundw
            case rel => exact ⟨j + 1, some ⟨g, 0, none⟩, cap2, by omega, by go_num, rfl, HO11, HB11⟩
            case measure => simp [intOf]; omega
          · have hje : j = N := by omega
            subst hje
            have HRO := Lib.hid (HO.out.mono (show w.heap.size ≤ V1.heap.size from HSW.out))
            have HBE := Lib.hid (blT HBV1.out HBW.out)
            have x0 : wr.cell? ⟨ab, 0, none⟩ = some (.int .i64 (j : Int)) := HAX2.out.cell (i := 0) rfl
            go_wp2
            go_ret2
            rw [HF.out, show (((tabL p j true false ((k : Int), true, 0, 0, 0), (0 : Int)).1).length) = j from by rw [tabL_twist]; simp]
            exact ⟨_, _, rfl, by rw [tabL_twist]; exact HRO.out, HBE.out⟩
      · skip
        go_loopw [11, 38] (fun o q wr => ∃ (j : Nat) (Z : Option Addr) (z : Nat), j ≤ N ∧ q = .int .i64 j ∧ o = .slice Z j z ∧ Hid (Own wr V1.heap.size 22 1 Z j z (nums .u64 ((List.range j).map (twF p N true true)))) ∧ Hid (Below V1.heap.size V1 wr)) (fun _ q _ => N - (intOf q).toNat)
        case atStart => exact ⟨0, none, 0, Nat.zero_le _, rfl, rfl, Lib.hid (Own.nil _ _ _ _), Lib.hid (Below.refl _ _)⟩
        case round =>
          obtain ⟨j, Z, z, hj, rfl, rfl, HO, HBW⟩ := hrel
          have HAX2 := Lib.hid (HAX.out.below HBW.out)
          by_cases hlt : j < N
          · have x0 : wr.cell? ⟨ab, 0, none⟩ = some (.int .i64 (N : Int)) := HAX2.out.cell (i := 0) rfl
            have x1 : wr.cell? ⟨ab, 1, none⟩ = some (.bool true) := HAX2.out.cell (i := 1) rfl
            have HNX : Hid ((List.range (j + 1)).map (twF p N true true) = (List.range j).map (twF p N true true) ++ [twF p N true true j]) := Lib.hid (by rw [List.range_succ, List.map_append, List.map_singleton])
            have hcj : IntKind.u64.wrap (j : Int) = (j : Int) := by rw [IntKind.wrap_u64]; omega
            have hcN : IntKind.u64.wrap (N : Int) = (N : Int) := by rw [IntKind.wrap_u64]; omega
            have h2N : IntKind.i64.wrap (2 * (N : Int)) = 2 * (N : Int) := wrapI (by omega) (by omega)
            have HWJ := Lib.hid (refW_is h6 j)
            have HWI := Lib.hid (refW_inv h6 j)
            go_wp2_with fail
            refine (r03_root p (2 * (N : Int)) wr HP.out).mono ?_
            rintro e w5 ⟨rfl, hb5⟩
            have HO5 := Lib.hid (HO.out.grown hb5)
            have HB5 : Hid (Below V1.heap.size V1 w5) := Lib.hid (blT HBW.out hb5)
            have HA5 := Lib.hid (HAX2.out.below hb5)
            clear hb5 x0 x1
            have x0 : w5.cell? ⟨ab, 0, none⟩ = some (.int .i64 (N : Int)) := HA5.out.cell (i := 0) rfl
            dsimp only
            go_wp2_with fail
            refine (r02_pow p (rootS p (2 * (N : Int))).1 HP.out (u64_rootS _ _) j w5 (by omega)).mono ?_
            rw [show powS p (rootS p (2 * (N : Int))).1 j = refW p N true j from rfl]
            rintro e w6 ⟨rfl, ⟨q6, rfl⟩⟩
            have HO6 := Lib.hid (HO5.out.drewN q6)
            have HB6 : Hid (Below V1.heap.size V1 (w5.drewN q6)) := Lib.hid (below_drewN HB5.out q6)
            have HA6 : Hid (Row (w5.drewN q6) (some ⟨ab, 0, none⟩) [.int .i64 (N : Int), .bool true]) := Lib.hid (HA5.out.drewN q6)
            clear x0
            generalize w5.drewN q6 = w7 at *
            have x0 : w7.cell? ⟨ab, 0, none⟩ = some (.int .i64 (N : Int)) := HA6.out.cell (i := 0) rfl
            go_wp2_with fail
            refine (r01_mul p (refW p N true j) (N : Int) w7 HP.out (by show U64 (powS p _ j); exact u64_powS _ _ _) ⟨by omega, by omega⟩).mono ?_
            rintro e w8 ⟨rfl, rfl⟩
            go_wp2_with fail
            refine (r02_inv p (mulS p (refW p N true j) (N : Int)) w8 HP.out (u64_mulS _ _ _)).mono ?_
            rw [HWI.out]
            rintro e w9 ⟨rfl, ⟨q9, rfl⟩⟩
            have HO9 := Lib.hid (HO6.out.drewN q9)
            have HB9 : Hid (Below V1.heap.size V1 (w8.drewN q9)) := Lib.hid (below_drewN HB6.out q9)
            have HA9 : Hid (Row (w8.drewN q9) (some ⟨ab, 0, none⟩) [.int .i64 (N : Int), .bool true]) := Lib.hid (HA6.out.drewN q9)
            clear x0
            generalize w8.drewN q9 = w10 at *
            dsimp only
            have HSZ := Lib.hid HB9.out.size
            go_wp2_with (at_builtin; refine append_row _ Tryd.underlying41 info_u64 rfl _ _ rfl V1.heap.size j z 1 1 Z ⟨w10.heap.size, 0, none⟩ ((List.range j).map (twF p N true true)) [(twF p N true true j)] rfl rfl (HO9.out.grown ((Below.refl _ _).alloc (Nat.le_refl _) _)) (row_new w10 [.int .u64 (twF p N true true j)] 22) rfl (by decide) (Nat.le_trans HSZ.out (by simp)) (by omega) (by omega) ?_; intro g cap2 w11 hown hbel hgrow hlt5)
            have HO11 : Hid (Own w11 V1.heap.size 22 1 (some ⟨g, 0, none⟩) (j + 1) cap2 (nums .u64 ((List.range (j + 1)).map (twF p N true true)))) := Lib.hid (by rw [HNX.out]; exact hown)
            have HB11 : Hid (Below V1.heap.size V1 w11) := Lib.hid ((HB9.out.alloc HSZ.out _).trans (hbel.mono (Nat.le_refl _)))
            clear hown hbel hgrow hlt5
            go_roundw
            case rel => exact ⟨j + 1, some ⟨g, 0, none⟩, cap2, by omega, by go_num, rfl, HO11, HB11⟩
            case measure => simp [intOf]; omega
          · have hje : j = N := by omega
            subst hje
            have HRO := Lib.hid (HO.out.mono (show w.heap.size ≤ V1.heap.size from HSW.out))
            have HBE := Lib.hid (blT HBV1.out HBW.out)
            have x0 : wr.cell? ⟨ab, 0, none⟩ = some (.int .i64 (j : Int)) := HAX2.out.cell (i := 0) rfl
            go_wp2
            go_ret2
            rw [HF.out, show (((tabL p j true true ((k : Int), true, 0, 0, 0), (0 : Int)).1).length) = j from by rw [tabL_twist]; simp]
            exact ⟨_, _, rfl, by rw [tabL_twist]; exact HRO.out, HBE.out⟩
  · (try dsimp only at ht hz)
    subst ht
    obtain ⟨R, L, M, hs, hS⟩ := stg_mem hsm hz
    simp only [Prod.mk.injEq] at hs
    obtain ⟨rfl, rfl, rfl⟩ := hs
    have hR2 := hS.r2
    have hR5 := hS.r5
    have hMR : R * M ≤ 4096 := by have := hS.rm; omega
    have hM4 : M ≤ 4096 := by
      have h0 : 1 * M ≤ R * M := Nat.mul_le_mul_right _ (by omega)
      omega
    have hrm : IntKind.i64.wrap ((R : Int) * (M : Int)) = (R : Int) * (M : Int) := by rw [wrapM (by omega)]; push_cast; rfl
    go_enter Tryd.func43, Tryd.ntmps43
    go_wp2_with fail
    generalize (w.alloc (.cells #[.int .i64 (k : Int), .bool false, .int .i64 (R : Int), .int .i64 (L : Int), .int .i64 (M : Int)] 39)) = V0 at *
    refine (r16chk_calls p _ _ _ ax (k : Int) false R L M V0 HN.out HP.out HR0.out hl HW.out).mono ?_
    rw [HC.out]
    rintro e w1 ⟨rfl, hb⟩
    have HB1 := Lib.hid (blT HB0.out hb)
    have HS1 := Lib.hid (HS0.out.below hb)
    clear hb g3
    have b0 : w1.cell? ⟨w.heap.size, 0, none⟩ = some (.int .i64 (k : Int)) := HS1.out.cell (i := 0) rfl
    have b1 : w1.cell? ⟨w.heap.size, 1, none⟩ = some (.bool false) := HS1.out.cell (i := 1) rfl
    have b2 : w1.cell? ⟨w.heap.size, 2, none⟩ = some (.int .i64 (R : Int)) := HS1.out.cell (i := 2) rfl
    have b4 : w1.cell? ⟨w.heap.size, 4, none⟩ = some (.int .i64 (M : Int)) := HS1.out.cell (i := 4) rfl
    cases inv
    · skip
      go_wp2_with fail
      refine (r03_root p ((R : Int) * (M : Int)) w1 HP.out).mono ?_
      rintro e w2 ⟨rfl, hb2⟩
      have HB2 := Lib.hid (blT HB1.out hb2)
      have HS2 := Lib.hid (HS1.out.below hb2)
      clear hb2 b0 b1 b2 b4
      have b2 : w2.cell? ⟨w.heap.size, 2, none⟩ = some (.int .i64 (R : Int)) := HS2.out.cell (i := 2) rfl
      have b4 : w2.cell? ⟨w.heap.size, 4, none⟩ = some (.int .i64 (M : Int)) := HS2.out.cell (i := 4) rfl
      dsimp only
      go_wp2
      clear b2 b4 hrm
      go_loopw [11, 89] (fun o q wr => ∃ (a : Nat) (Z : Option Addr) (z : Nat), a ≤ M ∧ q = .int .i64 a ∧ o = .slice Z (a * R) z ∧ Hid (Own wr w2.heap.size 22 1 Z (a * R) z (nums .u64 ((List.range (a * R)).map fun i => tgF p R M false (i / R) (i % R)))) ∧ Hid (Below w2.heap.size w2 wr)) (fun _ q _ => M - (intOf q).toNat)
      case atStart => exact ⟨0, none, 0, Nat.zero_le _, rfl, by rw [Nat.zero_mul], Lib.hid (by rw [Nat.zero_mul]; exact Own.nil _ _ _ _), Lib.hid (Below.refl _ _)⟩
      case round =>
        obtain ⟨a, Z, z, ha, rfl, rfl, HO, HBW⟩ := hrel
        by_cases hlt : a < M
        · have HSW2 := Lib.hid (HS2.out.below HBW.out)
          have b2 : wr.cell? ⟨w.heap.size, 2, none⟩ = some (.int .i64 (R : Int)) := HSW2.out.cell (i := 2) rfl
          go_wp2
          clear b2
          go_hide hQ
          go_loopw [11, 95] (fun o q ws => ∃ (u : Nat) (Z : Option Addr) (z : Nat), u ≤ R ∧ q = .int .i64 u ∧ o = .slice Z (a * R + u) z ∧ Hid (Own ws w2.heap.size 22 1 Z (a * R + u) z (nums .u64 ((List.range (a * R + u)).map fun i => tgF p R M false (i / R) (i % R)))) ∧ Hid (Below w2.heap.size w2 ws)) (fun _ q _ => R - (intOf q).toNat)
          case atStart => exact ⟨0, Z, z, Nat.zero_le _, rfl, rfl, HO, HBW⟩
          case round =>
            obtain ⟨u, Z, z, hu, rfl, rfl, HO3, HB3⟩ := hrel
            by_cases hlu : u < R
            · have hau : a * u ≤ 100000 := Nat.le_trans (Nat.mul_le_mul (show a ≤ 4096 by omega) (show u ≤ 5 by omega)) (by decide)
              have haR : a * R ≤ 20480 := Nat.mul_le_mul (show a ≤ 4096 by omega) (show R ≤ 5 by omega)
              have o1 := wrapM (x := a) (y := u) hau
              have HNX := Lib.hid (tgL_row p R M false (a := a) hlu)
              have HWG := Lib.hid (refG_is p (R : Int) (M : Int) a u)
              have HWI := Lib.hid (refG_inv h6 hS a u)
              obtain ⟨v, hv⟩ : ∃ v, a * u = v := ⟨_, rfl⟩
              rw [hv] at o1 hau HWG HWI
              have o2 : IntKind.u64.wrap (v : Int) = (v : Int) := by rw [IntKind.wrap_u64]; omega
              obtain ⟨aR, haR2⟩ : ∃ v, a * R = v := ⟨_, rfl⟩
              rw [haR2] at HO3 HNX haR
              rw [haR2]
              clear hv
              go_wp2_with fail
              refine (r02_pow p (rootS p ((R : Int) * (M : Int))).1 HP.out (u64_rootS _ _) v wr (by omega)).mono ?_
              rintro e w6 ⟨rfl, ⟨q6, rfl⟩⟩
              have HO6 := Lib.hid (HO3.out.drewN q6)
              have HB6 : Hid (Below w2.heap.size w2 (wr.drewN q6)) := Lib.hid (below_drewN HB3.out q6)
              generalize wr.drewN q6 = w7 at *
              obtain ⟨w10, hw10⟩ : ∃ w10, w10 = w7 := ⟨_, rfl⟩
              rw [← hw10] at HO6 HB6
              rw [← hw10]
              clear hw10
              have HO9 := HO6
              have HB9 := HB6
              rw [HWG.out]
              have HSZ := Lib.hid HB9.out.size
              go_wp2_with (at_builtin; refine append_row _ Tryd.underlying41 info_u64 rfl _ _ rfl w2.heap.size (aR + u) z 1 1 Z ⟨w10.heap.size, 0, none⟩ ((List.range (aR + u)).map fun i => tgF p R M false (i / R) (i % R)) [(tgF p R M false a u)] rfl rfl (HO9.out.grown ((Below.refl _ _).alloc (Nat.le_refl _) _)) (row_new w10 [.int .u64 (tgF p R M false a u)] 22) rfl (by decide) (Nat.le_trans HSZ.out (by simp)) (by omega) (by omega) ?_; intro g cap2 w11 hown hbel hgrow hlt5)
              have HO11 : Hid (Own w11 w2.heap.size 22 1 (some ⟨g, 0, none⟩) (aR + (u + 1)) cap2 (nums .u64 ((List.range (aR + (u + 1))).map fun i => tgF p R M false (i / R) (i % R)))) := Lib.hid (by rw [HNX.out]; exact hown)
              have HB11 : Hid (Below w2.heap.size w2 w11) := Lib.hid ((HB9.out.alloc HSZ.out _).trans (hbel.mono (Nat.le_refl _)))
              have HAR := Lib.hid haR2
              clear hown hbel hgrow hlt5 o1 o2 haR2
              go_roundw
              case rel => exact ⟨u + 1, some ⟨g, 0, none⟩, cap2, by omega, by go_num, by first | rfl | (rw [HAR.out]; rfl), by first | exact HO11 | exact Lib.hid (by rw [HAR.out]; exact HO11.out), HB11⟩
              case measure => simp [intOf]; omega
            · have hue : u = R := by omega
              have HO4 : Hid (Own wr w2.heap.size 22 1 Z ((a + 1) * R) z (nums .u64 ((List.range ((a + 1) * R)).map fun i => tgF p R M false (i / R) (i % R)))) := Lib.hid (by have h1 := HO3.out; rw [hue, ← Nat.succ_mul] at h1; exact h1)
              have hve : a * R + u = (a + 1) * R := by rw [hue, ← Nat.succ_mul]
              rw [hve]
              clear hue hve
              go_wp2
              subst hQ
              go_wp2
              go_roundw
              case rel => exact ⟨a + 1, Z, z, by omega, by go_num, rfl, HO4, HB3⟩
              case measure => simp [intOf]; omega
        · have hae : a = M := by omega
          subst hae
          have HRO := Lib.hid (HO.out.mono (show w.heap.size ≤ w2.heap.size from HB2.out.size))
          have HBE := Lib.hid (blT HB2.out HBW.out)
          go_wp2
          go_ret2
          rw [HF.out, show (((tabL p N neg false ((k : Int), false, (R : Int), (L : Int), (a : Int)), (0 : Int)).1).length) = a * R from by rw [tabL_stage p N neg false _ hS, tabR_length]]
          refine ⟨_, _, rfl, ?_, HBE.out⟩
          have h1 := HRO.out
          unfold tabL
          dsimp only
          rw [if_neg (by decide), Int.toNat_natCast, Int.toNat_natCast]
          exact h1
    · skip
      go_wp2_with fail
      refine (r03_root p ((R : Int) * (M : Int)) w1 HP.out).mono ?_
      rintro e w2 ⟨rfl, hb2⟩
      have HB2 := Lib.hid (blT HB1.out hb2)
      have HS2 := Lib.hid (HS1.out.below hb2)
      clear hb2 b0 b1 b2 b4
      have b2 : w2.cell? ⟨w.heap.size, 2, none⟩ = some (.int .i64 (R : Int)) := HS2.out.cell (i := 2) rfl
      have b4 : w2.cell? ⟨w.heap.size, 4, none⟩ = some (.int .i64 (M : Int)) := HS2.out.cell (i := 4) rfl
      dsimp only
      go_wp2
      clear b2 b4 hrm
      go_loopw [11, 89] (fun o q wr => ∃ (a : Nat) (Z : Option Addr) (z : Nat), a ≤ M ∧ q = .int .i64 a ∧ o = .slice Z (a * R) z ∧ Hid (Own wr w2.heap.size 22 1 Z (a * R) z (nums .u64 ((List.range (a * R)).map fun i => tgF p R M true (i / R) (i % R)))) ∧ Hid (Below w2.heap.size w2 wr)) (fun _ q _ => M - (intOf q).toNat)
      case atStart => exact ⟨0, none, 0, Nat.zero_le _, rfl, by rw [Nat.zero_mul], Lib.hid (by rw [Nat.zero_mul]; exact Own.nil _ _ _ _), Lib.hid (Below.refl _ _)⟩
      case round =>
        obtain ⟨a, Z, z, ha, rfl, rfl, HO, HBW⟩ := hrel
        by_cases hlt : a < M
        · have HSW2 := Lib.hid (HS2.out.below HBW.out)
          have b2 : wr.cell? ⟨w.heap.size, 2, none⟩ = some (.int .i64 (R : Int)) := HSW2.out.cell (i := 2) rfl
          go_wp2
          clear b2
          go_hide hQ
          go_loopw [11, 95] (fun o q ws => ∃ (u : Nat) (Z : Option Addr) (z : Nat), u ≤ R ∧ q = .int .i64 u ∧ o = .slice Z (a * R + u) z ∧ Hid (Own ws w2.heap.size 22 1 Z (a * R + u) z (nums .u64 ((List.range (a * R + u)).map fun i => tgF p R M true (i / R) (i % R)))) ∧ Hid (Below w2.heap.size w2 ws)) (fun _ q _ => R - (intOf q).toNat)
          case atStart => exact ⟨0, Z, z, Nat.zero_le _, rfl, rfl, HO, HBW⟩
          case round =>
            obtain ⟨u, Z, z, hu, rfl, rfl, HO3, HB3⟩ := hrel
            by_cases hlu : u < R
            · have hau : a * u ≤ 100000 := Nat.le_trans (Nat.mul_le_mul (show a ≤ 4096 by omega) (show u ≤ 5 by omega)) (by decide)
              have haR : a * R ≤ 20480 := Nat.mul_le_mul (show a ≤ 4096 by omega) (show R ≤ 5 by omega)
              have o1 := wrapM (x := a) (y := u) hau
              have HNX := Lib.hid (tgL_row p R M true (a := a) hlu)
              have HWG := Lib.hid (refG_is p (R : Int) (M : Int) a u)
              have HWI := Lib.hid (refG_inv h6 hS a u)
              obtain ⟨v, hv⟩ : ∃ v, a * u = v := ⟨_, rfl⟩
              rw [hv] at o1 hau HWG HWI
              have o2 : IntKind.u64.wrap (v : Int) = (v : Int) := by rw [IntKind.wrap_u64]; omega
              obtain ⟨aR, haR2⟩ : ∃ v, a * R = v := ⟨_, rfl⟩
              rw [haR2] at HO3 HNX haR
              rw [haR2]
              clear hv
              go_wp2_with fail
              refine (r02_pow p (rootS p ((R : Int) * (M : Int))).1 HP.out (u64_rootS _ _) v wr (by omega)).mono ?_
              rintro e w6 ⟨rfl, ⟨q6, rfl⟩⟩
              have HO6 := Lib.hid (HO3.out.drewN q6)
              have HB6 : Hid (Below w2.heap.size w2 (wr.drewN q6)) := Lib.hid (below_drewN HB3.out q6)
              generalize wr.drewN q6 = w7 at *
              go_wp2_with fail
              refine (r02_inv p (powS p (rootS p ((R : Int) * (M : Int))).1 v) w7 HP.out (u64_powS _ _ _)).mono ?_
              rw [HWI.out]
              rintro e w9 ⟨rfl, ⟨q9, rfl⟩⟩
              have HO9 := Lib.hid (HO6.out.drewN q9)
              have HB9 : Hid (Below w2.heap.size w2 (w7.drewN q9)) := Lib.hid (below_drewN HB6.out q9)
              generalize w7.drewN q9 = w10 at *
              dsimp only
              have HSZ := Lib.hid HB9.out.size
              go_wp2_with (at_builtin; refine append_row _ Tryd.underlying41 info_u64 rfl _ _ rfl w2.heap.size (aR + u) z 1 1 Z ⟨w10.heap.size, 0, none⟩ ((List.range (aR + u)).map fun i => tgF p R M true (i / R) (i % R)) [(tgF p R M true a u)] rfl rfl (HO9.out.grown ((Below.refl _ _).alloc (Nat.le_refl _) _)) (row_new w10 [.int .u64 (tgF p R M true a u)] 22) rfl (by decide) (Nat.le_trans HSZ.out (by simp)) (by omega) (by omega) ?_; intro g cap2 w11 hown hbel hgrow hlt5)
              have HO11 : Hid (Own w11 w2.heap.size 22 1 (some ⟨g, 0, none⟩) (aR + (u + 1)) cap2 (nums .u64 ((List.range (aR + (u + 1))).map fun i => tgF p R M true (i / R) (i % R)))) := Lib.hid (by rw [HNX.out]; exact hown)
              have HB11 : Hid (Below w2.heap.size w2 w11) := Lib.hid ((HB9.out.alloc HSZ.out _).trans (hbel.mono (Nat.le_refl _)))
              have HAR := Lib.hid haR2
              clear hown hbel hgrow hlt5 o1 o2 haR2
              go_roundw
              case rel => exact ⟨u + 1, some ⟨g, 0, none⟩, cap2, by omega, by go_num, by first | rfl | (rw [HAR.out]; rfl), by first | exact HO11 | exact Lib.hid (by rw [HAR.out]; exact HO11.out), HB11⟩
              case measure => simp [intOf]; omega
            · have hue : u = R := by omega
              have HO4 : Hid (Own wr w2.heap.size 22 1 Z ((a + 1) * R) z (nums .u64 ((List.range ((a + 1) * R)).map fun i => tgF p R M true (i / R) (i % R)))) := Lib.hid (by have h1 := HO3.out; rw [hue, ← Nat.succ_mul] at h1; exact h1)
              have hve : a * R + u = (a + 1) * R := by rw [hue, ← Nat.succ_mul]
              rw [hve]
              clear hue hve
              go_wp2
              subst hQ
              go_wp2
              go_roundw
              case rel => exact ⟨a + 1, Z, z, by omega, by go_num, rfl, HO4, HB3⟩
              case measure => simp [intOf]; omega
        · have hae : a = M := by omega
          subst hae
          have HRO := Lib.hid (HO.out.mono (show w.heap.size ≤ w2.heap.size from HB2.out.size))
          have HBE := Lib.hid (blT HB2.out HBW.out)
          go_wp2
          go_ret2
          rw [HF.out, show (((tabL p N neg true ((k : Int), false, (R : Int), (L : Int), (a : Int)), (0 : Int)).1).length) = a * R from by rw [tabL_stage p N neg true _ hS, tabR_length]]
          refine ⟨_, _, rfl, ?_, HBE.out⟩
          have h1 := HRO.out
          unfold tabL
          dsimp only
          rw [if_neg (by decide), Int.toNat_natCast, Int.toNat_natCast]
          exact h1
end Go.Proofs.YtohcoidbncbijaaDoor.P
