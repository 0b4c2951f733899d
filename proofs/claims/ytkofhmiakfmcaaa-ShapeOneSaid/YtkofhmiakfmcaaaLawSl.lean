/- The law ShapeLines, walked. Conditions: words of their kinds; the slice reads as a list. -/
import Derived.Test.YtkofhmiakfmcaaaShapeL
import Derived.WalkMore
namespace Go.Proofs.Ytkofhmiakfmcaaa.P
open Go.RowKit
set_option linter.unusedVariables false
set_option linter.unusedSimpArgs false
theorem Row.far {w : World} {y p : Addr} {cs : List Value} (h : Row w (some y) cs) (hb : p.block ≠ y.block) (v : Value) : Row (w.setCell p v) (some y) cs := by
  right
  refine ⟨_, rfl, fun i u hi => ?_⟩
  rw [World.cell?_setCell_far w p (y.add i) v (by unfold Addr.add; split <;> exact hb)]
  exact h.cell hi
theorem Own.block_ge {w : World} {B : Nat} {E : TypeId} {s : Nat} {y : Addr} {n c : Nat} {cs : List Value} (h : Own w B E s (some y) n c cs) (hn : 0 < n) : B ≤ y.block := by
  obtain ⟨g, cap, hv, _, _⟩ := World.ownsRow.form h hn
  cases hv
  exact h.base.1
/-- What lines are, of axes that may be: how far apart, how long, how many ahead. -/
structure Lines (l : List Int) (N : Nat) (I : Int) (D n K : Nat) : Prop where
  I1 : 1 ≤ I
  I2 : I ≤ 4096
  D1 : 1 ≤ D
  line : ∀ k : Nat, k < K → lineS l N k = (lineL l N k, 0)
  lineK : lineS l N K = ([], 1)
  at' : ∀ k x : Nat, lineG l N k x = vOf I D k x
  len : ∀ k : Nat, lineL l N k = (List.range D).map (lineG l N k)
  coord : ∀ V : Nat, V < n → coordS l V = (coordL l V, 0) ∧ (coordL l V).getD N 0 = xOf I D V
  bound : ∀ k x : Nat, k < K → x < D → 0 ≤ vOf I D k x ∧ vOf I D k x < n
  start : metL I D n 0 0 = List.replicate n 0
  all : ∀ v, (h : v < n) → (metL I D n K 0)[v]'(by rw [metL_length]; exact h) = 1
  div : (n : Int) / (D : Int) = (K : Int)
theorem lines_of {l : List Int} (hd : Dims l) {N : Nat} (hN : N < l.length) : ∃ D n K : Nat, l[N] = (D : Int) ∧ prodL l = (n : Int) ∧ Lines l N (prodL (l.drop (N + 1))) D n K := by
  have hd1 := hd.pos.at hN
  have hI1 := (hd.pos.drop (N + 1)).prod
  have hI2 : prodL (l.drop (N + 1)) ≤ 4096 := by have := hd.pos.drop_le (N + 1); have := hd.all; omega
  have hO1 := (hd.pos.take N).prod
  have hP1 := hd.pos.prod
  have hprod : prodL l = prodL (l.take N) * l[N] * prodL (l.drop (N + 1)) := by
    rw [← prodL_take l N hN, ← prodL_append, List.take_append_drop]
  obtain ⟨D, hD⟩ := Int.eq_ofNat_of_zero_le (show 0 ≤ l[N] by omega)
  obtain ⟨n, hn⟩ := Int.eq_ofNat_of_zero_le (show 0 ≤ prodL l by omega)
  obtain ⟨K, hK⟩ := Int.eq_ofNat_of_zero_le (show 0 ≤ prodL (l.take N) * prodL (l.drop (N + 1)) from Int.mul_nonneg (by omega) (by omega))
  have hnn : (n : Int) = prodL (l.take N) * (D : Int) * prodL (l.drop (N + 1)) := by rw [← hn, hprod, hD]
  have hdiv : (n : Int) / (D : Int) = (K : Int) := by
    rw [hnn, Int.mul_right_comm, hK, Int.mul_ediv_cancel _ (by omega)]
  have hD1 : (1 : Int) ≤ (D : Int) := by omega
  have hGD : l.getD N 1 = (D : Int) := by rw [getD_at hN, hD]
  have hin : 0 ≤ (N : Int) ∧ (N : Int) < l.length := ⟨by omega, by omega⟩
  have hbound : ∀ k x : Nat, k < K → x < D → 0 ≤ vOf (prodL (l.drop (N + 1))) D k x ∧ vOf (prodL (l.drop (N + 1))) D k x < n := fun k x hk hx => by
    rw [hnn]; exact vOf_bound hI1 hD1 (by omega) (by rw [hK]; omega) (by omega) (by omega)
  refine ⟨D, n, K, hD, hn, ⟨hI1, hI2, by omega, ?_, ?_, ?_, ?_, ?_, hbound, metL_start hI1 hD1 hnn, fun v h => metL_all hI1 hD1 hnn hK.symm h, hdiv⟩⟩
  · intro k hk
    rw [lineS, if_pos hd, if_pos hin, Int.toNat_natCast, hGD, hn, hdiv, if_pos ⟨by omega, by omega⟩]
  · rw [lineS, if_pos hd, if_pos hin, Int.toNat_natCast, hGD, hn, hdiv, if_neg (by omega)]
  · intro k x
    rw [lineG, lineF, hGD, vOf]
  · intro k
    rw [lineL, hGD, Int.toNat_natCast]
  · intro V hV
    refine ⟨by rw [coordS, if_pos hd, if_pos ⟨by omega, by omega⟩], ?_⟩
    rw [coordL_at l V hN, coordF_at l V N hN, hD]; rfl
set_option maxRecDepth 100000 in
theorem shapeLines_walk (A : Option Addr) (ca : Nat) (l : List Int) (a : Int) (w : World)
    (hr : Row w A (nums .i64 l)) (hy : l.length * 8 ≤ 140737488351232) (hcap : l.length ≤ ca) (hw : ∀ x ∈ l, (Lit.int .i64 x).wf = true) (ha : i64 a) :
    Calls Try.prog 3 #[.slice A l.length ca, .int .i64 a] w fun e w' => e = .returned (.bool true) ∧ Below w.heap.size w w' := by
  have HR := Lib.hid hr
  have HW := Lib.hid (i64_all hw)
  have HA := Lib.hid ha
  have HL : Hid (l.length ≤ 9223372036854775807) := Lib.hid (by omega)
  clear hr hw ha
  go_enter Try.func3, Try.ntmps3
  go_wp2_with fail
  refine (live05_calls _).mono ?_
  rintro e w1 ⟨rfl, hb1⟩
  have HB1 := Lib.hid hb1
  have HR1 := Lib.hid (HR.out.below hb1)
  clear hb1
  go_wp2_with fail
  refine (all_calls _ _ _ _ HR1.out HL.out HW.out).mono ?_
  by_cases g1 : 10 < l.length
  · have f0 : decide (10 < (l.length : Int)) = true := by simp; omega
    rintro e w2 ⟨rfl, rfl⟩
    clear g1
    go_wp2
    go_ret
    exact ⟨rfl, HB1.out⟩
  have f0 : decide (10 < (l.length : Int)) = false := by simp; omega
  by_cases hd : Dims l
  case neg =>
    rw [allS_no hd]
    rintro e w2 ⟨rfl, rfl⟩
    go_wp2
    go_ret
    exact ⟨rfl, HB1.out⟩
  rw [allS_yes hd]
  rintro e w2 ⟨rfl, rfl⟩
  by_cases g2 : 300 < prodL l
  · have f1 : decide (300 < prodL l) = true := by simpa using g2
    clear hd g2
    go_wp2
    go_ret
    exact ⟨rfl, HB1.out⟩
  have f1 : decide (300 < prodL l) = false := by simpa using g2
  go_wp2_with fail
  refine (inner_calls _ _ _ _ _ HR1.out HL.out hcap HW.out HA.out).mono ?_
  by_cases hin : 0 ≤ a ∧ a < l.length
  case neg =>
    rw [show innerS l a = (0, 1) from by rw [innerS, if_pos hd, if_neg hin]]
    rintro e w2 ⟨rfl, rfl⟩
    by_cases h0 : a < 0
    · have f2 : decide (a < 0) = true := by simpa using h0
      clear hd hin g2
      go_wp2
      go_ret
      exact ⟨rfl, HB1.out⟩
    · have f2 : decide (a < 0) = false := by simpa using h0
      have f3 : decide ((l.length : Int) ≤ a) = true := by simp; omega
      clear hd hin g2
      go_wp2
      go_ret
      exact ⟨rfl, HB1.out⟩
  obtain ⟨a0, a1⟩ := hin
  obtain ⟨N, rfl⟩ := Int.eq_ofNat_of_zero_le a0
  have hN : N < l.length := by omega
  rw [show innerS l (N : Int) = (prodL (l.drop (N + 1)), 0) from by rw [innerS, if_pos hd, if_pos ⟨a0, a1⟩, Int.toNat_natCast]]
  rintro e w2 ⟨rfl, rfl⟩
  obtain ⟨x, rfl⟩ := HR.out.some_of (by intro h0; have := nums_length .i64 l; rw [h0] at this; simp at this; omega)
  have hcell : w2.cell? (x.add N) = some (.int .i64 l[N]) := HR1.out.num hN
  obtain ⟨D, n, K, hD, hn, hLN⟩ := lines_of hd hN
  rw [hD] at hcell
  have hdn := hd.pos.at_le hN
  rw [hD, hn] at hdn
  rw [hn] at g2 f1 ⊢
  have HLN := Lib.hid hLN
  have hI1 := hLN.I1
  have hI2 := hLN.I2
  have hD1 := hLN.D1
  have hDN : D ≤ n := by omega
  have hn300 : n ≤ 300 := by omega
  generalize prodL (l.drop (N + 1)) = I at *
  have f2 : decide ((N : Int) < 0) = false := by simp
  have f3 : decide ((l.length : Int) ≤ (N : Int)) = false := by simp; omega
  have f4 : decide (l.length ≤ N) = false := by simp; omega
  have hmk := make_int n (by omega)
  have hdiv : (n : Int) / (D : Int) = (K : Int) := hLN.div
  have hKn : K ≤ n := by
    have h1 : (n : Int) / (D : Int) ≤ n := Int.ediv_le_self _ (by omega)
    omega
  have hD0 : ¬ (D : Int) = 0 := by omega
  clear hd hn hD hLN g1 g2 a0 a1 hdn
  go_wp2_with fail
  have hown := own_made w2 w.heap.size 3 (.int .i64 0) n HB1.out.size (by omega)
  have hbel : Below w.heap.size w (w2.alloc (.cells (madeCells #[.int .i64 0] n) 3)) := HB1.out.alloc HB1.out.size _
  rw [nums_replicate, ← HLN.out.start] at hown
  have hB0 : w.heap.size ≤ w2.heap.size := HB1.out.size
  generalize hB : w2.heap.size = B at *
  generalize (w2.alloc (.cells (madeCells #[.int .i64 0] n) 3)) = W at *
  have HO := Lib.hid hown
  have HBW := Lib.hid hbel
  clear hown hbel hmk
  have HRW : Hid (Row W (some x) (nums .i64 l)) := Lib.hid (HR.out.below HBW.out)
  have HX : Hid ((x.add N).block < w.heap.size) := Lib.hid (World.block_lt_of_cell? w _ (HR.out.num hN))
  have HCW : Hid (∀ W', Below w.heap.size w W' → W'.cell? (x.add N) = some (.int .i64 (D : Int))) := Lib.hid fun W' hW' => by
    rw [hW'.cell HX.out, ← HB1.out.cell HX.out]; exact hcell
  have HRA : Hid (∀ W', Below w.heap.size w W' → Row W' (some x) (nums .i64 l)) := Lib.hid fun W' hW' => HR.out.below hW'
  clear hcell HRW HR1 HB1
  go_loopw [10, 11] (fun f i wr => ∃ (k : Nat) (F : Int), k ≤ K ∧ f = .int .i64 F ∧ i = .int .i64 k ∧ Hid (F < vOf I D k 0) ∧ Hid (Own wr w.heap.size 3 1 (some ⟨B, 0, none⟩) n n (nums .i64 (metL I D n k 0))) ∧ Hid (Below w.heap.size w wr)) (fun _ i _ => K - (intOf i).toNat)
  case atStart => exact ⟨0, -1, Nat.zero_le _, rfl, rfl, Lib.hid (by unfold vOf; simp), HO, HBW⟩
  case round =>
    obtain ⟨k, F, hk, rfl, rfl, HF, HO2, HB2⟩ := hrel
    have hcell := HCW.out _ HB2.out
    by_cases hlt : k < K
    · have HLS := Lib.hid (HLN.out.line k hlt)
      go_wp2_with fail
      refine (line_calls _ _ l N k _ (HRA.out _ HB2.out) HL.out hcap HW.out HA.out ⟨by omega, by omega⟩).mono ?_
      rw [HLS.out]
      rintro e w3 ⟨Y, cy, rfl, ho3, hb3⟩
      have HLL : Hid ((lineL l N k).length = D) := Lib.hid (by rw [HLN.out.len]; simp)
      have hRL : Row w3 Y (nums .i64 (lineL l N k)) := ho3.row
      obtain ⟨y, rfl⟩ := hRL.some_of (by
        intro h0
        have h1 := nums_length .i64 (lineL l N k)
        rw [h0, HLL.out] at h1
        simp at h1; omega)
      have HRL := Lib.hid hRL
      have HYB : Hid (B ≠ y.block) := Lib.hid (by
        have h1 := ho3.block_ge (show 0 < ((lineL l N (k : Int), (0 : Int)).1.length) by show 0 < (lineL l N k).length; rw [HLL.out]; omega)
        have h2 := HO2.out.base
        omega)
      have HB3 : Hid (Below w.heap.size w w3) := Lib.hid (HB2.out.trans (hb3.mono HB2.out.size))
      have HO3 := Lib.hid (HO2.out.grown hb3)
      rw [show ((lineL l N (k : Int), (0 : Int)).1.length) = D from HLL.out]
      have HCL : Hid (∀ W' z, Row W' (some z) (nums .i64 (lineL l N k)) → ∀ xx : Nat, xx < D → W'.cell? (z.add xx) = some (.int .i64 (vOf I D k xx))) := Lib.hid fun W' z hz xx hxx => by
        have h1 := hz.num (i := xx) (by rw [HLL.out]; exact hxx)
        rw [h1]
        congr 2
        have : (lineL l N k)[xx]'(by rw [HLL.out]; exact hxx) = lineG l N k xx := by simp [HLN.out.len]
        rw [this, HLN.out.at']
      have hc0 : w3.cell? y = some (.int .i64 (vOf I D k 0)) := by
        have h1 := HCL.out w3 y hRL 0 (by omega)
        simpa [Addr.add] using h1
      have hcell3 := HCW.out _ HB3.out
      have hb0 := HLN.out.bound k 0 hlt (by omega)
      have HV0 : Hid (∀ xx : Nat, vOf I D k xx = vOf I D k 0 + xx * I) := Lib.hid fun xx => by unfold vOf; rw [Int.zero_mul, Int.add_zero]
      have HNX : Hid (vOf I D k 0 < vOf I D (k + 1 : Nat) 0) := Lib.hid (vOf_next hI1 (by omega))
      have hF := HF.out
      rw [show (((0 : Nat) : Int)) = 0 from rfl] at hb0
      generalize vOf I D k 0 = G at *
      have hFd : decide (G ≤ F) = false := by simp; omega
      have hDe : ((D : Int) != (D : Int)) = false := by simp
      have hDz : ((D : Int) == 0) = false := by simp; omega
      clear hcell hb3 ho3 hRL HF HO2 HB2
      go_wp2
      go_hide hQ
      go_loopw [109] (fun i wr => ∃ xx : Nat, xx ≤ D ∧ i = .int .i64 xx ∧ Hid (Own wr w.heap.size 3 1 (some ⟨B, 0, none⟩) n n (nums .i64 (metL I D n k xx))) ∧ Hid (Row wr (some y) (nums .i64 (lineL l N k))) ∧ Hid (Below w.heap.size w wr)) (fun i _ => D - (intOf i).toNat)
      case atStart => exact ⟨0, Nat.zero_le _, rfl, HO3, HRL, HB3⟩
      case round =>
        obtain ⟨xx, hxx, rfl, HO4, HRL4, HB4⟩ := hrel
        by_cases hlx : xx < D
        · have hc := HCL.out _ y HRL4.out xx hlx
          have hbv := HLN.out.bound k xx hlt hlx
          have hve := HV0.out xx
          have hp0 : 0 ≤ (xx : Int) * I := Int.mul_nonneg (by omega) (by omega)
          have hp1 : (xx : Int) * I ≤ 1228800 := by
            have : (xx : Int) * I ≤ 300 * 4096 := Int.mul_le_mul (by omega) hI2 (by omega) (by omega)
            omega
          obtain ⟨V, hV⟩ := Int.eq_ofNat_of_zero_le hbv.1
          have HVX := Lib.hid hV
          rw [hV] at hc hve hbv
          have hVn : V < n := by omega
          have HCO := Lib.hid (HLN.out.coord V hVn)
          have HXV : Hid (xOf I D V = xx) := Lib.hid (by rw [← HVX.out]; exact xOf_vOf hI1 (by omega) (by omega))
          generalize hM : (xx : Int) * I = M at *
          have t1 : ((V : Int) != G + M) = false := by rw [← hve]; simp
          have t2 : decide ((V : Int) < 0) = false := by simp
          have t3 : decide ((n : Int) ≤ (V : Int)) = false := by simp; omega
          clear hV hve hbv
          go_wp2_with fail
          refine (coord_calls _ _ l V _ (HRA.out _ HB4.out) HL.out HW.out ⟨by omega, by omega⟩).mono ?_
          rw [HCO.out.1]
          rintro e w5 ⟨Z, cz, rfl, ho5, hb5⟩
          have hRZ : Row w5 Z (nums .i64 (coordL l V)) := ho5.row
          have HZL : Hid ((coordL l V).length = l.length) := Lib.hid (coordL_length l V)
          obtain ⟨z, rfl⟩ := hRZ.some_of (by
            intro h0
            have h1 := nums_length .i64 (coordL l V)
            rw [h0, HZL.out] at h1
            simp at h1; omega)
          rw [show ((coordL l (V : Int), (0 : Int)).1.length) = l.length from HZL.out]
          have hcz : w5.cell? (z.add N) = some (.int .i64 (xx : Int)) := by
            have h1 := hRZ.num (i := N) (by rw [HZL.out]; exact hN)
            rw [h1, ← HXV.out, ← HCO.out.2, getD_at (by rw [HZL.out]; exact hN)]
          have HB5 : Hid (Below w.heap.size w w5) := Lib.hid (HB4.out.trans (hb5.mono HB4.out.size))
          have HO5 := Lib.hid (HO4.out.grown hb5)
          have HRL5 := Lib.hid (HRL4.out.below hb5)
          have t5 : ((xx : Int) != (xx : Int)) = false := by simp
          have hcm : w5.cell? ⟨B, V, none⟩ = some (.int .i64 0) := by
            rw [HO5.out.cellAt V hVn, nums_get .i64 _ V (by rw [metL_length]; exact hVn), metL_none hI1 (by omega) HVX.out.symm hVn]
          have hfm : w5.frozen? ⟨B, V, none⟩ = false := HO5.out.frozenAt V
          have HST : Hid (Own (w5.setCell ⟨B, V, none⟩ (.int .i64 1)) w.heap.size 3 1 (some ⟨B, 0, none⟩) n n (nums .i64 (metL I D n k (xx + 1)))) := Lib.hid (by
            have h1 := HO5.out.stored V (.int .i64 1)
            rw [nums_set, metL_step hI1 (by omega) HVX.out.symm hVn] at h1
            exact h1)
          have HSB : Hid (Below w.heap.size w (w5.setCell ⟨B, V, none⟩ (.int .i64 1))) := Lib.hid (HB5.out.setCell hB0 _)
          have HSR : Hid (Row (w5.setCell ⟨B, V, none⟩ (.int .i64 1)) (some y) (nums .i64 (lineL l N k))) := Lib.hid (HRL5.out.far HYB.out _)
          clear hb5 ho5 hRZ hc
          go_wp2
          go_roundw
          case rel => exact ⟨xx + 1, by omega, by go_num, HST, HSR, HSB⟩
          case measure => simp [intOf]; omega
        · have hxe : xx = D := by omega
          have HML : Hid (metL I D n k xx = metL I D n (k + 1) 0) := Lib.hid (metL_line (by omega) (by omega))
          go_wp2
          subst hQ
          go_wp2
          go_roundw
          case rel => exact ⟨k + 1, G, by omega, rfl, by go_num, HNX, Lib.hid (by rw [← HML.out]; exact HO4.out), HB4⟩
          case measure => simp [intOf]; omega
    · have hke : k = K := by omega
      subst hke
      have HLK := Lib.hid HLN.out.lineK
      have HAL := Lib.hid HLN.out.all
      go_wp2
      go_hide hQ
      go_loopw [161] (fun i wr2 => ∃ v : Nat, v ≤ n ∧ i = .int .i64 v ∧ Hid (Own wr2 w.heap.size 3 1 (some ⟨B, 0, none⟩) n n (nums .i64 (metL I D n k 0))) ∧ Hid (Below w.heap.size w wr2)) (fun i _ => n - (intOf i).toNat)
      case atStart => exact ⟨0, Nat.zero_le _, rfl, HO2, HB2⟩
      case round =>
        obtain ⟨v, hv, rfl, HO4, HB4⟩ := hrel
        by_cases hlv : v < n
        · have hcv : wr.cell? ⟨B, v, none⟩ = some (.int .i64 1) := by
            rw [HO4.out.cellAt v hlv, nums_get .i64 _ v (by rw [metL_length]; exact hlv), HAL.out v hlv]
          go_wp2
          go_roundw
          case rel => exact ⟨v + 1, by omega, by go_num, HO4, HB4⟩
          case measure => simp [intOf]; omega
        · have hcell4 := HCW.out _ HB4.out
          go_wp2
          subst hQ
          go_wp2_with fail
          refine (line_calls _ _ l N k _ (HRA.out _ HB4.out) HL.out hcap HW.out HA.out ⟨by omega, by omega⟩).mono ?_
          rw [HLK.out]
          rintro e w3 ⟨Y, cy, rfl, ho3, hb3⟩
          have HB5 : Hid (Below w.heap.size w w3) := Lib.hid (HB4.out.trans (hb3.mono HB4.out.size))
          clear ho3 hb3
          go_wp2
          go_ret
          exact ⟨by first | rfl | (simp; done), HB5.out⟩
end Go.Proofs.Ytkofhmiakfmcaaa.P
