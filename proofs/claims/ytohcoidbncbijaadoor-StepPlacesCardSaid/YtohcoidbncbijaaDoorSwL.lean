
/- The law StepPlaces, walked. Conditions: words of their kinds; slices read as lists; the library's table lies as it was laid. -/
import Derived.Test.YtohcoidbncbijaaDoorSpP
import Derived.Test.YtohcoidbncbijaaDoorStL
import Derived.Test.YtohcoidbncbijaaDoorStU
import Derived.Test.YtohcoidbncbijaaDoorGrF
import Derived.Test.YtohcoidbncbijaaDoorRound3
namespace Go.Proofs.YtohcoidbncbijaaDoor.P
open Go.RowKit
set_option linter.unusedVariables false
set_option linter.unusedSimpArgs false
theorem Own.setOther {w : World} {B : Nat} {E : TypeId} {s g n c : Nat} {cs : List Value} (h : Own w B E s (some ⟨g, 0, none⟩) n c cs) {p : Addr} (hne : p.block ≠ g) (v : Value) : Own (w.setCell p v) B E s (some ⟨g, 0, none⟩) n c cs := by
  refine ⟨h.1, ?_⟩
  rcases h.2 with ⟨hv, _⟩ | ⟨g2, cap, cur, hv, hB, hh, r⟩
  · cases hv
  · refine .inr ⟨g2, cap, cur, hv, hB, ?_, r⟩
    cases hv
    exact (Deep.blk_setCell_other w p v g (by omega)).trans hh
theorem nums_put {w : World} {B g n : Nat} {l : List Int} (h : Own w B 3 1 (some ⟨g, 0, none⟩) n n (nums .i64 l)) (j : Nat) (v : Int) : Own (w.setCell ⟨g, j, none⟩ (.int .i64 v)) B 3 1 (some ⟨g, 0, none⟩) n n (nums .i64 (l.set j v)) := by
  have h1 := h.stored j (.int .i64 v)
  rw [nums_set] at h1
  exact h1
theorem nums_cell {w : World} {B g n : Nat} {l : List Int} (h : Own w B 3 1 (some ⟨g, 0, none⟩) n n (nums .i64 l)) {j : Nat} (hj : j < n) (hl : l.length = n) : w.cell? ⟨g, j, none⟩ = some (.int .i64 (l.getD j 0)) := by
  rw [h.cellAt j hj, nums_get .i64 l j (by omega), getD_of (show j < l.length by omega) 0]
set_option maxRecDepth 100000 in
set_option maxHeartbeats 1200000 in
theorem stepPlaces_walk (p : Int) (A : Option Addr) (ca : Nat) (ax : List (Int × Bool)) (inv : Bool) (s : Stp) (w : World) (hp : U64 p) (hr : Row w A (axR ax)) (hla : ax.length * 16 ≤ 140737488351232) (hcap : ax.length ≤ ca) (hwa : ∀ a ∈ ax, (Lit.int .i64 a.1).wf = true) (hs0 : i64 s.1) (hs2 : i64 s.2.2.1) (hs3 : i64 s.2.2.2.1) (hs4 : i64 s.2.2.2.2) (hT : Tab w) :
    Calls Tryd.prog 13 #[.int .u64 p, .slice A ax.length ca, .bool inv, .agg #[.int .i64 s.1, .bool s.2.1, .int .i64 s.2.2.1, .int .i64 s.2.2.2.1, .int .i64 s.2.2.2.2]] w fun e w' => e = .returned (.bool true) ∧ Below w.heap.size w w' := by
  obtain ⟨s0, s1, s2, s3, s4⟩ := s
  dsimp only at *
  have HP := Lib.hid hp
  have HR := Lib.hid hr
  have HT := Lib.hid hT
  have HW : Hid (∀ a ∈ ax, i64 a.1) := Lib.hid fun a ha => i64_wf (hwa a ha)
  clear hp hr hT hwa
  generalize hn : ax.length = n at *
  have HN := Lib.hid hn
  have HL : Hid (n ≤ 8796093022208) := Lib.hid (by omega)
  clear hn hla hcap
  have hbA : Below w.heap.size w (w.alloc (.cells #[.int .i64 s0, .bool s1, .int .i64 s2, .int .i64 s3, .int .i64 s4] 39)) := (Below.refl _ _).alloc (Nat.le_refl _) _
  have HBX : Hid (Row (w.alloc (.cells #[.int .i64 s0, .bool s1, .int .i64 s2, .int .i64 s3, .int .i64 s4] 39)) (some ⟨w.heap.size, 0, none⟩) [.int .i64 s0, .bool s1, .int .i64 s2, .int .i64 s3, .int .i64 s4]) := Lib.hid (row_new w [.int .i64 s0, .bool s1, .int .i64 s2, .int .i64 s3, .int .i64 s4] _)
  have HBA := Lib.hid hbA
  have HTA := Lib.hid (HT.out.below hbA)
  clear hbA
  go_enter Tryd.func13, Tryd.ntmps13
  go_wp2_with fail
  generalize (w.alloc (.cells #[.int .i64 s0, .bool s1, .int .i64 s2, .int .i64 s3, .int .i64 s4] 39)) = V at *
  refine (live16_calls V HTA.out).mono ?_
  rintro e w1 ⟨rfl, hb1⟩
  have HB1 := Lib.hid (blT HBA.out hb1)
  have HBX1 := Lib.hid (HBX.out.below hb1)
  clear hb1 HBX HBA HTA
  go_wp2_with fail
  refine (few7_calls _ _ _ ax _ _ HN.out (HR.out.below HB1.out) HL.out HW.out).mono ?_
  rintro e w2 ⟨r, rfl, hb⟩
  have HB2 := Lib.hid (blT HB1.out hb)
  have HBX2 := Lib.hid (HBX1.out.below hb)
  clear hb HB1 HBX1
  cases r
  case false =>
    go_wp2
    go_ret
    exact ⟨rfl, HB2.out⟩
  have b0 : w2.cell? ⟨w.heap.size, 0, none⟩ = some (.int .i64 s0) := HBX2.out.cell (i := 0) rfl
  have b1 : w2.cell? ⟨w.heap.size, 1, none⟩ = some (.bool s1) := HBX2.out.cell (i := 1) rfl
  have b2 : w2.cell? ⟨w.heap.size, 2, none⟩ = some (.int .i64 s2) := HBX2.out.cell (i := 2) rfl
  have b3 : w2.cell? ⟨w.heap.size, 3, none⟩ = some (.int .i64 s3) := HBX2.out.cell (i := 3) rfl
  have b4 : w2.cell? ⟨w.heap.size, 4, none⟩ = some (.int .i64 s4) := HBX2.out.cell (i := 4) rfl
  by_cases hc : chk16 p ax (s0, s1, s2, s3, s4) = 0
  case neg =>
    have HF : Hid (tabS p ax inv (s0, s1, s2, s3, s4) = ([], chk16 p ax (s0, s1, s2, s3, s4))) := Lib.hid (by rw [tabS, if_neg hc])
    have t0 : (chk16 p ax (s0, s1, s2, s3, s4) != 0) = true := by simpa using hc
    go_wp2_with fail
    refine (sgroups_no p A _ n ax s0 s1 s2 s3 s4 w2 HN.out HP.out (HR.out.below HB2.out) HL.out HW.out (HT.out.below HB2.out) hc).mono ?_
    rintro e w3 ⟨rfl, hb⟩
    have HB3 := Lib.hid (blT HB2.out hb)
    have HBX3 := Lib.hid (HBX2.out.below hb)
    clear hb b0 b1 b2 b3 b4 hc
    dsimp only
    have b0 : w3.cell? ⟨w.heap.size, 0, none⟩ = some (.int .i64 s0) := HBX3.out.cell (i := 0) rfl
    have b1 : w3.cell? ⟨w.heap.size, 1, none⟩ = some (.bool s1) := HBX3.out.cell (i := 1) rfl
    have b2 : w3.cell? ⟨w.heap.size, 2, none⟩ = some (.int .i64 s2) := HBX3.out.cell (i := 2) rfl
    have b3 : w3.cell? ⟨w.heap.size, 3, none⟩ = some (.int .i64 s3) := HBX3.out.cell (i := 3) rfl
    have b4 : w3.cell? ⟨w.heap.size, 4, none⟩ = some (.int .i64 s4) := HBX3.out.cell (i := 4) rfl
    go_wp2_with fail
    refine (stab_calls p A _ n ax inv s0 s1 s2 s3 s4 w3 HN.out HP.out (HR.out.below HB3.out) HL.out HW.out (HT.out.below HB3.out)).mono ?_
    rw [HF.out]
    rintro e w4 ⟨C, c, rfl, ho, hb⟩
    have HB4 := Lib.hid (blT HB3.out hb)
    clear ho hb b0 b1 b2 b3 b4
    dsimp only
    go_wp2
    go_ret
    exact ⟨by first | rfl | (simp; done), HB4.out⟩
  obtain ⟨k, N, neg, hK⟩ := chk16_ok hc
  have hsk := hK.axis
  dsimp only at hsk
  subst hsk
  have HC := Lib.hid hc
  have HKK := Lib.hid hK
  have HF : Hid (tabS p ax inv ((k : Int), s1, s2, s3, s4) = (tabL p N neg inv ((k : Int), s1, s2, s3, s4), 0)) := Lib.hid (by
    rw [tabS, if_pos hc]
    dsimp only
    rw [Int.toNat_natCast, hK.get, hK.dim, Int.toNat_natCast])
  have hp1 := hK.chk.dims.pos.prod
  have hp4 := hK.chk.dims.all
  obtain ⟨P, hP⟩ := Int.eq_ofNat_of_zero_le (show 0 ≤ prodL (dimsA ax) by omega)
  have hP4 : P ≤ 4096 := by omega
  obtain ⟨gi, go, hPK⟩ : ∃ gi go, PlacesK (grpG (dimsA ax) k s1 s2.toNat s3.toNat s4.toNat) (grpR s1 s2.toNat) (grpC (dimsA ax) k s1 s3.toNat s4.toNat) P (tabL p N neg inv ((k : Int), s1, s2, s3, s4)).length gi go := by
    have hAx := (hK.chk.at hK.lt).1
    have hsm := grpC_small hK
    dsimp only at hsm
    rcases hK.kind with ⟨ht, hz⟩ | ⟨ht, hz⟩
    · dsimp only at ht hz
      subst ht
      simp only [Prod.mk.injEq] at hz
      obtain ⟨rfl, rfl, rfl⟩ := hz
      have e1 : grpG (dimsA ax) k true (0 : Int).toNat (0 : Int).toNat (0 : Int).toNat = grpT (dimsA ax) k := by funext g; exact grpG_twist ..
      have e2 : grpC (dimsA ax) k true (0 : Int).toNat (0 : Int).toNat = P := by unfold grpC; rw [if_pos rfl, hP, Int.toNat_natCast]
      have e3 : (tabL p N neg inv ((k : Int), true, 0, 0, 0)).length = N := by rw [tabL_twist]; simp
      rw [e1, e2, e3]
      exact ⟨_, _, places_twist hAx hK.dim hP hP4⟩
    · dsimp only at ht hz
      subst ht
      obtain ⟨R, L, M, hs, hS⟩ := stg_mem hK.c6.smooth hz
      simp only [Prod.mk.injEq] at hs
      obtain ⟨rfl, rfl, rfl⟩ := hs
      obtain ⟨K, hKK⟩ := Int.eq_ofNat_of_zero_le (show 0 ≤ prodL (dimsA ax) / (N : Int) from Int.ediv_nonneg (by omega) (by omega))
      have e2 : grpC (dimsA ax) k false (L : Int).toNat (M : Int).toNat = K * M * L := by
        unfold grpC
        rw [if_neg (by decide), hK.dim, hKK]
        simp only [Int.toNat_natCast]
      have e3 : (tabL p N neg inv ((k : Int), false, (R : Int), (L : Int), (M : Int))).length = M * R := by rw [tabL_stage p N neg inv _ hS, tabR_length]
      rw [e2] at hsm
      rw [e2, e3]
      simp only [Int.toNat_natCast]
      exact ⟨_, _, places_stage ⟨hAx, hK.dim, hS⟩ hP hKK hsm⟩
  have HTU := Lib.hid (tabL_len hK inv)
  have hN4 := hK.c6.n2
  have HGY := Lib.hid (fun (w0 : World) (hr0 : Row w0 A (axR ax)) (hT0 : Tab w0) => sgroups_yes p A ca n ax k s1 s2 s3 s4 N neg w0 HN.out HP.out hr0 HL.out HW.out hT0 hc hK)
  have HPD : Hid (∀ i, i < n → ∃ d : Int, ∃ b, ax[i]? = some (d, b) ∧ IntKind.i64.wrap (prodL ((dimsA ax).take i) * d) = prodL ((dimsA ax).take (i + 1))) := Lib.hid fun i hi => by
    have hia : i < ax.length := by have := HN.out; omega
    have hid : i < (dimsA ax).length := by rw [dimsA_length]; exact hia
    refine ⟨ax[i].1, ax[i].2, by rw [List.getElem?_eq_getElem hia], ?_⟩
    have e1 : (dimsA ax)[i] = ax[i].1 := by simp [dimsA]
    have h1 := prodL_take (dimsA ax) i hid
    rw [e1] at h1
    rw [← h1]
    have h2 := hK.chk.dims.pos.take_le (i + 1)
    have h3 := (hK.chk.dims.pos.take (i + 1)).prod
    exact wrapI (by omega) (by omega)
  have HPE : Hid (prodL ((dimsA ax).take n) = (P : Int)) := Lib.hid (by rw [List.take_of_length_le (by rw [dimsA_length, HN.out]; exact Nat.le_refl _)]; exact hP)
  have HPS : Hid (prodL ((dimsA ax).take 0) = 1) := Lib.hid (by simp [prodL])
  obtain ⟨xa, rfl⟩ := HR.out.some_of (by intro h0; have h1 := axR_length ax; rw [h0] at h1; simp at h1; have h2 := hK.lt; omega)
  obtain ⟨tl, htl⟩ : ∃ tl, (tabL p N neg inv ((k : Int), s1, s2, s3, s4)).length = tl := ⟨_, rfl⟩
  have HTL : Hid (((tabL p N neg inv ((k : Int), s1, s2, s3, s4), (0 : Int)).1).length = tl) := Lib.hid htl
  rw [htl] at hPK
  have htl4 : tl ≤ 4096 := by have := HTU.out; omega
  generalize tabL p N neg inv ((k : Int), s1, s2, s3, s4) = tab at *
  generalize hG : grpG (dimsA ax) k s1 s2.toNat s3.toNat s4.toNat = G at *
  generalize hr0 : grpR s1 s2.toNat = r at *
  generalize hcn : grpC (dimsA ax) k s1 s3.toNat s4.toNat = cnt at *
  have HPK := Lib.hid hPK
  have hn4 : n ≤ 4 := by have h1 := hK.chk.dims.n4; rw [dimsA_length, HN.out] at h1; exact h1
  have hr1 := hPK.r1
  have hr5 := hPK.r5
  have hc4 := hPK.c4
  have hm1 := make_int P (by omega)
  have hm2 := make_int tl (by omega)
  clear hc hK hp1 hp4 hP hPK hN4 hG hr0 hcn htl
  go_wp2_with fail
  refine (HGY.out w2 (HR.out.below HB2.out) (HT.out.below HB2.out)).mono ?_
  rintro e w3 ⟨Z, z, hs, rfl, hz, hsl, hrows, hb⟩
  have HB3 := Lib.hid (blT HB2.out hb)
  have HBX3 := Lib.hid (HBX2.out.below hb)
  have HZ := Lib.hid hz
  have HSL := Lib.hid hsl
  have HRW := Lib.hid hrows
  clear hb b0 b1 b2 b3 b4 hz hsl hrows HGY
  dsimp only
  have b0 : w3.cell? ⟨w.heap.size, 0, none⟩ = some (.int .i64 (k : Int)) := HBX3.out.cell (i := 0) rfl
  have b1 : w3.cell? ⟨w.heap.size, 1, none⟩ = some (.bool s1) := HBX3.out.cell (i := 1) rfl
  have b2 : w3.cell? ⟨w.heap.size, 2, none⟩ = some (.int .i64 s2) := HBX3.out.cell (i := 2) rfl
  have b3 : w3.cell? ⟨w.heap.size, 3, none⟩ = some (.int .i64 s3) := HBX3.out.cell (i := 3) rfl
  have b4 : w3.cell? ⟨w.heap.size, 4, none⟩ = some (.int .i64 s4) := HBX3.out.cell (i := 4) rfl
  go_wp2_with fail
  refine (stab_calls p (some xa) _ n ax inv (k : Int) s1 s2 s3 s4 w3 HN.out HP.out (HR.out.below HB3.out) HL.out HW.out (HT.out.below HB3.out)).mono ?_
  rw [HF.out, HTL.out]
  rintro e w4 ⟨TB, tb, rfl, ho, hb⟩
  have HB4 := Lib.hid (blT HB3.out hb)
  have HZ4 := Lib.hid (HZ.out.below hb)
  have HRW4 : Hid (∀ i (h : i < hs.length), Row w4 hs[i].A (nums .i64 (G i).1) ∧ Row w4 hs[i].B (nums .i64 (G i).2.1) ∧ Row w4 hs[i].C (nums .i64 (G i).2.2)) := Lib.hid fun i h => ⟨(HRW.out i h).1.below hb, (HRW.out i h).2.1.below hb, (HRW.out i h).2.2.below hb⟩
  clear ho hb b0 b1 b2 b3 b4 HZ HRW
  dsimp only
  have HR4 := Lib.hid (HR.out.below HB4.out)
  go_wp2
  go_loopw [13, 65] (fun v q wr => ∃ i : Nat, i ≤ n ∧ q = .int .i64 i ∧ v = .int .i64 (prodL ((dimsA ax).take i)) ∧ Hid (Below w4.heap.size w4 wr)) (fun _ q _ => n - (intOf q).toNat)
  case atStart => exact ⟨0, Nat.zero_le _, rfl, by rw [HPS.out], Lib.hid (Below.refl _ _)⟩
  case round =>
    obtain ⟨i, hi, rfl, rfl, HB5⟩ := hrel
    by_cases hlt : i < n
    · have hia : i < ax.length := by have := HN.out; omega
      obtain ⟨d, b, had, hwd⟩ := HPD.out i hlt
      obtain ⟨c0, c1⟩ := ax_cells (HR4.out.below HB5.out) hia
      rw [List.getElem?_eq_getElem hia] at had
      rw [Option.some.inj had] at c0 c1
      dsimp only at c0 c1
      have hbA : Below wr.heap.size wr (wr.alloc (.cells #[.int .i64 d, .bool b] 32)) := (Below.refl _ _).alloc (Nat.le_refl _) _
      have HBA : Hid (Below w4.heap.size w4 (wr.alloc (.cells #[.int .i64 d, .bool b] 32))) := Lib.hid (blT HB5.out hbA)
      clear hbA had
      generalize prodL ((dimsA ax).take i) = q1 at *
      obtain ⟨q2, hq2⟩ : ∃ q, prodL ((dimsA ax).take (i + 1)) = q := ⟨_, rfl⟩
      rw [hq2] at hwd
      have HQ2 := Lib.hid hq2
      clear hq2
      go_wp2
      go_roundw
      case rel => exact ⟨i + 1, by omega, by go_num, by rw [HQ2.out], HBA⟩
      case measure => simp [intOf]; omega
    · have hie : i = n := by omega
      subst hie
      have HPV : Hid (prodL ((dimsA ax).take i) = (P : Int)) := HPE
      rw [HPV.out]
      obtain ⟨w5, hw5⟩ : ∃ w5, w5 = wr := ⟨_, rfl⟩
      rw [← hw5] at HB5
      rw [← hw5]
      clear hw5 HPV
      have HB6 := Lib.hid (blT HB4.out HB5.out)
      have HZ5 := Lib.hid (HZ4.out.below HB5.out)
      have HRW5 : Hid (∀ i (h : i < hs.length), Row w5 hs[i].A (nums .i64 (G i).1) ∧ Row w5 hs[i].B (nums .i64 (G i).2.1) ∧ Row w5 hs[i].C (nums .i64 (G i).2.2)) := Lib.hid fun i h => ⟨(HRW4.out i h).1.below HB5.out, (HRW4.out i h).2.1.below HB5.out, (HRW4.out i h).2.2.below HB5.out⟩
      go_wp2
      have HW1 : Hid (Own (((w5.alloc (.cells (madeCells #[.int .i64 0] P) 3)).alloc (.cells (madeCells #[.int .i64 0] P) 3)).alloc (.cells (madeCells #[.int .i64 0] tl) 3)) w5.heap.size 3 1 (some ⟨w5.heap.size, 0, none⟩) P P (nums .i64 (cntL P r gi [] 0 0))) := Lib.hid (by
        have h1 := (own_made w5 w5.heap.size 3 (.int .i64 0) P (Nat.le_refl _) (by omega)).grown (((Below.refl _ _).alloc (Nat.le_refl _) (.cells (madeCells #[.int .i64 0] P) 3)).alloc (by simp) (.cells (madeCells #[.int .i64 0] tl) 3))
        rw [nums_replicate, ← cnt_start P r gi []] at h1
        exact h1)
      have HW2 : Hid (Own (((w5.alloc (.cells (madeCells #[.int .i64 0] P) 3)).alloc (.cells (madeCells #[.int .i64 0] P) 3)).alloc (.cells (madeCells #[.int .i64 0] tl) 3)) w5.heap.size 3 1 (some ⟨w5.heap.size + 1, 0, none⟩) P P (nums .i64 (cntL P r go [] 0 0))) := Lib.hid (by
        have h1 := (own_made (w5.alloc (.cells (madeCells #[.int .i64 0] P) 3)) w5.heap.size 3 (.int .i64 0) P (by simp) (by omega)).grown ((Below.refl _ _).alloc (Nat.le_refl _) (.cells (madeCells #[.int .i64 0] tl) 3))
        rw [nums_replicate, ← cnt_start P r go [], size_alloc] at h1
        exact h1)
      have HW3 : Hid (Own (((w5.alloc (.cells (madeCells #[.int .i64 0] P) 3)).alloc (.cells (madeCells #[.int .i64 0] P) 3)).alloc (.cells (madeCells #[.int .i64 0] tl) 3)) w5.heap.size 3 1 (some ⟨w5.heap.size + 1 + 1, 0, none⟩) tl tl (nums .i64 (List.replicate tl 0))) := Lib.hid (by
        have h1 := own_made ((w5.alloc (.cells (madeCells #[.int .i64 0] P) 3)).alloc (.cells (madeCells #[.int .i64 0] P) 3)) w5.heap.size 3 (.int .i64 0) tl (by simp; omega) (by omega)
        rw [nums_replicate, size_alloc, size_alloc] at h1
        exact h1)
      have HWB : Hid (Below w5.heap.size w5 (((w5.alloc (.cells (madeCells #[.int .i64 0] P) 3)).alloc (.cells (madeCells #[.int .i64 0] P) 3)).alloc (.cells (madeCells #[.int .i64 0] tl) 3))) := Lib.hid ((((Below.refl _ _).alloc (Nat.le_refl _) _).alloc (by simp) _).alloc (by simp; omega) _)
      have HWS : Hid (w5.heap.size + 3 ≤ (((w5.alloc (.cells (madeCells #[.int .i64 0] P) 3)).alloc (.cells (madeCells #[.int .i64 0] P) 3)).alloc (.cells (madeCells #[.int .i64 0] tl) 3)).heap.size) := Lib.hid (by simp)
      have HU0 : Hid (UsedI G r tl 0 0 (List.replicate tl 0)) := Lib.hid ⟨by simp, fun f hf => by rw [List.getD_eq_getElem?_getD]; simp [hf], fun g' t' _ h => by omega⟩
      clear hm1 hm2
      generalize (((w5.alloc (.cells (madeCells #[.int .i64 0] P) 3)).alloc (.cells (madeCells #[.int .i64 0] P) 3)).alloc (.cells (madeCells #[.int .i64 0] tl) 3)) = W at *
      have HB50 := Lib.hid (Nat.le_refl w5.heap.size)
      obtain ⟨b1, hb1⟩ : ∃ b, w5.heap.size = b := ⟨_, rfl⟩
      have HBE := Lib.hid hb1
      rw [hb1] at HW1 HW2 HW3 HWB HWS
      rw [hb1]
      clear hb1
      go_loopw [83] (fun q ws => ∃ (g : Nat) (u : List Int), g ≤ cnt ∧ q = .int .i64 g ∧ Hid (Own ws b1 3 1 (some ⟨b1, 0, none⟩) P P (nums .i64 (cntL P r gi [] g 0))) ∧ Hid (Own ws b1 3 1 (some ⟨b1 + 1, 0, none⟩) P P (nums .i64 (cntL P r go [] g 0))) ∧ Hid (Own ws b1 3 1 (some ⟨b1 + 1 + 1, 0, none⟩) tl tl (nums .i64 (u))) ∧ Hid (UsedI G r tl g 0 u) ∧ Hid (Below b1 w5 ws) ∧ Hid (b1 + 3 ≤ ws.heap.size)) (fun q _ => cnt - (intOf q).toNat)
      case atStart => exact ⟨0, _, Nat.zero_le _, rfl, HW1, HW2, HW3, HU0, HWB, HWS⟩
      case round =>
        obtain ⟨g, u0, hg, rfl, HI, HO, HU, HUS, HB7, HSZ7⟩ := hrel
        have HB7' : Hid (Below w5.heap.size w5 wr) := Lib.hid (by rw [HBE.out]; exact HB7.out)
        by_cases hgt : g < cnt
        · have hgl : g < hs.length := by have := HSL.out; omega
          obtain ⟨q1, q2, q3⟩ := HRW5.out g hgl
          have HRA := Lib.hid q1
          have HRB := Lib.hid q2
          have HRC := Lib.hid q3
          have hli := HPK.out.lI g hgt
          have hlf := HPK.out.lF g hgt
          have hlo := HPK.out.lO g hgt
          have HII := Lib.hid (HPK.out.iI g hgt)
          have HIF := Lib.hid (HPK.out.iF g hgt)
          have HIO := Lib.hid (HPK.out.iO g hgt)
          have HJI := Lib.hid (HPK.out.jI g hgt)
          have HJO := Lib.hid (HPK.out.jO g hgt)
          have HMI := Lib.hid (HPK.out.mI g hgt)
          have HMO := Lib.hid (HPK.out.mO g hgt)
          have HLI := Lib.hid hli
          have HLF := Lib.hid hlf
          have HLO := Lib.hid hlo
          obtain ⟨za, rfl⟩ := HZ5.out.some_of (by intro h0; have h1 := hgR_length r hs; rw [h0] at h1; simp at h1; have h2 := HSL.out; omega)
          obtain ⟨d0, d1, d2⟩ := hg_cells (HZ5.out.below HB7'.out) hgl
          obtain ⟨⟨A1, B1, C1, ca1, cb1, cc1⟩, hh⟩ : ∃ h, hs[g] = h := ⟨_, rfl⟩
          rw [hh] at HRA HRB HRC d0 d1 d2
          dsimp only at HRA HRB HRC d0 d1 d2
          clear hh hgl q1 q2 q3
          have e1 : ((r : Int) == 0) = false := by simp; omega
          have e2 : (r == 0) = false := by simp; omega
          have hlI : 1 ≤ (G g).1.length := by omega
          have hlF : 1 ≤ (G g).2.1.length := by omega
          have hlO : 1 ≤ (G g).2.2.length := by omega
          obtain ⟨ia, rfl⟩ := HRA.out.some_of (nums_ne hlI)
          obtain ⟨fa, rfl⟩ := HRB.out.some_of (nums_ne hlF)
          obtain ⟨oa, rfl⟩ := HRC.out.some_of (nums_ne hlO)
          clear hli hlf hlo hlI hlF hlO
          have hbG : Below wr.heap.size wr (wr.alloc (.cells #[.slice (some ia) r ca1, .slice (some fa) r cb1, .slice (some oa) r cc1] 72)) := (Below.refl _ _).alloc (Nat.le_refl _) _
          have HVB : Hid (Own (wr.alloc (.cells #[.slice (some ia) r ca1, .slice (some fa) r cb1, .slice (some oa) r cc1] 72)) (b1 + 3) 72 1 (some ⟨wr.heap.size, 0, none⟩) 3 3 [.slice (some ia) r ca1, .slice (some fa) r cb1, .slice (some oa) r cc1]) := Lib.hid (own_one wr (b1 + 3) 72 [.slice (some ia) r ca1, .slice (some fa) r cb1, .slice (some oa) r cc1] 3 HSZ7.out rfl (by decide))
          have HVI := Lib.hid (HI.out.grown hbG)
          have HVO := Lib.hid (HO.out.grown hbG)
          have HVU := Lib.hid (HU.out.grown hbG)
          have HVW : Hid (Below b1 w5 (wr.alloc (.cells #[.slice (some ia) r ca1, .slice (some fa) r cb1, .slice (some oa) r cc1] 72))) := Lib.hid (HB7.out.trans (hbG.mono (by have := HSZ7.out; omega)))
          have HVS : Hid (b1 + 3 ≤ (wr.alloc (.cells #[.slice (some ia) r ca1, .slice (some fa) r cb1, .slice (some oa) r cc1] 72)).heap.size) := Lib.hid (Nat.le_trans HSZ7.out hbG.size)
          obtain ⟨gb, hgb⟩ : ∃ b, wr.heap.size = b := ⟨_, rfl⟩
          clear hbG HI HO HU
          go_wp2
          clear d0 d1 d2 e1 e2
          generalize (wr.alloc (.cells #[.slice (some ia) r ca1, .slice (some fa) r cb1, .slice (some oa) r cc1] 72)) = V9 at *
          rw [hgb] at HVB
          try rw [hgb]
          have HGB9 : Hid (b1 + 3 ≤ gb) := Lib.hid (by rw [← hgb]; exact HSZ7.out)
          clear hgb HB7 HB7' HSZ7
          have HVI2 : Hid (Own V9 b1 3 1 (some ⟨b1, 0, none⟩) P P (nums .i64 (cntL P r gi (G g).1 g 0))) := HVI
          have HVO2 : Hid (Own V9 b1 3 1 (some ⟨b1 + 1, 0, none⟩) P P (nums .i64 (cntL P r go (G g).2.2 g 0))) := HVO
          clear HVI HVO
          go_hide hQ
          go_loopw [112] (fun q ws => ∃ (t : Nat) (u : List Int), t ≤ r ∧ q = .int .i64 t ∧ Hid (Own ws b1 3 1 (some ⟨b1, 0, none⟩) P P (nums .i64 (cntL P r gi (G g).1 g t))) ∧ Hid (Own ws b1 3 1 (some ⟨b1 + 1, 0, none⟩) P P (nums .i64 (cntL P r go (G g).2.2 g t))) ∧ Hid (Own ws b1 3 1 (some ⟨b1 + 1 + 1, 0, none⟩) tl tl (nums .i64 (u))) ∧ Hid (UsedI G r tl g t u) ∧ Hid (Below b1 w5 ws) ∧ Hid (b1 + 3 ≤ ws.heap.size) ∧ Hid (Own ws (b1 + 3) 72 1 (some ⟨gb, 0, none⟩) 3 3 [.slice (some ia) r ca1, .slice (some fa) r cb1, .slice (some oa) r cc1])) (fun q _ => r - (intOf q).toNat)
          case atStart => exact ⟨0, u0, Nat.zero_le _, rfl, HVI2, HVO2, HVU, HUS, HVW, HVS, HVB⟩
          case round =>
            obtain ⟨t, u, ht, rfl, HI, HO, HU, HUT, HB8, HSZ8, HBG⟩ := hrel
            by_cases htt : t < r
            · have hti : t < (G g).1.length := by have := HLI.out; omega
              have htf : t < (G g).2.1.length := by have := HLF.out; omega
              have hto : t < (G g).2.2.length := by have := HLO.out; omega
              obtain ⟨i0, i1⟩ := HII.out _ (List.getElem_mem hti)
              obtain ⟨f0, f1⟩ := HIF.out _ (List.getElem_mem htf)
              obtain ⟨o0, o1⟩ := HIO.out _ (List.getElem_mem hto)
              have z1 := cnt_zero (cnt := cnt) HLI.out HII.out HMI.out HJI.out htt
              have z2 := cnt_zero (cnt := cnt) HLO.out HIO.out HMO.out HJO.out htt
              have n1 := cnt_next P r gi (G g).1 g htt
              have n2 := cnt_next P r go (G g).2.2 g htt
              have hul := HUT.out.len
              have hUN := HUT.out.step (t := t) htt (by rw [getD_of htf]; omega)
              rw [getD_of hti] at z1 n1
              rw [getD_of hto] at z2 n2
              rw [getD_of htf] at hUN
              have hcI := HRA.out.num hti
              have hcF := HRB.out.num htf
              have hcO := HRC.out.num hto
              have HCI : Hid (∀ ws, Below b1 w5 ws → ws.cell? (ia.add t) = some (.int .i64 (G g).1[t])) := Lib.hid fun ws h => (h.cell (by have h1 := World.block_lt_of_cell? w5 _ hcI; rw [HBE.out] at h1; exact h1)).trans hcI
              have HCF : Hid (∀ ws, Below b1 w5 ws → ws.cell? (fa.add t) = some (.int .i64 (G g).2.1[t])) := Lib.hid fun ws h => (h.cell (by have h1 := World.block_lt_of_cell? w5 _ hcF; rw [HBE.out] at h1; exact h1)).trans hcF
              have HCO : Hid (∀ ws, Below b1 w5 ws → ws.cell? (oa.add t) = some (.int .i64 (G g).2.2[t])) := Lib.hid fun ws h => (h.cell (by have h1 := World.block_lt_of_cell? w5 _ hcO; rw [HBE.out] at h1; exact h1)).trans hcO
              clear hcI hcF hcO
              generalize (G g).1[t] = x1 at *
              generalize (G g).2.1[t] = x3 at *
              generalize (G g).2.2[t] = x2 at *
              obtain ⟨x1, rfl⟩ := Int.eq_ofNat_of_zero_le i0
              obtain ⟨x2, rfl⟩ := Int.eq_ofNat_of_zero_le o0
              obtain ⟨x3, rfl⟩ := Int.eq_ofNat_of_zero_le f0
              have hx1 : x1 < P := by omega
              have hx2 : x2 < P := by omega
              have hx3 : x3 < tl := by omega
              rw [Int.toNat_natCast] at z1 z2 n1 n2 hUN
              have huv := HUT.out.lo x3 hx3
              have hgr : g * r + t ≤ 40000 := by
                have h1 : g * r ≤ 4096 * 5 := Nat.mul_le_mul (by omega) hr5
                omega
              obtain ⟨uv, huu⟩ : ∃ v, u.getD x3 0 = v := ⟨_, rfl⟩
              rw [huu] at hUN huv
              have hwu : IntKind.i64.wrap (uv + 1) = uv + 1 := wrapI (by omega) (by omega)
              have lI := cntL_length P r gi (G g).1 g t
              have lO := cntL_length P r go (G g).2.2 g t
              have hk1 := nums_cell HI.out hx1 lI
              rw [z1] at hk1
              have fr1 := HI.out.frozenAt x1
              have HI2 : Hid (Own (wr.setCell ⟨b1, x1, none⟩ (.int .i64 1)) b1 3 1 (some ⟨b1, 0, none⟩) P P (nums .i64 (cntL P r gi (G g).1 g (t + 1)))) := Lib.hid (by rw [n1]; exact nums_put HI.out x1 1)
              have HO2 := Lib.hid (HO.out.setOther (p := ⟨b1, x1, none⟩) (by dsimp only; omega) (.int .i64 1))
              have HU2 := Lib.hid (HU.out.setOther (p := ⟨b1, x1, none⟩) (by dsimp only; omega) (.int .i64 1))
              have HG2 := Lib.hid (HBG.out.setBelow (p := ⟨b1, x1, none⟩) (by dsimp only; omega) (.int .i64 1))
              have HB82 : Hid (Below b1 w5 (wr.setCell ⟨b1, x1, none⟩ (.int .i64 1))) := Lib.hid (HB8.out.setCell (p := ⟨b1, x1, none⟩) (Nat.le_refl _) _)
              have c10 := HBG.out.cellAt 0 (by decide)
              have c11 := HBG.out.cellAt 1 (by decide)
              have c12 := HBG.out.cellAt 2 (by decide)
              have c13 := HCI.out _ HB8.out
              have c14 := HCO.out _ HB8.out
              have c15 := HCF.out _ HB8.out
              generalize hW1 : (wr.setCell ⟨b1, x1, none⟩ (.int .i64 1)) = W1 at *
              have hk2 := nums_cell HO2.out hx2 lO
              rw [z2] at hk2
              have fr2 := HO2.out.frozenAt x2
              have HI3 := Lib.hid (HI2.out.setOther (p := ⟨b1 + 1, x2, none⟩) (by dsimp only; omega) (.int .i64 1))
              have HO3 : Hid (Own (W1.setCell ⟨b1 + 1, x2, none⟩ (.int .i64 1)) b1 3 1 (some ⟨b1 + 1, 0, none⟩) P P (nums .i64 (cntL P r go (G g).2.2 g (t + 1)))) := Lib.hid (by rw [n2]; exact nums_put HO2.out x2 1)
              have HU3 := Lib.hid (HU2.out.setOther (p := ⟨b1 + 1, x2, none⟩) (by dsimp only; omega) (.int .i64 1))
              have HG3 := Lib.hid (HG2.out.setBelow (p := ⟨b1 + 1, x2, none⟩) (by dsimp only; omega) (.int .i64 1))
              have HB83 : Hid (Below b1 w5 (W1.setCell ⟨b1 + 1, x2, none⟩ (.int .i64 1))) := Lib.hid (HB82.out.setCell (p := ⟨b1 + 1, x2, none⟩) (by dsimp only; omega) _)
              have c22 := HG2.out.cellAt 2 (by decide)
              have c24 := HCO.out _ HB82.out
              generalize hW2 : (W1.setCell ⟨b1 + 1, x2, none⟩ (.int .i64 1)) = W2 at *
              have hk3 := nums_cell HU3.out hx3 hul
              rw [huu] at hk3
              have fr3 := HU3.out.frozenAt x3
              have HI4 := Lib.hid (HI3.out.setOther (p := ⟨b1 + 1 + 1, x3, none⟩) (by dsimp only; omega) (.int .i64 (uv + 1)))
              have HO4 := Lib.hid (HO3.out.setOther (p := ⟨b1 + 1 + 1, x3, none⟩) (by dsimp only; omega) (.int .i64 (uv + 1)))
              have HU4 := Lib.hid (nums_put HU3.out x3 (uv + 1))
              have HG4 := Lib.hid (HG3.out.setBelow (p := ⟨b1 + 1 + 1, x3, none⟩) (by dsimp only; omega) (.int .i64 (uv + 1)))
              have HB84 : Hid (Below b1 w5 (W2.setCell ⟨b1 + 1 + 1, x3, none⟩ (.int .i64 (uv + 1)))) := Lib.hid (HB83.out.setCell (p := ⟨b1 + 1 + 1, x3, none⟩) (by dsimp only; omega) _)
              have c31 := HG3.out.cellAt 1 (by decide)
              have c35 := HCF.out _ HB83.out
              have HSZ9 : Hid (b1 + 3 ≤ (W2.setCell ⟨b1 + 1 + 1, x3, none⟩ (.int .i64 (uv + 1))).heap.size) := Lib.hid (by rw [← hW2, ← hW1]; simp only [World.size_setCell]; exact HSZ8.out)
              have HUN := Lib.hid hUN
              simp at c10 c11 c12 c22 c31
              subst hW2
              subst hW1
              have a1 : decide ((P : Int) ≤ (x1 : Int)) = false := by simp; omega
              have a2 : decide (P ≤ x1) = false := by simp; omega
              have a3 : decide ((P : Int) ≤ (x2 : Int)) = false := by simp; omega
              have a4 : decide (P ≤ x2) = false := by simp; omega
              have a5 : decide ((tl : Int) ≤ (x3 : Int)) = false := by simp; omega
              have a6 : decide (tl ≤ x3) = false := by simp; omega
              clear hUN z1 z2 n1 n2 hul huv huu hti htf hto i0 i1 f0 f1 o0 o1 lI lO
              go_wp2
              go_roundw
              case rel => exact ⟨t + 1, _, by omega, by go_num, HI4, HO4, HU4, HUN, HB84, HSZ9, HG4⟩
              case measure => simp [intOf]; omega
            · have hte : t = r := by omega
              have HI2 : Hid (Own wr b1 3 1 (some ⟨b1, 0, none⟩) P P (nums .i64 (cntL P r gi [] (g + 1) 0))) := Lib.hid (by have h1 := HI.out; rw [hte, cnt_done (cnt := cnt) HLI.out HII.out HMI.out []] at h1; exact h1)
              have HO2 : Hid (Own wr b1 3 1 (some ⟨b1 + 1, 0, none⟩) P P (nums .i64 (cntL P r go [] (g + 1) 0))) := Lib.hid (by have h1 := HO.out; rw [hte, cnt_done (cnt := cnt) HLO.out HIO.out HMO.out []] at h1; exact h1)
              have HU2 : Hid (UsedI G r tl (g + 1) 0 u) := Lib.hid (by have h1 := HUT.out; rw [hte] at h1; exact h1.next)
              clear hte
              go_wp2
              subst hQ
              go_wp2
              go_roundw
              case rel => exact ⟨g + 1, u, by omega, by go_num, HI2, HO2, HU, HU2, HB8, HSZ8⟩
              case measure => simp [intOf]; omega
        · have hge : g = cnt := by omega
          have HI2 : Hid (Own wr b1 3 1 (some ⟨b1, 0, none⟩) P P (nums .i64 (onesL P))) := Lib.hid (by have h1 := HI.out; rw [hge, cnt_all [] HPK.out.gI] at h1; exact h1)
          have HO2 : Hid (Own wr b1 3 1 (some ⟨b1 + 1, 0, none⟩) P P (nums .i64 (onesL P))) := Lib.hid (by have h1 := HO.out; rw [hge, cnt_all [] HPK.out.gO] at h1; exact h1)
          have HUE : Hid (∀ f, f < tl → 1 ≤ u0.getD f 0) := Lib.hid fun f hf => by
            obtain ⟨g', t', h1, h2, h3⟩ := HPK.out.us f hf
            have h4 := HUS.out.met g' t' h2 (.inl (by omega))
            rw [h3, Int.toNat_natCast] at h4
            exact h4
          have HUL := Lib.hid HUS.out.len
          have HBB : Hid (Below w.heap.size w wr) := Lib.hid (blT HB6.out HB7'.out)
          obtain ⟨w6, hw6⟩ : ∃ w6, w6 = wr := ⟨_, rfl⟩
          rw [← hw6] at HI2 HO2 HU HBB
          rw [← hw6]
          clear hge HI HO HUS hw6 HB7 HB7'
          have HOL : Hid ((onesL P).length = P) := Lib.hid (by simp [onesL])
          go_wp2
          go_loopw [198] (fun q ws => ∃ v : Nat, v ≤ P ∧ q = .int .i64 v ∧ Hid (Below w6.heap.size w6 ws)) (fun q _ => P - (intOf q).toNat)
          case atStart => exact ⟨0, Nat.zero_le _, rfl, Lib.hid (Below.refl _ _)⟩
          case round =>
            obtain ⟨v, hv, rfl, HB9⟩ := hrel
            by_cases hvp : v < P
            · have hk1 := nums_cell (HI2.out.grown HB9.out) hvp HOL.out
              have hk2 := nums_cell (HO2.out.grown HB9.out) hvp HOL.out
              rw [ones_at hvp] at hk1 hk2
              go_wp2
              go_roundw
              case rel => exact ⟨v + 1, by omega, by go_num, HB9⟩
              case measure => simp [intOf]; omega
            · obtain ⟨w7, hw7⟩ : ∃ w7, w7 = wr := ⟨_, rfl⟩
              rw [← hw7] at HB9
              rw [← hw7]
              have HU3 := Lib.hid (HU.out.grown HB9.out)
              have HB10 := Lib.hid (blT HBB.out HB9.out)
              clear hw7
              go_wp2
              go_loopw [216] (fun q ws => ∃ f : Nat, f ≤ tl ∧ q = .int .i64 f ∧ Hid (Below w7.heap.size w7 ws)) (fun q _ => tl - (intOf q).toNat)
              case atStart => exact ⟨0, Nat.zero_le _, rfl, Lib.hid (Below.refl _ _)⟩
              case round =>
                obtain ⟨f, hf, rfl, HB11⟩ := hrel
                by_cases hft : f < tl
                · have hk1 := nums_cell (HU3.out.grown HB11.out) hft HUL.out
                  have hge1 := HUE.out f hft
                  generalize u0.getD f 0 = uv at *
                  have hd : decide (uv < 1) = false := by simp; omega
                  go_wp2
                  go_roundw
                  case rel => exact ⟨f + 1, by omega, by go_num, HB11⟩
                  case measure => simp [intOf]; omega
                · go_wp2
                  go_ret
                  exact ⟨rfl, blT HB10.out HB11.out⟩
end Go.Proofs.YtohcoidbncbijaaDoor.P
