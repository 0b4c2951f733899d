
/- The law StepTells, walked. Conditions: words of their kinds; slices read as lists; the library's table lies as it was laid. -/
import Derived.Test.YtohcoidbncbijaaDoorRgQ
import Derived.Test.YtohcoidbncbijaaDoorRtA
import Derived.Test.YtohcoidbncbijaaDoorStL
import Derived.Test.YtohcoidbncbijaaDoorStU
import Derived.Test.YtohcoidbncbijaaDoorGrF
import Derived.Test.YtohcoidbncbijaaDoorRound3
namespace Go.Proofs.YtohcoidbncbijaaDoor.P
open Go.RowKit
set_option linter.unusedVariables false
set_option linter.unusedSimpArgs false
set_option maxRecDepth 100000 in
set_option maxHeartbeats 4000000 in
theorem stepTells_walk (p : Int) (A : Option Addr) (ca : Nat) (ax : List (Int × Bool)) (inv : Bool) (s : Stp) (w : World) (hp : U64 p) (hr : Row w A (axR ax)) (hla : ax.length * 16 ≤ 140737488351232) (hcap : ax.length ≤ ca) (hwa : ∀ a ∈ ax, (Lit.int .i64 a.1).wf = true) (hs0 : i64 s.1) (hs2 : i64 s.2.2.1) (hs3 : i64 s.2.2.2.1) (hs4 : i64 s.2.2.2.2) (hT : Tab w) :
    Calls Tryd.prog 12 #[.int .u64 p, .slice A ax.length ca, .bool inv, .agg #[.int .i64 s.1, .bool s.2.1, .int .i64 s.2.2.1, .int .i64 s.2.2.2.1, .int .i64 s.2.2.2.2]] w fun e w' => e = .returned (.bool true) ∧ Below w.heap.size w w' := by
  obtain ⟨s0, s1, s2, s3, s4⟩ := s
  dsimp only at *
  have HP := Lib.hid hp
  have HR := Lib.hid hr
  have HT := Lib.hid hT
  have HW : Hid (∀ a ∈ ax, i64 a.1) := Lib.hid fun a ha => i64_wf (hwa a ha)
  clear hp hr hT hwa
  generalize hn : ax.length = n at *
  have HN := Lib.hid hn
  have HL : Hid (n ≤ 8796093022208) := Lib.hid (by omega)
  clear hn hla hcap
  have hbA : Below w.heap.size w (w.alloc (.cells #[.int .i64 s0, .bool s1, .int .i64 s2, .int .i64 s3, .int .i64 s4] 39)) := (Below.refl _ _).alloc (Nat.le_refl _) _
  have HBX : Hid (Row (w.alloc (.cells #[.int .i64 s0, .bool s1, .int .i64 s2, .int .i64 s3, .int .i64 s4] 39)) (some ⟨w.heap.size, 0, none⟩) [.int .i64 s0, .bool s1, .int .i64 s2, .int .i64 s3, .int .i64 s4]) := Lib.hid (row_new w [.int .i64 s0, .bool s1, .int .i64 s2, .int .i64 s3, .int .i64 s4] _)
  have HBA := Lib.hid hbA
  have HTA := Lib.hid (HT.out.below hbA)
  clear hbA
  go_enter Tryd.func12, Tryd.ntmps12
  go_wp2_with fail
  generalize (w.alloc (.cells #[.int .i64 s0, .bool s1, .int .i64 s2, .int .i64 s3, .int .i64 s4] 39)) = V at *
  refine (live16_calls V HTA.out).mono ?_
  rintro e w1 ⟨rfl, hb1⟩
  have HB1 := Lib.hid (blT HBA.out hb1)
  have HBX1 := Lib.hid (HBX.out.below hb1)
  clear hb1 HBX HBA HTA
  go_wp2_with fail
  refine (few7_calls _ _ _ ax _ _ HN.out (HR.out.below HB1.out) HL.out HW.out).mono ?_
  rintro e w2 ⟨r, rfl, hb⟩
  have HB2 := Lib.hid (blT HB1.out hb)
  have HBX2 := Lib.hid (HBX1.out.below hb)
  clear hb HB1 HBX1
  cases r
  case false =>
    go_wp2
    go_ret
    exact ⟨rfl, HB2.out⟩
  have b0 : w2.cell? ⟨w.heap.size, 0, none⟩ = some (.int .i64 s0) := HBX2.out.cell (i := 0) rfl
  have b1 : w2.cell? ⟨w.heap.size, 1, none⟩ = some (.bool s1) := HBX2.out.cell (i := 1) rfl
  have b2 : w2.cell? ⟨w.heap.size, 2, none⟩ = some (.int .i64 s2) := HBX2.out.cell (i := 2) rfl
  have b3 : w2.cell? ⟨w.heap.size, 3, none⟩ = some (.int .i64 s3) := HBX2.out.cell (i := 3) rfl
  have b4 : w2.cell? ⟨w.heap.size, 4, none⟩ = some (.int .i64 s4) := HBX2.out.cell (i := 4) rfl
  obtain ⟨ta, et, hta⟩ : ∃ ta et, tabS p ax inv (s0, s1, s2, s3, s4) = (ta, et) := ⟨_, _, rfl⟩
  have hu : ∀ d ∈ ta, U64 d := by
    intro d hd
    have h1 : d ∈ (tabS p ax inv (s0, s1, s2, s3, s4)).1 := by rw [hta]; exact hd
    unfold tabS at h1
    split at h1
    · exact tabL_u64 _ _ _ _ _ d h1
    · simp at h1
  have hl9 : ta.length ≤ 100000 := by
    have h1 : (tabS p ax inv (s0, s1, s2, s3, s4)).1.length ≤ 100000 := by
      by_cases hc : chk16 p ax (s0, s1, s2, s3, s4) = 0
      · obtain ⟨k, N, neg, hK⟩ := chk16_ok hc
        have hsk := hK.axis
        dsimp only at hsk
        subst hsk
        have h2 : tabS p ax inv ((k : Int), s1, s2, s3, s4) = (tabL p N neg inv ((k : Int), s1, s2, s3, s4), 0) := by
          rw [tabS, if_pos hc]
          dsimp only
          rw [Int.toNat_natCast, hK.get, hK.dim, Int.toNat_natCast]
        rw [h2]
        have h3 := tabL_len hK inv
        have h4 := hK.c6.n2
        dsimp only at h3 ⊢
        omega
      · rw [tabS, if_neg hc]; simp
    rw [hta] at h1
    exact h1
  have HTA := Lib.hid hta
  clear hta hu
  generalize hlt : ta.length = tl at *
  have HTL := Lib.hid hlt
  have HLL : Hid ((((ta, et) : List Int × Int).1).length = tl) := Lib.hid hlt
  clear hlt
  go_wp2_with fail
  refine (stab_calls p A _ n ax inv s0 s1 s2 s3 s4 w2 HN.out HP.out (HR.out.below HB2.out) HL.out HW.out (HT.out.below HB2.out)).mono ?_
  rw [HTA.out, HLL.out]
  rintro e w3 ⟨B, b, rfl, ho, hb⟩
  have HB3 := Lib.hid (blT HB2.out hb)
  have HBX3 := Lib.hid (HBX2.out.below hb)
  have HT3 := Lib.hid ho.row
  clear ho hb b0 b1 b2 b3 b4
  dsimp only
  have b0 : w3.cell? ⟨w.heap.size, 0, none⟩ = some (.int .i64 s0) := HBX3.out.cell (i := 0) rfl
  have b1 : w3.cell? ⟨w.heap.size, 1, none⟩ = some (.bool s1) := HBX3.out.cell (i := 1) rfl
  have b2 : w3.cell? ⟨w.heap.size, 2, none⟩ = some (.int .i64 s2) := HBX3.out.cell (i := 2) rfl
  have b3 : w3.cell? ⟨w.heap.size, 3, none⟩ = some (.int .i64 s3) := HBX3.out.cell (i := 3) rfl
  have b4 : w3.cell? ⟨w.heap.size, 4, none⟩ = some (.int .i64 s4) := HBX3.out.cell (i := 4) rfl
  go_wp2_with fail
  refine (rtab_calls p A _ n ax inv s0 s1 s2 s3 s4 w3 HN.out HP.out (HR.out.below HB3.out) HL.out HW.out).mono ?_
  rw [HTA.out, HLL.out]
  rintro e w4 ⟨C, c, rfl, ho, hb⟩
  have HB4 := Lib.hid (blT HB3.out hb)
  have HBX4 := Lib.hid (HBX3.out.below hb)
  have HT4 := Lib.hid (HT3.out.below hb)
  have HU4 := Lib.hid ho.row
  clear ho hb b0 b1 b2 b3 b4
  dsimp only at HT4 HU4 ⊢
  have b0 : w4.cell? ⟨w.heap.size, 0, none⟩ = some (.int .i64 s0) := HBX4.out.cell (i := 0) rfl
  have b1 : w4.cell? ⟨w.heap.size, 1, none⟩ = some (.bool s1) := HBX4.out.cell (i := 1) rfl
  have b2 : w4.cell? ⟨w.heap.size, 2, none⟩ = some (.int .i64 s2) := HBX4.out.cell (i := 2) rfl
  have b3 : w4.cell? ⟨w.heap.size, 3, none⟩ = some (.int .i64 s3) := HBX4.out.cell (i := 3) rfl
  have b4 : w4.cell? ⟨w.heap.size, 4, none⟩ = some (.int .i64 s4) := HBX4.out.cell (i := 4) rfl
  by_cases hc : chk16 p ax (s0, s1, s2, s3, s4) = 0
  case neg =>
    have HCC := Lib.hid hc
    clear hc
    go_wp2_with fail
    refine (sgroups_no p A _ n ax s0 s1 s2 s3 s4 w4 HN.out HP.out (HR.out.below HB4.out) HL.out HW.out (HT.out.below HB4.out) HCC.out).mono ?_
    rintro e w5 ⟨rfl, hb⟩
    have HB5 := Lib.hid (blT HB4.out hb)
    have HBX5 := Lib.hid (HBX4.out.below hb)
    have HT5 := Lib.hid (HT4.out.below hb)
    have HU5 := Lib.hid (HU4.out.below hb)
    clear hb b0 b1 b2 b3 b4
    have b0 : w5.cell? ⟨w.heap.size, 0, none⟩ = some (.int .i64 s0) := HBX5.out.cell (i := 0) rfl
    have b1 : w5.cell? ⟨w.heap.size, 1, none⟩ = some (.bool s1) := HBX5.out.cell (i := 1) rfl
    have b2 : w5.cell? ⟨w.heap.size, 2, none⟩ = some (.int .i64 s2) := HBX5.out.cell (i := 2) rfl
    have b3 : w5.cell? ⟨w.heap.size, 3, none⟩ = some (.int .i64 s3) := HBX5.out.cell (i := 3) rfl
    have b4 : w5.cell? ⟨w.heap.size, 4, none⟩ = some (.int .i64 s4) := HBX5.out.cell (i := 4) rfl
    go_wp2_with fail
    refine (r16grp_no p A _ n ax s0 s1 s2 s3 s4 w5 HN.out HP.out (HR.out.below HB5.out) HL.out HW.out HCC.out).mono ?_
    rintro e w6 ⟨rfl, hb⟩
    have HB6 := Lib.hid (blT HB5.out hb)
    have HT6 := Lib.hid (HT5.out.below hb)
    have HU6 := Lib.hid (HU5.out.below hb)
    clear hb b0 b1 b2 b3 b4
    go_wp2_with fail
    refine (same_n B C _ _ tl tl ta ta w6 HTL.out HTL.out HT6.out (by omega) HU6.out).mono ?_
    rw [show decide (ta = ta) = true from decide_eq_true rfl]
    rintro e w7 ⟨rfl, ⟨q7, rfl⟩⟩
    have HB7 := Lib.hid (below_drewN HB6.out q7)
    go_wp2_with fail
    refine (same16_calls none none 0 0 0 0 [] [] (fun _ => ([], [], [])) _ (by decide) (.inl rfl) (.inl rfl) rfl rfl (fun i hi => by omega) (by decide) (fun i h => by simp at h) (fun i h => by simp at h)).mono ?_
    rintro e w8 ⟨rfl, ⟨q8, rfl⟩⟩
    have HB8 := Lib.hid (below_drewN HB7.out q8)
    go_wp2
    go_ret
    exact ⟨by first | rfl | (simp; done), by rw [← World.drewN_drewN]; exact HB8.out⟩
  obtain ⟨k, N, neg, hK⟩ := chk16_ok hc
  have hsk := hK.axis
  dsimp only at hsk
  subst hsk
  have HCC := Lib.hid hc
  have HKK := Lib.hid hK
  have hcn := grpC_small hK
  dsimp only at hcn
  have HLEN := Lib.hid (fun i => grpG_len (dimsA ax) k s1 s2.toNat s3.toNat s4.toNat i)
  have hr9 : grpR s1 s2.toNat ≤ 100000 := by
    rcases hK.kind with ⟨ht, hz⟩ | ⟨ht, hz⟩
    · dsimp only at ht; rw [ht]; unfold grpR; simp
    · obtain ⟨R, L, M, hs, hS⟩ := stg_mem hK.c6.smooth hz
      simp only [Prod.mk.injEq] at hs
      obtain ⟨rfl, rfl, rfl⟩ := hs
      dsimp only at ht
      rw [ht]
      unfold grpR
      have h1 := hS.r5
      simp
      omega
  have HR9 := Lib.hid hr9
  have HCN := Lib.hid hcn
  clear hc hK hr9 hcn
  go_wp2_with fail
  refine (sgrp_yes p A _ n ax k s1 s2 s3 s4 N neg w4 HN.out HP.out (HR.out.below HB4.out) HL.out HW.out (HT.out.below HB4.out) HCC.out HKK.out).mono ?_
  rintro e w5 ⟨Z1, z1, hs1, rfl, hz1, hl1, hg1, hb⟩
  have HB5 := Lib.hid (blT HB4.out hb)
  have HBX5 := Lib.hid (HBX4.out.below hb)
  have HT5 := Lib.hid (HT4.out.below hb)
  have HU5 := Lib.hid (HU4.out.below hb)
  have HZ5 := Lib.hid hz1
  have HL5 := Lib.hid hl1
  have HG5 := Lib.hid hg1
  clear hb b0 b1 b2 b3 b4 hz1 hl1 hg1
  have b0 : w5.cell? ⟨w.heap.size, 0, none⟩ = some (.int .i64 (k : Int)) := HBX5.out.cell (i := 0) rfl
  have b1 : w5.cell? ⟨w.heap.size, 1, none⟩ = some (.bool s1) := HBX5.out.cell (i := 1) rfl
  have b2 : w5.cell? ⟨w.heap.size, 2, none⟩ = some (.int .i64 s2) := HBX5.out.cell (i := 2) rfl
  have b3 : w5.cell? ⟨w.heap.size, 3, none⟩ = some (.int .i64 s3) := HBX5.out.cell (i := 3) rfl
  have b4 : w5.cell? ⟨w.heap.size, 4, none⟩ = some (.int .i64 s4) := HBX5.out.cell (i := 4) rfl
  go_wp2_with fail
  refine (r16grp_yes p A _ n ax k s1 s2 s3 s4 N neg w5 HN.out HP.out (HR.out.below HB5.out) HL.out HW.out HCC.out HKK.out).mono ?_
  rintro e w6 ⟨Z2, z2, hs2, rfl, hz2, hl2, hg2, hb⟩
  have HB6 := Lib.hid (blT HB5.out hb)
  have HT6 := Lib.hid (HT5.out.below hb)
  have HU6 := Lib.hid (HU5.out.below hb)
  have HZ6 := Lib.hid (HZ5.out.below hb)
  have HG6 : Hid (∀ i (h : i < hs1.length), Row w6 hs1[i].A (nums .i64 (grpG (dimsA ax) k s1 s2.toNat s3.toNat s4.toNat i).1) ∧ Row w6 hs1[i].B (nums .i64 (grpG (dimsA ax) k s1 s2.toNat s3.toNat s4.toNat i).2.1) ∧ Row w6 hs1[i].C (nums .i64 (grpG (dimsA ax) k s1 s2.toNat s3.toNat s4.toNat i).2.2)) := Lib.hid fun i h => by
    obtain ⟨q1, q2, q3⟩ := HG5.out i h
    exact ⟨q1.below hb, q2.below hb, q3.below hb⟩
  have HY6 := Lib.hid hz2
  have HM6 := Lib.hid hl2
  have HH6 := Lib.hid hg2
  clear hb b0 b1 b2 b3 b4 hz2 hl2 hg2
  go_wp2_with fail
  refine (same_n B C _ _ tl tl ta ta w6 HTL.out HTL.out HT6.out (by omega) HU6.out).mono ?_
  rw [show decide (ta = ta) = true from decide_eq_true rfl]
  rintro e w7 ⟨rfl, ⟨q7, rfl⟩⟩
  have HB7 := Lib.hid (below_drewN HB6.out q7)
  have HKE : Hid (∀ A cs, Row w6 A cs → Row (w6.drewN q7) A cs) := Lib.hid fun A cs h => h.drewN q7
  go_wp2_with fail
  refine (same16_calls Z1 Z2 z1 z2 _ _ hs1 hs2 (grpG (dimsA ax) k s1 s2.toNat s3.toNat s4.toNat) _ (Nat.le_trans HCN.out (by decide)) (HKE.out _ _ HZ6.out) (HKE.out _ _ HY6.out) HL5.out HM6.out (fun i _ => HLEN.out i) HR9.out
    (fun i h => by obtain ⟨q1, q2, q3⟩ := HG6.out i h; exact ⟨HKE.out _ _ q1, HKE.out _ _ q2, HKE.out _ _ q3⟩) (fun i h => by obtain ⟨q1, q2, q3⟩ := HH6.out i h; exact ⟨HKE.out _ _ q1, HKE.out _ _ q2, HKE.out _ _ q3⟩)).mono ?_
  rintro e w8 ⟨rfl, ⟨q8, rfl⟩⟩
  have HB8 := Lib.hid (below_drewN HB7.out q8)
  go_wp2
  go_ret
  exact ⟨by first | rfl | (simp; done), by rw [← World.drewN_drewN]; exact HB8.out⟩
end Go.Proofs.YtohcoidbncbijaaDoor.P
