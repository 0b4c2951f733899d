
/- The contract of brackenref09's Weight. Conditions: words of their kinds; slices read as lists. -/
import Derived.Test.YtnlmmgcjhedjkaaDoorR9a
namespace Go.Proofs.YtnlmmgcjhedjkaaDoor.P
open Go.RowKit
set_option linter.unusedVariables false
set_option linter.unusedSimpArgs false
theorem unit_in {p : Int} (hk : knownS p = true) (D j : Nat) : inS p ((List.replicate D (0 : Int)).set j 1) = true := by
  have h1 := known_pos hk
  unfold inS
  rw [hk, Bool.and_true, List.all_eq_true]
  intro d hd
  have h2 := List.mem_or_eq_of_mem_set hd
  rcases h2 with h2 | h2
  · have h3 := List.eq_of_mem_replicate h2
    rw [h3]; simp; omega
  · rw [h2]; simp; omega
theorem unit_u64 (D j : Nat) : ∀ d ∈ (List.replicate D (0 : Int)).set j 1, U64 d := by
  intro d hd
  rcases List.mem_or_eq_of_mem_set hd with h2 | h2
  · rw [List.eq_of_mem_replicate h2]; exact ⟨by decide, by decide⟩
  · rw [h2]; exact ⟨by decide, by decide⟩
set_option maxRecDepth 100000 in
set_option maxHeartbeats 4000000 in
theorem rwgt9_calls (p a0 : Int) (a1 inv : Bool) (i z : Int) (w : World) (hp : U64 p) (ha : i64 a0) (hi : i64 i) (hz : U64 z) :
    Calls Tryd.prog 58 #[.int .u64 p, .agg #[.int .i64 a0, .bool a1], .bool inv, .int .i64 i, .int .u64 z] w fun e w' =>
      e = .returned (.tuple #[.int .u64 (wgtS p (a0, a1) inv i z).1, .int .i64 (wgtS p (a0, a1) inv i z).2]) ∧ Below w.heap.size w w' := by
  have HP := Lib.hid hp
  have HZ := Lib.hid hz
  have HAI : Hid (∀ a ∈ ([(a0, a1)] : List (Int × Bool)), i64 a.1) := Lib.hid (by
    intro a h
    simp only [List.mem_singleton] at h
    subst h
    exact ha)
  clear hp hz
  have hb0 : Below w.heap.size w (w.alloc (.cells #[.int .i64 a0, .bool a1] 64)) := (Below.refl _ _).alloc (Nat.le_refl _) _
  have hc0 : (w.alloc (.cells #[.int .i64 a0, .bool a1] 64)).cell? ⟨w.heap.size, 0, none⟩ = some (.int .i64 a0) := World.news_of_block (cs := #[.int .i64 a0, .bool a1]) (t := 64) (fr := (0, 0)) (heap_alloc_new w _) 0 _ rfl
  have hc1 : (w.alloc (.cells #[.int .i64 a0, .bool a1] 64)).cell? ⟨w.heap.size, 1, none⟩ = some (.bool a1) := World.news_of_block (cs := #[.int .i64 a0, .bool a1]) (t := 64) (fr := (0, 0)) (heap_alloc_new w _) 1 _ rfl
  have hlt : w.heap.size < (w.alloc (.cells #[.int .i64 a0, .bool a1] 64)).heap.size := by simp
  obtain ⟨KB, hKB⟩ : ∃ KB : World → Prop, KB = fun ws => Below w.heap.size w ws ∧ ws.cell? ⟨w.heap.size, 0, none⟩ = some (.int .i64 a0) ∧ ws.cell? ⟨w.heap.size, 1, none⟩ = some (.bool a1) ∧ w.heap.size < ws.heap.size := ⟨_, rfl⟩
  have HK0 : Hid (KB (w.alloc (.cells #[.int .i64 a0, .bool a1] 64))) := Lib.hid (by rw [hKB]; exact ⟨hb0, hc0, hc1, hlt⟩)
  have HKW : Hid (∀ ws, KB ws → Below w.heap.size w ws) := Lib.hid fun ws h => by rw [hKB] at h; exact h.1
  have HKC : Hid (∀ ws, KB ws → ws.cell? ⟨w.heap.size, 0, none⟩ = some (.int .i64 a0)) := Lib.hid fun ws h => by rw [hKB] at h; exact h.2.1
  have HKD : Hid (∀ ws, KB ws → ws.cell? ⟨w.heap.size, 1, none⟩ = some (.bool a1)) := Lib.hid fun ws h => by rw [hKB] at h; exact h.2.2.1
  have HKN : Hid (∀ ws ws', KB ws → Below ws.heap.size ws ws' → KB ws') := Lib.hid fun ws ws' h hb => by
    rw [hKB] at h ⊢
    obtain ⟨h1, h2, h3, h4⟩ := h
    exact ⟨h1.trans (hb.mono (Nat.le_of_lt h4)), (hb.cell h4).trans h2, (hb.cell h4).trans h3, Nat.lt_of_lt_of_le h4 hb.size⟩
  clear hb0 hc0 hc1 hlt hKB
  by_cases hc : chk7 p [(a0, a1)] = 0
  case neg =>
    have HF : Hid (wgtS p (a0, a1) inv i z = (0, chk7 p [(a0, a1)])) := Lib.hid (by rw [wgtS, if_neg hc])
    have t0 : (chk7 p [(a0, a1)] != 0) = true := by simpa using hc
    rw [HF.out]
    clear hc
    go_enter Tryd.func58, Tryd.ntmps58
    go_wp2_with fail
    generalize hV : (w.alloc (.cells #[.int .i64 a0, .bool a1] 64)) = V at *
    have HK1 : Hid (KB (V.alloc (.cells #[.int .i64 a0, .bool a1] 64))) := Lib.hid (HKN.out _ _ HK0.out ((Below.refl _ _).alloc (Nat.le_refl _) _))
    have hr1 : Row (V.alloc (.cells #[.int .i64 a0, .bool a1] 64)) (some ⟨V.heap.size, 0, none⟩) (axR [(a0, a1)]) := row_new V [.int .i64 a0, .bool a1] 64
    rw [show V.heap.size = w.heap.size + 1 by rw [← hV]; simp] at hr1
    clear hV
    generalize (V.alloc (.cells #[.int .i64 a0, .bool a1] 64)) = W at *
    refine (rchk7_calls p _ _ 1 [(a0, a1)] _ rfl HP.out hr1 (by decide) HAI.out).mono ?_
    clear hr1
    rintro e w2 ⟨rfl, hb⟩
    have HK2 := Lib.hid (HKN.out _ _ HK1.out hb)
    clear hb
    go_wp2
    go_ret2
    exact ⟨rfl, HKW.out _ HK2.out⟩
  have HC := Lib.hid hc
  obtain ⟨hC6, ha1, ha4⟩ := chk7_one hc
  by_cases hin : 0 ≤ i ∧ i < a0
  case neg =>
    have HF : Hid (wgtS p (a0, a1) inv i z = (0, 1)) := Lib.hid (by rw [wgtS, if_pos hc, if_neg hin])
    rw [HF.out]
    by_cases h0 : i < 0
    case' pos =>
      have f0 : decide (i < 0) = true := by simp; omega
    case' neg =>
      have f0 : decide (i < 0) = false := by simp; omega
      have f1 : decide (a0 ≤ i) = true := by simp; omega
    all_goals
      clear hc h0 hin ha1 ha4 hC6
      go_enter Tryd.func58, Tryd.ntmps58
      go_wp2_with fail
      generalize hV : (w.alloc (.cells #[.int .i64 a0, .bool a1] 64)) = V at *
      have HK1 : Hid (KB (V.alloc (.cells #[.int .i64 a0, .bool a1] 64))) := Lib.hid (HKN.out _ _ HK0.out ((Below.refl _ _).alloc (Nat.le_refl _) _))
      have hr1 : Row (V.alloc (.cells #[.int .i64 a0, .bool a1] 64)) (some ⟨V.heap.size, 0, none⟩) (axR [(a0, a1)]) := row_new V [.int .i64 a0, .bool a1] 64
      rw [show V.heap.size = w.heap.size + 1 by rw [← hV]; simp] at hr1
      clear hV
      generalize (V.alloc (.cells #[.int .i64 a0, .bool a1] 64)) = W at *
      refine (rchk7_calls p _ _ 1 [(a0, a1)] _ rfl HP.out hr1 (by decide) HAI.out).mono ?_
      clear hr1
      rw [HC.out]
      rintro e w2 ⟨rfl, hb⟩
      have HK2 := Lib.hid (HKN.out _ _ HK1.out hb)
      clear hb
      have hk0 := HKC.out _ HK2.out
      go_wp2
      go_ret2
      exact ⟨rfl, HKW.out _ HK2.out⟩
  obtain ⟨i0, i1⟩ := hin
  obtain ⟨j, rfl⟩ := Int.eq_ofNat_of_zero_le i0
  obtain ⟨D, rfl⟩ := Int.eq_ofNat_of_zero_le (show 0 ≤ a0 by omega)
  dsimp only at hC6 ha1 ha4
  rw [Int.toNat_natCast] at hC6
  have hjD : j < D := by omega
  have HF : Hid (wgtS p ((D : Int), a1) inv (j : Int) z = (wghV p D a1 inv j z, 0)) := Lib.hid (by
    rw [wgtS, if_pos hc, if_pos ⟨i0, i1⟩, Int.toNat_natCast, Int.toNat_natCast])
  have f0 : decide ((j : Int) < 0) = false := by simp
  have f1 : decide ((D : Int) ≤ (j : Int)) = false := by simp; omega
  have hC7 := chk7_ok hc
  have HUN : Hid (evalG p z (grN p [((D : Int), a1)] inv ((List.replicate D 0).set j 1) 1) = wghV p D a1 inv j z) := Lib.hid (by
    have h1 := wgt_unit hC7 inv (i := j) (by dsimp only; omega) z
    dsimp only at h1
    rw [Int.toNat_natCast] at h1
    exact h1)
  have hkn := hC7.known
  have hxl : ((List.replicate D (0 : Int)).set j 1).length = D := by simp
  have HXL := Lib.hid hxl
  have hwd : wrd7 p [((D : Int), a1)] ((List.replicate D (0 : Int)).set j 1) = 0 := hC7.words (by rw [hxl, show dimsA [((D : Int), a1)] = [(D : Int)] from rfl]; simp [prodL]) (unit_in hkn D j)
  have HXU := Lib.hid (unit_u64 D j)
  have HGS : Hid (grS p [((D : Int), a1)] inv ((List.replicate D (0 : Int)).set j 1) = (grN p [((D : Int), a1)] inv ((List.replicate D (0 : Int)).set j 1) 1, 0)) := Lib.hid (by rw [grS, if_pos hwd]; rfl)
  have HGL : Hid ((grN p [((D : Int), a1)] inv ((List.replicate D (0 : Int)).set j 1) 1).length = D) := Lib.hid (by rw [grN_length]; exact hxl)
  have HGU := Lib.hid (grN_u64 p [((D : Int), a1)] inv (unit_u64 D j) 1)
  have HEV : Hid (evalS p z (grN p [((D : Int), a1)] inv ((List.replicate D (0 : Int)).set j 1) 1) = (wghV p D a1 inv j z, 0)) := Lib.hid (by rw [← HUN.out]; exact evalS_ok hkn (by rw [HGL.out]; omega))
  have HNR : Hid (nums .u64 ((List.replicate D (0 : Int)).set j 1) = (nums .u64 (List.replicate D 0)).set j (.int .u64 1)) := Lib.hid (nums_set _ _ _ _).symm
  have hmk := make_u64 D (by omega)
  have hD4 : D ≤ 9223372036854775807 := by omega
  clear hc hC6 ha1 ha4 i0 i1 hkn hC7 hxl hwd HUN
  generalize grN p [((D : Int), a1)] inv ((List.replicate D (0 : Int)).set j 1) 1 = gg at *
  have HGF : Hid (((gg, (0 : Int)).1).length = D) := Lib.hid HGL.out
  rw [HF.out]
  go_enter Tryd.func58, Tryd.ntmps58
  go_wp2_with fail
  generalize hV : (w.alloc (.cells #[.int .i64 (D : Int), .bool a1] 64)) = V at *
  have HK1 : Hid (KB (V.alloc (.cells #[.int .i64 (D : Int), .bool a1] 64))) := Lib.hid (HKN.out _ _ HK0.out ((Below.refl _ _).alloc (Nat.le_refl _) _))
  have hr1 : Row (V.alloc (.cells #[.int .i64 (D : Int), .bool a1] 64)) (some ⟨V.heap.size, 0, none⟩) (axR [((D : Int), a1)]) := row_new V [.int .i64 (D : Int), .bool a1] 64
  rw [show V.heap.size = w.heap.size + 1 by rw [← hV]; simp] at hr1
  clear hV
  generalize (V.alloc (.cells #[.int .i64 (D : Int), .bool a1] 64)) = W at *
  refine (rchk7_calls p _ _ 1 [((D : Int), a1)] _ rfl HP.out hr1 (by decide) HAI.out).mono ?_
  clear hr1
  rw [HC.out]
  rintro e w2 ⟨rfl, hb⟩
  have HK2 := Lib.hid (HKN.out _ _ HK1.out hb)
  clear hb
  have hk0 := HKC.out _ HK2.out
  have hMM : (madeCells #[.int .u64 0] D).setIfInBounds j (.int .u64 1) = (nums .u64 ((List.replicate D (0 : Int)).set j 1)).toArray := by
    apply Array.toList_inj.1
    rw [Array.toList_setIfInBounds, toList_madeCells_one, nums_replicate, nums_set]
  have hrx0 : Row (w2.alloc (.cells ((madeCells #[.int .u64 0] D).setIfInBounds j (.int .u64 1)) 40)) (some ⟨w2.heap.size, 0, none⟩) (nums .u64 ((List.replicate D (0 : Int)).set j 1)) := by
    rw [hMM]; exact row_new w2 _ _
  have HK3 := Lib.hid (HKN.out _ _ HK2.out ((Below.refl _ _).alloc (Nat.le_refl _) (.cells ((madeCells #[.int .u64 0] D).setIfInBounds j (.int .u64 1)) 40)))
  have hk3 := HKC.out _ HK3.out
  have hk4 := HKD.out _ HK3.out
  have HRX0 := Lib.hid hrx0
  have hown := own_made w2 w2.heap.size 40 (.int .u64 0) D (Nat.le_refl _) (by omega)
  have hco : (w2.alloc (.cells (madeCells #[.int .u64 0] D) 40)).cell? ⟨w2.heap.size, j, none⟩ = some (.int .u64 0) := by
    rw [hown.cellAt j hjD]; simp [hjD]
  have hfz : (w2.alloc (.cells (madeCells #[.int .u64 0] D) 40)).frozen? ⟨w2.heap.size, j, none⟩ = false := hown.frozenAt j
  clear hMM hrx0 hown
  go_wp2_with fail
  clear hco hfz
  have hms : (w2.alloc (.cells ((madeCells #[.int .u64 0] D).setIfInBounds j (.int .u64 1)) 40)).heap.size = w2.heap.size + 1 := by simp
  generalize (w2.alloc (.cells ((madeCells #[.int .u64 0] D).setIfInBounds j (.int .u64 1)) 40)) = N3 at *
  have hr3 : Row (N3.alloc (.cells #[.int .i64 (D : Int), .bool a1] 64)) (some ⟨N3.heap.size, 0, none⟩) (axR [((D : Int), a1)]) := row_new N3 [.int .i64 (D : Int), .bool a1] 64
  have hrx : Row (N3.alloc (.cells #[.int .i64 (D : Int), .bool a1] 64)) (some ⟨w2.heap.size, 0, none⟩) (nums .u64 ((List.replicate D (0 : Int)).set j 1)) := HRX0.out.alloc _
  have HK4 := Lib.hid (HKN.out _ _ HK3.out ((Below.refl _ _).alloc (Nat.le_refl _) (.cells #[.int .i64 (D : Int), .bool a1] 64)))
  rw [hms] at hr3
  refine (rdo7_calls p _ _ 1 [((D : Int), a1)] inv _ _ D _ _ rfl HXL.out HP.out hr3 (by decide) HAI.out hrx hD4 HXU.out).mono ?_
  clear hr3 hrx hk0 hk3 hk4 hms
  rw [HGS.out, HGF.out]
  rintro e w5 ⟨Z, z5, rfl, ho, hb⟩
  have HK5 := Lib.hid (HKN.out _ _ HK4.out hb)
  have HRZ := Lib.hid ho.row
  clear ho hb
  go_wp2_with fail
  refine (r08_eval p z _ _ _ gg _ HGL.out HP.out HZ.out HRZ.out hD4 HGU.out).mono ?_
  rw [HEV.out]
  rintro e w6 ⟨rfl, ⟨q6, rfl⟩⟩
  have HK6 := Lib.hid (HKN.out _ _ HK5.out (below_drewN (Below.refl _ _) q6))
  go_wp2
  go_ret2
  exact ⟨rfl, HKW.out _ HK6.out⟩
end Go.Proofs.YtnlmmgcjhedjkaaDoor.P
