
/- The contract of plan.Steps. Conditions: words of their kinds; the slice reads as a list of axes; the library's table lies as it was laid. -/
import Derived.Test.YtohcoidbncbijaaDoorPlF
import Derived.Test.YtohcoidbncbijaaDoorGrC
import Derived.Test.YtohcoidbncbijaaDoorFac4
namespace Go.Proofs.YtohcoidbncbijaaDoor.P
open Go.RowKit
set_option linter.unusedVariables false
set_option linter.unusedSimpArgs false
set_option maxRecDepth 100000 in
set_option maxHeartbeats 4000000 in
theorem psteps_calls (p : Int) (A : Option Addr) (c n : Nat) (ax : List (Int × Bool)) (inv : Bool) (w : World) (hn : ax.length = n) (hp : U64 p) (hr : Row w A (axR ax)) (hl : n ≤ 8796093022208) (hw : ∀ a ∈ ax, i64 a.1) (hT : Tab w) :
    Calls Tryd.prog 22 #[.int .u64 p, .slice A n c, .bool inv] w fun e w' => ∃ B b,
      e = .returned (.tuple #[.slice B (stepsS p ax inv).1.length b, .int .i64 (stepsS p ax inv).2]) ∧ Own w' w.heap.size 39 5 B (stepsS p ax inv).1.length b (spR (stepsS p ax inv).1) ∧ Below w.heap.size w w' := by
  have HP := Lib.hid hp
  have HR := Lib.hid hr
  have HN := Lib.hid hn
  have HW := Lib.hid hw
  have HT := Lib.hid hT
  by_cases hc : chk7 p ax = 0
  case neg =>
    have HF : Hid (stepsS p ax inv = ([], chk7 p ax)) := Lib.hid (by rw [stepsS, if_neg hc])
    have t0 : (chk7 p ax != 0) = true := by simpa using hc
    rw [HF.out]
    clear hc hp hr hn hw hT
    go_enter Tryd.func22, Tryd.ntmps22
    go_wp2_with fail
    refine (chk7_calls _ _ _ _ _ _ HN.out HP.out HR.out hl HW.out HT.out).mono ?_
    rintro e w1 ⟨rfl, hb⟩
    have HB := Lib.hid hb
    clear hb
    go_wp2
    go_ret2
    exact ⟨none, 0, rfl, Own.nil _ _ _ _, HB.out⟩
  have HC := Lib.hid hc
  have hk7 := chk7_ok hc
  have HF : Hid (stepsS p ax inv = (stepsN ax inv n, 0)) := Lib.hid (by rw [stepsS, if_pos hc, hn])
  have hn4 : n ≤ 4 := by have h1 := hk7.dims.n4; rw [dimsA_length, hn] at h1; exact h1
  have HLN : Hid (∀ k, k ≤ n → (stepsN ax inv k).length ≤ 14 * k) := Lib.hid fun k hk => stepsN_len hk7.smooth inv k (by rw [hn]; exact hk)
  have HSG : Hid (∀ k (h : k < ax.length), (stgS (ax[k]).1).2 = 0 ∧ (stgS (ax[k]).1).1.length ≤ 12) := Lib.hid fun k h => smooth_stg (hk7.smooth _ (List.getElem_mem h))
  have t0 : (chk7 p ax != 0) = false := by rw [hc]; rfl
  rw [HF.out]
  clear hc hp hr hn hw hT hk7
  obtain ⟨LN, hLN⟩ : ∃ LN, LN = stepsN ax inv n := ⟨_, rfl⟩
  have HLE := Lib.hid hLN
  clear hLN
  cases inv
  · skip
    go_enter Tryd.func22, Tryd.ntmps22
    go_wp2_with fail
    refine (chk7_calls _ _ _ _ _ _ HN.out HP.out HR.out hl HW.out HT.out).mono ?_
    rw [HC.out]
    rintro e w1 ⟨rfl, hb⟩
    have HB1 := Lib.hid hb
    clear hb t0
    go_wp2
    go_loopw [9, 25] (fun o q wr => ∃ (k : Nat) (Z : Option Addr) (z : Nat), k ≤ n ∧ q = .int .i64 k ∧ o = .slice Z (stepsN ax false k).length z ∧ Hid (Own wr w1.heap.size 39 5 Z (stepsN ax false k).length z (spR (stepsN ax false k))) ∧ Hid (Below w1.heap.size w1 wr)) (fun _ q _ => n - (intOf q).toNat)
    case atStart => exact ⟨0, none, 0, Nat.zero_le _, rfl, rfl, Lib.hid (Own.nil _ _ _ _), Lib.hid (Below.refl _ _)⟩
    case round =>
      obtain ⟨k, Z, z, hk, rfl, rfl, HO2, HBR⟩ := hrel
      by_cases hlt : k < n
      · have hka : k < ax.length := by have := HN.out; omega
        obtain ⟨xa, rfl⟩ := HR.out.some_of (by intro h0; have h1 := axR_length ax; rw [h0] at h1; simp at h1; omega)
        obtain ⟨hc0, hc1⟩ := ax_cells (HR.out.below (blT HB1.out HBR.out)) hka
        obtain ⟨hg1, hg2⟩ := HSG.out k hka
        have HI := Lib.hid (HW.out _ (List.getElem_mem hka))
        have hge : ax.getD k (1, false) = ((ax[k]).1, (ax[k]).2) := by rw [List.getD_eq_getElem?_getD, List.getElem?_eq_getElem hka]; rfl
        have hnx := stepsN_next ax false hge
        have hlk := HLN.out k hk
        generalize ax[k] = a at *
        obtain ⟨a0, neg⟩ := a
        dsimp only at hc0 hc1 hg1 hg2 hnx HI
        obtain ⟨st, hst⟩ : ∃ st, st = (stgS a0).1 := ⟨_, rfl⟩
        have HSS : Hid (stgS a0 = (st, 0)) := Lib.hid (Prod.ext hst.symm hg1)
        rw [← hst] at hg2 hnx
        have HM12 := Lib.hid hg2
        have HLK : Hid ((stepsN ax false k).length ≤ 60) := Lib.hid (by omega)
        have HBV1 : Hid (Below w1.heap.size w1 (wr.alloc (.cells #[.int .i64 a0, .bool neg] 32))) := Lib.hid (HBR.out.alloc HBR.out.size _)
        have HBV : Hid (Below w.heap.size w (wr.alloc (.cells #[.int .i64 a0, .bool neg] 32))) := Lib.hid (blT HB1.out HBV1.out)
        have HOV := Lib.hid (HO2.out.grown ((Below.refl wr.heap.size wr).alloc (Nat.le_refl _) (.cells #[.int .i64 a0, .bool neg] 32)))
        have HCB : Hid ((wr.alloc (.cells #[.int .i64 a0, .bool neg] 32)).cell? ⟨wr.heap.size, 1, none⟩ = some (.bool neg)) := Lib.hid (World.news_of_block (cs := #[.int .i64 a0, .bool neg]) (t := 32) (fr := (0, 0)) (heap_alloc_new wr _) 1 _ rfl)
        clear hg1 hg2 hst hge hlk
        cases neg
        · have HNX : Hid (stepsN ax false (k + 1) = stepsN ax false k ++ st.map (sgS k)) := Lib.hid (by rw [hnx]; simp)
          clear hnx
          go_wp2_with fail
          refine (stages_calls a0 _ HI.out (HT.out.below HBV.out)).mono ?_
          rw [HSS.out]
          rintro e w2 ⟨B, b, rfl, ho, hb⟩
          have HB2 : Hid (Below w1.heap.size w1 w2) := Lib.hid (blT HBV1.out hb)
          have hk1 : w2.cell? ⟨wr.heap.size, 1, none⟩ = some (.bool false) := (hb.cell (by simp)).trans HCB.out
          have HOW2 := Lib.hid (HOV.out.grown hb)
          have HST := Lib.hid ho.row
          have HSF := Lib.hid ho.from'
          have HSZ2 : Hid (wr.heap.size + 1 ≤ w2.heap.size) := Lib.hid (by have h1 := hb.size; simp at h1; exact h1)
          have HFZ0 : Hid (Fz (w2.alloc (.cells #[.int .i64 (k : Int), .bool true, .int .i64 0, .int .i64 0, .int .i64 0] 39)) (wr.heap.size + 1) Z (w2.alloc (.cells #[.int .i64 (k : Int), .bool true, .int .i64 0, .int .i64 0, .int .i64 0] 39))) := Lib.hid (Fz.start HO2.out (Nat.le_succ _))
          have hk3 : (w2.alloc (.cells #[.int .i64 (k : Int), .bool true, .int .i64 0, .int .i64 0, .int .i64 0] 39)).cell? ⟨wr.heap.size, 1, none⟩ = some (.bool false) := (((Below.refl w2.heap.size w2).alloc (Nat.le_refl _) _).cell (by have := HSZ2.out; dsimp only; omega)).trans hk1
          have HQ0 : Hid ((w2.alloc (.cells #[.int .i64 (k : Int), .bool true, .int .i64 0, .int .i64 0, .int .i64 0] 39)).cell? ⟨w2.heap.size, 0, none⟩ = some (.int .i64 (k : Int))) := Lib.hid (World.news_of_block (cs := #[.int .i64 (k : Int), .bool true, .int .i64 0, .int .i64 0, .int .i64 0]) (t := 39) (fr := (0, 0)) (heap_alloc_new w2 _) 0 _ rfl)
          have HQ1 : Hid ((w2.alloc (.cells #[.int .i64 (k : Int), .bool true, .int .i64 0, .int .i64 0, .int .i64 0] 39)).cell? ⟨w2.heap.size, 1, none⟩ = some (.bool true)) := Lib.hid (World.news_of_block (cs := #[.int .i64 (k : Int), .bool true, .int .i64 0, .int .i64 0, .int .i64 0]) (t := 39) (fr := (0, 0)) (heap_alloc_new w2 _) 1 _ rfl)
          have HQ2 : Hid ((w2.alloc (.cells #[.int .i64 (k : Int), .bool true, .int .i64 0, .int .i64 0, .int .i64 0] 39)).cell? ⟨w2.heap.size, 2, none⟩ = some (.int .i64 0)) := Lib.hid (World.news_of_block (cs := #[.int .i64 (k : Int), .bool true, .int .i64 0, .int .i64 0, .int .i64 0]) (t := 39) (fr := (0, 0)) (heap_alloc_new w2 _) 2 _ rfl)
          have HQ3 : Hid ((w2.alloc (.cells #[.int .i64 (k : Int), .bool true, .int .i64 0, .int .i64 0, .int .i64 0] 39)).cell? ⟨w2.heap.size, 3, none⟩ = some (.int .i64 0)) := Lib.hid (World.news_of_block (cs := #[.int .i64 (k : Int), .bool true, .int .i64 0, .int .i64 0, .int .i64 0]) (t := 39) (fr := (0, 0)) (heap_alloc_new w2 _) 3 _ rfl)
          have HQ4 : Hid ((w2.alloc (.cells #[.int .i64 (k : Int), .bool true, .int .i64 0, .int .i64 0, .int .i64 0] 39)).cell? ⟨w2.heap.size, 4, none⟩ = some (.int .i64 0)) := Lib.hid (World.news_of_block (cs := #[.int .i64 (k : Int), .bool true, .int .i64 0, .int .i64 0, .int .i64 0]) (t := 39) (fr := (0, 0)) (heap_alloc_new w2 _) 4 _ rfl)
          have HBV3 : Hid (Below w1.heap.size w1 (w2.alloc (.cells #[.int .i64 (k : Int), .bool true, .int .i64 0, .int .i64 0, .int .i64 0] 39))) := Lib.hid (HB2.out.alloc HB2.out.size _)
          have HOV3 := Lib.hid (HOW2.out.grown ((Below.refl w2.heap.size w2).alloc (Nat.le_refl _) (.cells #[.int .i64 (k : Int), .bool true, .int .i64 0, .int .i64 0, .int .i64 0] 39)))
          have HSV3 := Lib.hid (HST.out.below ((Below.refl w2.heap.size w2).alloc (Nat.le_refl _) (.cells #[.int .i64 (k : Int), .bool true, .int .i64 0, .int .i64 0, .int .i64 0] 39)))
          have HTB : Hid (wr.heap.size + 1 ≤ w2.heap.size) := HSZ2
          have hsz3 : (w2.alloc (.cells #[.int .i64 (k : Int), .bool true, .int .i64 0, .int .i64 0, .int .i64 0] 39)).heap.size = w2.heap.size + 1 := by simp
          have HSZ3 := Lib.hid hsz3
          clear ho hb hk1 HST HOW2
          go_wp2
          have HOX := HOV3
          have HBX := HBV3
          have HFX := HFZ0
          clear HFZ0 HOV3
          generalize hV3 : (w2.alloc (.cells #[.int .i64 (k : Int), .bool true, .int .i64 0, .int .i64 0, .int .i64 0] 39)) = V3 at *
          clear hV3
          clear hk3 hsz3
          go_hide hQ
          go_loopw [9, 53] (fun v q ws => ∃ (j : Nat) (Z : Option Addr) (z : Nat), j ≤ st.length ∧ q = .int .i64 j ∧ v = .slice Z ((stepsN ax false k).length + j) z ∧ Hid (Own ws w1.heap.size 39 5 Z ((stepsN ax false k).length + j) z (spR (stepsN ax false k ++ (st.take j).map (sgS k)))) ∧ Hid (Below w1.heap.size w1 ws) ∧ Hid (Fz V3 (wr.heap.size + 1) Z ws)) (fun _ q _ => st.length - (intOf q).toNat)
          case atStart => exact ⟨0, Z, z, Nat.zero_le _, rfl, rfl, Lib.hid (by rw [List.take_zero, List.map_nil, List.append_nil]; exact HOX.out), HBX, HFX⟩
          case round =>
            obtain ⟨j, Z, z, hj, rfl, rfl, HOJ, HBJ, HFJ⟩ := hrel
            have HRJ := Lib.hid (HFJ.out.row HSV3.out (fun x hx => by have h1 := HSF.out x hx; simp at h1; exact h1))
            by_cases hjt : j < st.length
            · obtain ⟨ba, rfl⟩ := HRJ.out.some_of (by intro h0; have h1 := stR3_length st; rw [h0] at h1; simp at h1; omega)
              obtain ⟨hs0, hs1, hs2⟩ := stg_cells HRJ.out hjt
              have HTK : Hid (spR (stepsN ax false k ++ (st.take (j + 1)).map (sgS k)) = spR (stepsN ax false k ++ (st.take j).map (sgS k)) ++ spC (sgS k st[j])) := Lib.hid (by rw [take_map_succ (sgS k) st hjt, ← List.append_assoc, spR_append _ [_], spR_one])
              generalize st[j] = s at *
              obtain ⟨s0, s1, s2⟩ := s
              dsimp only at hs0 hs1 hs2
              have hln := HLK.out
              have hm12 := HM12.out
              have HSZ := Lib.hid HBJ.out.size
              have hrn : Row ((wr.alloc (.cells #[.int .i64 s0, .int .i64 s1, .int .i64 s2] 37)).alloc (.cells #[.int .i64 (k : Int), .bool false, .int .i64 s0, .int .i64 s1, .int .i64 s2] 39)) (some ⟨wr.heap.size + 1, 0, none⟩) (spC (sgS k (s0, s1, s2))) := by
                have h1 := row_new (wr.alloc (.cells #[.int .i64 s0, .int .i64 s1, .int .i64 s2] 37)) [.int .i64 (k : Int), .bool false, .int .i64 s0, .int .i64 s1, .int .i64 s2] 39
                rw [show (wr.alloc (.cells #[.int .i64 s0, .int .i64 s1, .int .i64 s2] 37)).heap.size = wr.heap.size + 1 by simp] at h1
                exact h1
              have hb9 : Below wr.heap.size wr ((wr.alloc (.cells #[.int .i64 s0, .int .i64 s1, .int .i64 s2] 37)).alloc (.cells #[.int .i64 (k : Int), .bool false, .int .i64 s0, .int .i64 s1, .int .i64 s2] 39)) := ((Below.refl _ _).alloc (Nat.le_refl _) _).alloc (by simp) _
              go_wp2_with (at_builtin; go_loud (refine append_cells_at _ Tryd.underlying26 info_step rfl (by decide) rfl _ _ rfl w1.heap.size ((stepsN ax false k).length + j) z 1 1 Z ⟨wr.heap.size + 1, 0, none⟩ (spR (stepsN ax false k ++ (st.take j).map (sgS k))) (spC (sgS k (s0, s1, s2))) rfl rfl (HOJ.out.grown hb9) hrn rfl (spC_one _) (by decide) (Nat.le_trans HSZ.out hb9.size) (by omega) (by omega) ?_); intro g cap2 w6 hown hbel hgrow hloc)
              have HO6 : Hid (Own w6 w1.heap.size 39 5 (some ⟨g, 0, none⟩) ((stepsN ax false k).length + (j + 1)) cap2 (spR (stepsN ax false k ++ (st.take (j + 1)).map (sgS k)))) := Lib.hid (by rw [HTK.out]; exact hown)
              have HB6 : Hid (Below w1.heap.size w1 w6) := Lib.hid ((blT HBJ.out hb9).trans (hbel.mono (Nat.le_refl _)))
              have HF6 := Lib.hid ((HFJ.out.below hb9).append hgrow hloc)
              clear hown hbel hgrow hloc hrn hb9 hln hm12
              go_roundw
              case rel => exact ⟨j + 1, some ⟨g, 0, none⟩, cap2, by omega, by go_num, rfl, HO6, HB6, HF6⟩
              case measure => simp [intOf]; omega
            · have hje : j = st.length := by omega
              subst hje
              have HOE : Hid (Own wr w1.heap.size 39 5 Z ((stepsN ax false k).length + st.length) z (spR (stepsN ax false k ++ st.map (sgS k)))) := Lib.hid (by have h1 := HOJ.out; rw [List.take_length] at h1; exact h1)
              have hq0 := HFJ.out.cell (p := ⟨w2.heap.size, 0, none⟩) HTB.out HQ0.out
              have hq1 := HFJ.out.cell (p := ⟨w2.heap.size, 1, none⟩) HTB.out HQ1.out
              have hq2 := HFJ.out.cell (p := ⟨w2.heap.size, 2, none⟩) HTB.out HQ2.out
              have hq3 := HFJ.out.cell (p := ⟨w2.heap.size, 3, none⟩) HTB.out HQ3.out
              have hq4 := HFJ.out.cell (p := ⟨w2.heap.size, 4, none⟩) HTB.out HQ4.out
              have hln := HLK.out
              have hm12 := HM12.out
              have HSZ := Lib.hid HBJ.out.size
              have HLX : Hid ((stepsN ax false (k + 1)).length = (stepsN ax false k).length + st.length) := Lib.hid (by rw [HNX.out]; simp only [List.length_append, List.length_map, List.length_cons, List.length_nil]; try omega)
              have HO6 : Hid (Own wr w1.heap.size 39 5 Z (stepsN ax false (k + 1)).length z (spR (stepsN ax false (k + 1)))) := Lib.hid (by rw [HLX.out, HNX.out]; exact HOE.out)
              clear hjt
              go_wp2
              subst hQ
              go_wp2
              go_roundw
              case rel => exact ⟨k + 1, Z, z, by omega, by go_num, by rw [HLX.out], HO6, HBJ⟩
              case measure => simp [intOf]; omega
        · have HNX : Hid (stepsN ax false (k + 1) = stepsN ax false k ++ [twS k] ++ st.map (sgS k)) := Lib.hid (by rw [hnx]; simp)
          clear hnx
          go_wp2_with fail
          refine (stages_calls a0 _ HI.out (HT.out.below HBV.out)).mono ?_
          rw [HSS.out]
          rintro e w2 ⟨B, b, rfl, ho, hb⟩
          have HB2 : Hid (Below w1.heap.size w1 w2) := Lib.hid (blT HBV1.out hb)
          have hk1 : w2.cell? ⟨wr.heap.size, 1, none⟩ = some (.bool true) := (hb.cell (by simp)).trans HCB.out
          have HOW2 := Lib.hid (HOV.out.grown hb)
          have HST := Lib.hid ho.row
          have HSF := Lib.hid ho.from'
          have HSZ2 : Hid (wr.heap.size + 1 ≤ w2.heap.size) := Lib.hid (by have h1 := hb.size; simp at h1; exact h1)
          have HFZ0 : Hid (Fz (w2.alloc (.cells #[.int .i64 (k : Int), .bool true, .int .i64 0, .int .i64 0, .int .i64 0] 39)) (wr.heap.size + 1) Z (w2.alloc (.cells #[.int .i64 (k : Int), .bool true, .int .i64 0, .int .i64 0, .int .i64 0] 39))) := Lib.hid (Fz.start HO2.out (Nat.le_succ _))
          have hk3 : (w2.alloc (.cells #[.int .i64 (k : Int), .bool true, .int .i64 0, .int .i64 0, .int .i64 0] 39)).cell? ⟨wr.heap.size, 1, none⟩ = some (.bool true) := (((Below.refl w2.heap.size w2).alloc (Nat.le_refl _) _).cell (by have := HSZ2.out; dsimp only; omega)).trans hk1
          have HQ0 : Hid ((w2.alloc (.cells #[.int .i64 (k : Int), .bool true, .int .i64 0, .int .i64 0, .int .i64 0] 39)).cell? ⟨w2.heap.size, 0, none⟩ = some (.int .i64 (k : Int))) := Lib.hid (World.news_of_block (cs := #[.int .i64 (k : Int), .bool true, .int .i64 0, .int .i64 0, .int .i64 0]) (t := 39) (fr := (0, 0)) (heap_alloc_new w2 _) 0 _ rfl)
          have HQ1 : Hid ((w2.alloc (.cells #[.int .i64 (k : Int), .bool true, .int .i64 0, .int .i64 0, .int .i64 0] 39)).cell? ⟨w2.heap.size, 1, none⟩ = some (.bool true)) := Lib.hid (World.news_of_block (cs := #[.int .i64 (k : Int), .bool true, .int .i64 0, .int .i64 0, .int .i64 0]) (t := 39) (fr := (0, 0)) (heap_alloc_new w2 _) 1 _ rfl)
          have HQ2 : Hid ((w2.alloc (.cells #[.int .i64 (k : Int), .bool true, .int .i64 0, .int .i64 0, .int .i64 0] 39)).cell? ⟨w2.heap.size, 2, none⟩ = some (.int .i64 0)) := Lib.hid (World.news_of_block (cs := #[.int .i64 (k : Int), .bool true, .int .i64 0, .int .i64 0, .int .i64 0]) (t := 39) (fr := (0, 0)) (heap_alloc_new w2 _) 2 _ rfl)
          have HQ3 : Hid ((w2.alloc (.cells #[.int .i64 (k : Int), .bool true, .int .i64 0, .int .i64 0, .int .i64 0] 39)).cell? ⟨w2.heap.size, 3, none⟩ = some (.int .i64 0)) := Lib.hid (World.news_of_block (cs := #[.int .i64 (k : Int), .bool true, .int .i64 0, .int .i64 0, .int .i64 0]) (t := 39) (fr := (0, 0)) (heap_alloc_new w2 _) 3 _ rfl)
          have HQ4 : Hid ((w2.alloc (.cells #[.int .i64 (k : Int), .bool true, .int .i64 0, .int .i64 0, .int .i64 0] 39)).cell? ⟨w2.heap.size, 4, none⟩ = some (.int .i64 0)) := Lib.hid (World.news_of_block (cs := #[.int .i64 (k : Int), .bool true, .int .i64 0, .int .i64 0, .int .i64 0]) (t := 39) (fr := (0, 0)) (heap_alloc_new w2 _) 4 _ rfl)
          have HBV3 : Hid (Below w1.heap.size w1 (w2.alloc (.cells #[.int .i64 (k : Int), .bool true, .int .i64 0, .int .i64 0, .int .i64 0] 39))) := Lib.hid (HB2.out.alloc HB2.out.size _)
          have HOV3 := Lib.hid (HOW2.out.grown ((Below.refl w2.heap.size w2).alloc (Nat.le_refl _) (.cells #[.int .i64 (k : Int), .bool true, .int .i64 0, .int .i64 0, .int .i64 0] 39)))
          have HSV3 := Lib.hid (HST.out.below ((Below.refl w2.heap.size w2).alloc (Nat.le_refl _) (.cells #[.int .i64 (k : Int), .bool true, .int .i64 0, .int .i64 0, .int .i64 0] 39)))
          have HTB : Hid (wr.heap.size + 1 ≤ w2.heap.size) := HSZ2
          have hsz3 : (w2.alloc (.cells #[.int .i64 (k : Int), .bool true, .int .i64 0, .int .i64 0, .int .i64 0] 39)).heap.size = w2.heap.size + 1 := by simp
          have HSZ3 := Lib.hid hsz3
          clear ho hb hk1 HST HOW2
          have hln := HLK.out
          generalize hV3 : (w2.alloc (.cells #[.int .i64 (k : Int), .bool true, .int .i64 0, .int .i64 0, .int .i64 0] 39)) = V3 at *
          have hrn : Row (V3.alloc (.cells #[.int .i64 (k : Int), .bool true, .int .i64 0, .int .i64 0, .int .i64 0] 39)) (some ⟨V3.heap.size, 0, none⟩) (spC (twS k)) := row_new V3 [.int .i64 (k : Int), .bool true, .int .i64 0, .int .i64 0, .int .i64 0] 39
          rw [hsz3] at hrn
          subst hV3
          go_wp2_with (at_builtin; go_loud (refine append_cells_at _ Tryd.underlying26 info_step rfl (by decide) rfl _ _ rfl w1.heap.size (stepsN ax false k).length z 1 1 Z ⟨w2.heap.size + 1, 0, none⟩ (spR (stepsN ax false k)) (spC (twS k)) rfl rfl (HOV3.out.grown ((Below.refl _ _).alloc (Nat.le_refl _) _)) hrn rfl (spC_one _) (by decide) (Nat.le_trans HBV3.out.size (by simp)) (by omega) (by omega) ?_); intro g cap2 w6 hown hbel hgrow hloc)
          have HOX : Hid (Own w6 w1.heap.size 39 5 (some ⟨g, 0, none⟩) ((stepsN ax false k).length + 1) cap2 (spR ((stepsN ax false k ++ [twS k])))) := Lib.hid (by rw [spR_append, spR_one]; exact hown)
          have HBX : Hid (Below w1.heap.size w1 w6) := Lib.hid ((HBV3.out.alloc HBV3.out.size _).trans (hbel.mono (Nat.le_refl _)))
          have HFX := Lib.hid ((HFZ0.out.below ((Below.refl _ _).alloc (Nat.le_refl _) _)).append hgrow hloc)
          clear hown hbel hgrow hloc hrn hln HFZ0 HOV3
          generalize (w2.alloc (.cells #[.int .i64 (k : Int), .bool true, .int .i64 0, .int .i64 0, .int .i64 0] 39)) = V3 at *
          go_wp2
          clear hk3 hsz3
          go_hide hQ
          go_loopw [9, 53] (fun v q ws => ∃ (j : Nat) (Z : Option Addr) (z : Nat), j ≤ st.length ∧ q = .int .i64 j ∧ v = .slice Z (((stepsN ax false k).length + 1) + j) z ∧ Hid (Own ws w1.heap.size 39 5 Z (((stepsN ax false k).length + 1) + j) z (spR ((stepsN ax false k ++ [twS k]) ++ (st.take j).map (sgS k)))) ∧ Hid (Below w1.heap.size w1 ws) ∧ Hid (Fz V3 (wr.heap.size + 1) Z ws)) (fun _ q _ => st.length - (intOf q).toNat)
          case atStart => exact ⟨0, some ⟨g, 0, none⟩, cap2, Nat.zero_le _, rfl, rfl, Lib.hid (by rw [List.take_zero, List.map_nil, List.append_nil]; exact HOX.out), HBX, HFX⟩
          case round =>
            obtain ⟨j, Z, z, hj, rfl, rfl, HOJ, HBJ, HFJ⟩ := hrel
            have HRJ := Lib.hid (HFJ.out.row HSV3.out (fun x hx => by have h1 := HSF.out x hx; simp at h1; exact h1))
            by_cases hjt : j < st.length
            · obtain ⟨ba, rfl⟩ := HRJ.out.some_of (by intro h0; have h1 := stR3_length st; rw [h0] at h1; simp at h1; omega)
              obtain ⟨hs0, hs1, hs2⟩ := stg_cells HRJ.out hjt
              have HTK : Hid (spR ((stepsN ax false k ++ [twS k]) ++ (st.take (j + 1)).map (sgS k)) = spR ((stepsN ax false k ++ [twS k]) ++ (st.take j).map (sgS k)) ++ spC (sgS k st[j])) := Lib.hid (by rw [take_map_succ (sgS k) st hjt, ← List.append_assoc, spR_append _ [_], spR_one])
              generalize st[j] = s at *
              obtain ⟨s0, s1, s2⟩ := s
              dsimp only at hs0 hs1 hs2
              have hln := HLK.out
              have hm12 := HM12.out
              have HSZ := Lib.hid HBJ.out.size
              have hrn : Row ((wr.alloc (.cells #[.int .i64 s0, .int .i64 s1, .int .i64 s2] 37)).alloc (.cells #[.int .i64 (k : Int), .bool false, .int .i64 s0, .int .i64 s1, .int .i64 s2] 39)) (some ⟨wr.heap.size + 1, 0, none⟩) (spC (sgS k (s0, s1, s2))) := by
                have h1 := row_new (wr.alloc (.cells #[.int .i64 s0, .int .i64 s1, .int .i64 s2] 37)) [.int .i64 (k : Int), .bool false, .int .i64 s0, .int .i64 s1, .int .i64 s2] 39
                rw [show (wr.alloc (.cells #[.int .i64 s0, .int .i64 s1, .int .i64 s2] 37)).heap.size = wr.heap.size + 1 by simp] at h1
                exact h1
              have hb9 : Below wr.heap.size wr ((wr.alloc (.cells #[.int .i64 s0, .int .i64 s1, .int .i64 s2] 37)).alloc (.cells #[.int .i64 (k : Int), .bool false, .int .i64 s0, .int .i64 s1, .int .i64 s2] 39)) := ((Below.refl _ _).alloc (Nat.le_refl _) _).alloc (by simp) _
              go_wp2_with (at_builtin; go_loud (refine append_cells_at _ Tryd.underlying26 info_step rfl (by decide) rfl _ _ rfl w1.heap.size (((stepsN ax false k).length + 1) + j) z 1 1 Z ⟨wr.heap.size + 1, 0, none⟩ (spR ((stepsN ax false k ++ [twS k]) ++ (st.take j).map (sgS k))) (spC (sgS k (s0, s1, s2))) rfl rfl (HOJ.out.grown hb9) hrn rfl (spC_one _) (by decide) (Nat.le_trans HSZ.out hb9.size) (by omega) (by omega) ?_); intro g cap2 w6 hown hbel hgrow hloc)
              have HO6 : Hid (Own w6 w1.heap.size 39 5 (some ⟨g, 0, none⟩) (((stepsN ax false k).length + 1) + (j + 1)) cap2 (spR ((stepsN ax false k ++ [twS k]) ++ (st.take (j + 1)).map (sgS k)))) := Lib.hid (by rw [HTK.out]; exact hown)
              have HB6 : Hid (Below w1.heap.size w1 w6) := Lib.hid ((blT HBJ.out hb9).trans (hbel.mono (Nat.le_refl _)))
              have HF6 := Lib.hid ((HFJ.out.below hb9).append hgrow hloc)
              clear hown hbel hgrow hloc hrn hb9 hln hm12
              go_roundw
              case rel => exact ⟨j + 1, some ⟨g, 0, none⟩, cap2, by omega, by go_num, rfl, HO6, HB6, HF6⟩
              case measure => simp [intOf]; omega
            · have hje : j = st.length := by omega
              subst hje
              have HOE : Hid (Own wr w1.heap.size 39 5 Z (((stepsN ax false k).length + 1) + st.length) z (spR ((stepsN ax false k ++ [twS k]) ++ st.map (sgS k)))) := Lib.hid (by have h1 := HOJ.out; rw [List.take_length] at h1; exact h1)
              have hq0 := HFJ.out.cell (p := ⟨w2.heap.size, 0, none⟩) HTB.out HQ0.out
              have hq1 := HFJ.out.cell (p := ⟨w2.heap.size, 1, none⟩) HTB.out HQ1.out
              have hq2 := HFJ.out.cell (p := ⟨w2.heap.size, 2, none⟩) HTB.out HQ2.out
              have hq3 := HFJ.out.cell (p := ⟨w2.heap.size, 3, none⟩) HTB.out HQ3.out
              have hq4 := HFJ.out.cell (p := ⟨w2.heap.size, 4, none⟩) HTB.out HQ4.out
              have hln := HLK.out
              have hm12 := HM12.out
              have HSZ := Lib.hid HBJ.out.size
              have HLX : Hid ((stepsN ax false (k + 1)).length = ((stepsN ax false k).length + 1) + st.length) := Lib.hid (by rw [HNX.out]; simp only [List.length_append, List.length_map, List.length_cons, List.length_nil]; try omega)
              have HO6 : Hid (Own wr w1.heap.size 39 5 Z (stepsN ax false (k + 1)).length z (spR (stepsN ax false (k + 1)))) := Lib.hid (by rw [HLX.out, HNX.out]; exact HOE.out)
              clear hjt
              go_wp2
              subst hQ
              go_wp2
              go_roundw
              case rel => exact ⟨k + 1, Z, z, by omega, by go_num, by rw [HLX.out], HO6, HBJ⟩
              case measure => simp [intOf]; omega
      · have hke : k = n := by omega
        have HOE : Hid (Own wr w.heap.size 39 5 Z (stepsN ax false n).length z (spR (stepsN ax false n))) := Lib.hid (by have h1 := HO2.out.mono HB1.out.size; rw [hke] at h1; exact h1)
        have HBE := Lib.hid (blT HB1.out HBR.out)
        subst hke
        go_wp2
        go_ret2
        exact ⟨_, _, rfl, HOE.out, HBE.out⟩
  · skip
    go_enter Tryd.func22, Tryd.ntmps22
    go_wp2_with fail
    refine (chk7_calls _ _ _ _ _ _ HN.out HP.out HR.out hl HW.out HT.out).mono ?_
    rw [HC.out]
    rintro e w1 ⟨rfl, hb⟩
    have HB1 := Lib.hid hb
    clear hb t0
    go_wp2
    go_loopw [9, 25] (fun o q wr => ∃ (k : Nat) (Z : Option Addr) (z : Nat), k ≤ n ∧ q = .int .i64 k ∧ o = .slice Z (stepsN ax true k).length z ∧ Hid (Own wr w1.heap.size 39 5 Z (stepsN ax true k).length z (spR (stepsN ax true k))) ∧ Hid (Below w1.heap.size w1 wr)) (fun _ q _ => n - (intOf q).toNat)
    case atStart => exact ⟨0, none, 0, Nat.zero_le _, rfl, rfl, Lib.hid (Own.nil _ _ _ _), Lib.hid (Below.refl _ _)⟩
    case round =>
      obtain ⟨k, Z, z, hk, rfl, rfl, HO2, HBR⟩ := hrel
      by_cases hlt : k < n
      · have hka : k < ax.length := by have := HN.out; omega
        obtain ⟨xa, rfl⟩ := HR.out.some_of (by intro h0; have h1 := axR_length ax; rw [h0] at h1; simp at h1; omega)
        obtain ⟨hc0, hc1⟩ := ax_cells (HR.out.below (blT HB1.out HBR.out)) hka
        obtain ⟨hg1, hg2⟩ := HSG.out k hka
        have HI := Lib.hid (HW.out _ (List.getElem_mem hka))
        have hge : ax.getD k (1, false) = ((ax[k]).1, (ax[k]).2) := by rw [List.getD_eq_getElem?_getD, List.getElem?_eq_getElem hka]; rfl
        have hnx := stepsN_next ax true hge
        have hlk := HLN.out k hk
        generalize ax[k] = a at *
        obtain ⟨a0, neg⟩ := a
        dsimp only at hc0 hc1 hg1 hg2 hnx HI
        obtain ⟨st, hst⟩ : ∃ st, st = (stgS a0).1 := ⟨_, rfl⟩
        have HSS : Hid (stgS a0 = (st, 0)) := Lib.hid (Prod.ext hst.symm hg1)
        rw [← hst] at hg2 hnx
        have HM12 := Lib.hid hg2
        have HLK : Hid ((stepsN ax true k).length ≤ 60) := Lib.hid (by omega)
        have HBV1 : Hid (Below w1.heap.size w1 (wr.alloc (.cells #[.int .i64 a0, .bool neg] 32))) := Lib.hid (HBR.out.alloc HBR.out.size _)
        have HBV : Hid (Below w.heap.size w (wr.alloc (.cells #[.int .i64 a0, .bool neg] 32))) := Lib.hid (blT HB1.out HBV1.out)
        have HOV := Lib.hid (HO2.out.grown ((Below.refl wr.heap.size wr).alloc (Nat.le_refl _) (.cells #[.int .i64 a0, .bool neg] 32)))
        have HCB : Hid ((wr.alloc (.cells #[.int .i64 a0, .bool neg] 32)).cell? ⟨wr.heap.size, 1, none⟩ = some (.bool neg)) := Lib.hid (World.news_of_block (cs := #[.int .i64 a0, .bool neg]) (t := 32) (fr := (0, 0)) (heap_alloc_new wr _) 1 _ rfl)
        clear hg1 hg2 hst hge hlk
        cases neg
        · have HNX : Hid (stepsN ax true (k + 1) = stepsN ax true k ++ st.map (sgS k) ++ [twS k]) := Lib.hid (by rw [hnx]; simp)
          clear hnx
          go_wp2_with fail
          refine (stages_calls a0 _ HI.out (HT.out.below HBV.out)).mono ?_
          rw [HSS.out]
          rintro e w2 ⟨B, b, rfl, ho, hb⟩
          have HB2 : Hid (Below w1.heap.size w1 w2) := Lib.hid (blT HBV1.out hb)
          have hk1 : w2.cell? ⟨wr.heap.size, 1, none⟩ = some (.bool false) := (hb.cell (by simp)).trans HCB.out
          have HOW2 := Lib.hid (HOV.out.grown hb)
          have HST := Lib.hid ho.row
          have HSF := Lib.hid ho.from'
          have HSZ2 : Hid (wr.heap.size + 1 ≤ w2.heap.size) := Lib.hid (by have h1 := hb.size; simp at h1; exact h1)
          have HFZ0 : Hid (Fz (w2.alloc (.cells #[.int .i64 (k : Int), .bool true, .int .i64 0, .int .i64 0, .int .i64 0] 39)) (wr.heap.size + 1) Z (w2.alloc (.cells #[.int .i64 (k : Int), .bool true, .int .i64 0, .int .i64 0, .int .i64 0] 39))) := Lib.hid (Fz.start HO2.out (Nat.le_succ _))
          have hk3 : (w2.alloc (.cells #[.int .i64 (k : Int), .bool true, .int .i64 0, .int .i64 0, .int .i64 0] 39)).cell? ⟨wr.heap.size, 1, none⟩ = some (.bool false) := (((Below.refl w2.heap.size w2).alloc (Nat.le_refl _) _).cell (by have := HSZ2.out; dsimp only; omega)).trans hk1
          have HQ0 : Hid ((w2.alloc (.cells #[.int .i64 (k : Int), .bool true, .int .i64 0, .int .i64 0, .int .i64 0] 39)).cell? ⟨w2.heap.size, 0, none⟩ = some (.int .i64 (k : Int))) := Lib.hid (World.news_of_block (cs := #[.int .i64 (k : Int), .bool true, .int .i64 0, .int .i64 0, .int .i64 0]) (t := 39) (fr := (0, 0)) (heap_alloc_new w2 _) 0 _ rfl)
          have HQ1 : Hid ((w2.alloc (.cells #[.int .i64 (k : Int), .bool true, .int .i64 0, .int .i64 0, .int .i64 0] 39)).cell? ⟨w2.heap.size, 1, none⟩ = some (.bool true)) := Lib.hid (World.news_of_block (cs := #[.int .i64 (k : Int), .bool true, .int .i64 0, .int .i64 0, .int .i64 0]) (t := 39) (fr := (0, 0)) (heap_alloc_new w2 _) 1 _ rfl)
          have HQ2 : Hid ((w2.alloc (.cells #[.int .i64 (k : Int), .bool true, .int .i64 0, .int .i64 0, .int .i64 0] 39)).cell? ⟨w2.heap.size, 2, none⟩ = some (.int .i64 0)) := Lib.hid (World.news_of_block (cs := #[.int .i64 (k : Int), .bool true, .int .i64 0, .int .i64 0, .int .i64 0]) (t := 39) (fr := (0, 0)) (heap_alloc_new w2 _) 2 _ rfl)
          have HQ3 : Hid ((w2.alloc (.cells #[.int .i64 (k : Int), .bool true, .int .i64 0, .int .i64 0, .int .i64 0] 39)).cell? ⟨w2.heap.size, 3, none⟩ = some (.int .i64 0)) := Lib.hid (World.news_of_block (cs := #[.int .i64 (k : Int), .bool true, .int .i64 0, .int .i64 0, .int .i64 0]) (t := 39) (fr := (0, 0)) (heap_alloc_new w2 _) 3 _ rfl)
          have HQ4 : Hid ((w2.alloc (.cells #[.int .i64 (k : Int), .bool true, .int .i64 0, .int .i64 0, .int .i64 0] 39)).cell? ⟨w2.heap.size, 4, none⟩ = some (.int .i64 0)) := Lib.hid (World.news_of_block (cs := #[.int .i64 (k : Int), .bool true, .int .i64 0, .int .i64 0, .int .i64 0]) (t := 39) (fr := (0, 0)) (heap_alloc_new w2 _) 4 _ rfl)
          have HBV3 : Hid (Below w1.heap.size w1 (w2.alloc (.cells #[.int .i64 (k : Int), .bool true, .int .i64 0, .int .i64 0, .int .i64 0] 39))) := Lib.hid (HB2.out.alloc HB2.out.size _)
          have HOV3 := Lib.hid (HOW2.out.grown ((Below.refl w2.heap.size w2).alloc (Nat.le_refl _) (.cells #[.int .i64 (k : Int), .bool true, .int .i64 0, .int .i64 0, .int .i64 0] 39)))
          have HSV3 := Lib.hid (HST.out.below ((Below.refl w2.heap.size w2).alloc (Nat.le_refl _) (.cells #[.int .i64 (k : Int), .bool true, .int .i64 0, .int .i64 0, .int .i64 0] 39)))
          have HTB : Hid (wr.heap.size + 1 ≤ w2.heap.size) := HSZ2
          have hsz3 : (w2.alloc (.cells #[.int .i64 (k : Int), .bool true, .int .i64 0, .int .i64 0, .int .i64 0] 39)).heap.size = w2.heap.size + 1 := by simp
          have HSZ3 := Lib.hid hsz3
          clear ho hb hk1 HST HOW2
          go_wp2
          have HOX := HOV3
          have HBX := HBV3
          have HFX := HFZ0
          clear HFZ0 HOV3
          generalize hV3 : (w2.alloc (.cells #[.int .i64 (k : Int), .bool true, .int .i64 0, .int .i64 0, .int .i64 0] 39)) = V3 at *
          clear hV3
          clear hk3 hsz3
          go_hide hQ
          go_loopw [9, 53] (fun v q ws => ∃ (j : Nat) (Z : Option Addr) (z : Nat), j ≤ st.length ∧ q = .int .i64 j ∧ v = .slice Z ((stepsN ax true k).length + j) z ∧ Hid (Own ws w1.heap.size 39 5 Z ((stepsN ax true k).length + j) z (spR (stepsN ax true k ++ (st.take j).map (sgS k)))) ∧ Hid (Below w1.heap.size w1 ws) ∧ Hid (Fz V3 (wr.heap.size + 1) Z ws)) (fun _ q _ => st.length - (intOf q).toNat)
          case atStart => exact ⟨0, Z, z, Nat.zero_le _, rfl, rfl, Lib.hid (by rw [List.take_zero, List.map_nil, List.append_nil]; exact HOX.out), HBX, HFX⟩
          case round =>
            obtain ⟨j, Z, z, hj, rfl, rfl, HOJ, HBJ, HFJ⟩ := hrel
            have HRJ := Lib.hid (HFJ.out.row HSV3.out (fun x hx => by have h1 := HSF.out x hx; simp at h1; exact h1))
            by_cases hjt : j < st.length
            · obtain ⟨ba, rfl⟩ := HRJ.out.some_of (by intro h0; have h1 := stR3_length st; rw [h0] at h1; simp at h1; omega)
              obtain ⟨hs0, hs1, hs2⟩ := stg_cells HRJ.out hjt
              have HTK : Hid (spR (stepsN ax true k ++ (st.take (j + 1)).map (sgS k)) = spR (stepsN ax true k ++ (st.take j).map (sgS k)) ++ spC (sgS k st[j])) := Lib.hid (by rw [take_map_succ (sgS k) st hjt, ← List.append_assoc, spR_append _ [_], spR_one])
              generalize st[j] = s at *
              obtain ⟨s0, s1, s2⟩ := s
              dsimp only at hs0 hs1 hs2
              have hln := HLK.out
              have hm12 := HM12.out
              have HSZ := Lib.hid HBJ.out.size
              have hrn : Row ((wr.alloc (.cells #[.int .i64 s0, .int .i64 s1, .int .i64 s2] 37)).alloc (.cells #[.int .i64 (k : Int), .bool false, .int .i64 s0, .int .i64 s1, .int .i64 s2] 39)) (some ⟨wr.heap.size + 1, 0, none⟩) (spC (sgS k (s0, s1, s2))) := by
                have h1 := row_new (wr.alloc (.cells #[.int .i64 s0, .int .i64 s1, .int .i64 s2] 37)) [.int .i64 (k : Int), .bool false, .int .i64 s0, .int .i64 s1, .int .i64 s2] 39
                rw [show (wr.alloc (.cells #[.int .i64 s0, .int .i64 s1, .int .i64 s2] 37)).heap.size = wr.heap.size + 1 by simp] at h1
                exact h1
              have hb9 : Below wr.heap.size wr ((wr.alloc (.cells #[.int .i64 s0, .int .i64 s1, .int .i64 s2] 37)).alloc (.cells #[.int .i64 (k : Int), .bool false, .int .i64 s0, .int .i64 s1, .int .i64 s2] 39)) := ((Below.refl _ _).alloc (Nat.le_refl _) _).alloc (by simp) _
              go_wp2_with (at_builtin; go_loud (refine append_cells_at _ Tryd.underlying26 info_step rfl (by decide) rfl _ _ rfl w1.heap.size ((stepsN ax true k).length + j) z 1 1 Z ⟨wr.heap.size + 1, 0, none⟩ (spR (stepsN ax true k ++ (st.take j).map (sgS k))) (spC (sgS k (s0, s1, s2))) rfl rfl (HOJ.out.grown hb9) hrn rfl (spC_one _) (by decide) (Nat.le_trans HSZ.out hb9.size) (by omega) (by omega) ?_); intro g cap2 w6 hown hbel hgrow hloc)
              have HO6 : Hid (Own w6 w1.heap.size 39 5 (some ⟨g, 0, none⟩) ((stepsN ax true k).length + (j + 1)) cap2 (spR (stepsN ax true k ++ (st.take (j + 1)).map (sgS k)))) := Lib.hid (by rw [HTK.out]; exact hown)
              have HB6 : Hid (Below w1.heap.size w1 w6) := Lib.hid ((blT HBJ.out hb9).trans (hbel.mono (Nat.le_refl _)))
              have HF6 := Lib.hid ((HFJ.out.below hb9).append hgrow hloc)
              clear hown hbel hgrow hloc hrn hb9 hln hm12
              go_roundw
              case rel => exact ⟨j + 1, some ⟨g, 0, none⟩, cap2, by omega, by go_num, rfl, HO6, HB6, HF6⟩
              case measure => simp [intOf]; omega
            · have hje : j = st.length := by omega
              subst hje
              have HOE : Hid (Own wr w1.heap.size 39 5 Z ((stepsN ax true k).length + st.length) z (spR (stepsN ax true k ++ st.map (sgS k)))) := Lib.hid (by have h1 := HOJ.out; rw [List.take_length] at h1; exact h1)
              have hq0 := HFJ.out.cell (p := ⟨w2.heap.size, 0, none⟩) HTB.out HQ0.out
              have hq1 := HFJ.out.cell (p := ⟨w2.heap.size, 1, none⟩) HTB.out HQ1.out
              have hq2 := HFJ.out.cell (p := ⟨w2.heap.size, 2, none⟩) HTB.out HQ2.out
              have hq3 := HFJ.out.cell (p := ⟨w2.heap.size, 3, none⟩) HTB.out HQ3.out
              have hq4 := HFJ.out.cell (p := ⟨w2.heap.size, 4, none⟩) HTB.out HQ4.out
              have hln := HLK.out
              have hm12 := HM12.out
              have HSZ := Lib.hid HBJ.out.size
              have hrn : Row (wr.alloc (.cells #[.int .i64 (k : Int), .bool true, .int .i64 0, .int .i64 0, .int .i64 0] 39)) (some ⟨wr.heap.size, 0, none⟩) (spC (twS k)) := row_new wr [.int .i64 (k : Int), .bool true, .int .i64 0, .int .i64 0, .int .i64 0] 39
              have HLX : Hid ((stepsN ax true (k + 1)).length = (stepsN ax true k).length + st.length + 1) := Lib.hid (by rw [HNX.out]; simp only [List.length_append, List.length_map, List.length_cons, List.length_nil]; try omega)
              clear hjt
              go_wp2
              subst hQ
              go_wp2_with (at_builtin; go_loud (refine append_cells_at _ Tryd.underlying26 info_step rfl (by decide) rfl _ _ rfl w1.heap.size ((stepsN ax true k).length + st.length) z 1 1 Z ⟨wr.heap.size, 0, none⟩ (spR (stepsN ax true k ++ st.map (sgS k))) (spC (twS k)) rfl rfl (HOE.out.grown ((Below.refl _ _).alloc (Nat.le_refl _) _)) hrn rfl (spC_one _) (by decide) (Nat.le_trans HSZ.out (by simp)) (by omega) (by omega) ?_); intro g cap2 w6 hown hbel hgrow hloc)
              have HO6 : Hid (Own w6 w1.heap.size 39 5 (some ⟨g, 0, none⟩) (stepsN ax true (k + 1)).length cap2 (spR (stepsN ax true (k + 1)))) := Lib.hid (by rw [HLX.out, HNX.out, spR_append _ [_], spR_one]; exact hown)
              have HB6 : Hid (Below w1.heap.size w1 w6) := Lib.hid ((HBJ.out.alloc HSZ.out _).trans (hbel.mono (Nat.le_refl _)))
              clear hown hbel hgrow hloc hrn hln hm12
              go_roundw
              case rel => exact ⟨k + 1, some ⟨g, 0, none⟩, cap2, by omega, by go_num, by rw [HLX.out], HO6, HB6⟩
              case measure => simp [intOf]; omega
        · have HNX : Hid (stepsN ax true (k + 1) = stepsN ax true k ++ st.map (sgS k) ++ [twS k]) := Lib.hid (by rw [hnx]; simp)
          clear hnx
          go_wp2_with fail
          refine (stages_calls a0 _ HI.out (HT.out.below HBV.out)).mono ?_
          rw [HSS.out]
          rintro e w2 ⟨B, b, rfl, ho, hb⟩
          have HB2 : Hid (Below w1.heap.size w1 w2) := Lib.hid (blT HBV1.out hb)
          have hk1 : w2.cell? ⟨wr.heap.size, 1, none⟩ = some (.bool true) := (hb.cell (by simp)).trans HCB.out
          have HOW2 := Lib.hid (HOV.out.grown hb)
          have HST := Lib.hid ho.row
          have HSF := Lib.hid ho.from'
          have HSZ2 : Hid (wr.heap.size + 1 ≤ w2.heap.size) := Lib.hid (by have h1 := hb.size; simp at h1; exact h1)
          have HFZ0 : Hid (Fz (w2.alloc (.cells #[.int .i64 (k : Int), .bool true, .int .i64 0, .int .i64 0, .int .i64 0] 39)) (wr.heap.size + 1) Z (w2.alloc (.cells #[.int .i64 (k : Int), .bool true, .int .i64 0, .int .i64 0, .int .i64 0] 39))) := Lib.hid (Fz.start HO2.out (Nat.le_succ _))
          have hk3 : (w2.alloc (.cells #[.int .i64 (k : Int), .bool true, .int .i64 0, .int .i64 0, .int .i64 0] 39)).cell? ⟨wr.heap.size, 1, none⟩ = some (.bool true) := (((Below.refl w2.heap.size w2).alloc (Nat.le_refl _) _).cell (by have := HSZ2.out; dsimp only; omega)).trans hk1
          have HQ0 : Hid ((w2.alloc (.cells #[.int .i64 (k : Int), .bool true, .int .i64 0, .int .i64 0, .int .i64 0] 39)).cell? ⟨w2.heap.size, 0, none⟩ = some (.int .i64 (k : Int))) := Lib.hid (World.news_of_block (cs := #[.int .i64 (k : Int), .bool true, .int .i64 0, .int .i64 0, .int .i64 0]) (t := 39) (fr := (0, 0)) (heap_alloc_new w2 _) 0 _ rfl)
          have HQ1 : Hid ((w2.alloc (.cells #[.int .i64 (k : Int), .bool true, .int .i64 0, .int .i64 0, .int .i64 0] 39)).cell? ⟨w2.heap.size, 1, none⟩ = some (.bool true)) := Lib.hid (World.news_of_block (cs := #[.int .i64 (k : Int), .bool true, .int .i64 0, .int .i64 0, .int .i64 0]) (t := 39) (fr := (0, 0)) (heap_alloc_new w2 _) 1 _ rfl)
          have HQ2 : Hid ((w2.alloc (.cells #[.int .i64 (k : Int), .bool true, .int .i64 0, .int .i64 0, .int .i64 0] 39)).cell? ⟨w2.heap.size, 2, none⟩ = some (.int .i64 0)) := Lib.hid (World.news_of_block (cs := #[.int .i64 (k : Int), .bool true, .int .i64 0, .int .i64 0, .int .i64 0]) (t := 39) (fr := (0, 0)) (heap_alloc_new w2 _) 2 _ rfl)
          have HQ3 : Hid ((w2.alloc (.cells #[.int .i64 (k : Int), .bool true, .int .i64 0, .int .i64 0, .int .i64 0] 39)).cell? ⟨w2.heap.size, 3, none⟩ = some (.int .i64 0)) := Lib.hid (World.news_of_block (cs := #[.int .i64 (k : Int), .bool true, .int .i64 0, .int .i64 0, .int .i64 0]) (t := 39) (fr := (0, 0)) (heap_alloc_new w2 _) 3 _ rfl)
          have HQ4 : Hid ((w2.alloc (.cells #[.int .i64 (k : Int), .bool true, .int .i64 0, .int .i64 0, .int .i64 0] 39)).cell? ⟨w2.heap.size, 4, none⟩ = some (.int .i64 0)) := Lib.hid (World.news_of_block (cs := #[.int .i64 (k : Int), .bool true, .int .i64 0, .int .i64 0, .int .i64 0]) (t := 39) (fr := (0, 0)) (heap_alloc_new w2 _) 4 _ rfl)
          have HBV3 : Hid (Below w1.heap.size w1 (w2.alloc (.cells #[.int .i64 (k : Int), .bool true, .int .i64 0, .int .i64 0, .int .i64 0] 39))) := Lib.hid (HB2.out.alloc HB2.out.size _)
          have HOV3 := Lib.hid (HOW2.out.grown ((Below.refl w2.heap.size w2).alloc (Nat.le_refl _) (.cells #[.int .i64 (k : Int), .bool true, .int .i64 0, .int .i64 0, .int .i64 0] 39)))
          have HSV3 := Lib.hid (HST.out.below ((Below.refl w2.heap.size w2).alloc (Nat.le_refl _) (.cells #[.int .i64 (k : Int), .bool true, .int .i64 0, .int .i64 0, .int .i64 0] 39)))
          have HTB : Hid (wr.heap.size + 1 ≤ w2.heap.size) := HSZ2
          have hsz3 : (w2.alloc (.cells #[.int .i64 (k : Int), .bool true, .int .i64 0, .int .i64 0, .int .i64 0] 39)).heap.size = w2.heap.size + 1 := by simp
          have HSZ3 := Lib.hid hsz3
          clear ho hb hk1 HST HOW2
          go_wp2
          have HOX := HOV3
          have HBX := HBV3
          have HFX := HFZ0
          clear HFZ0 HOV3
          generalize hV3 : (w2.alloc (.cells #[.int .i64 (k : Int), .bool true, .int .i64 0, .int .i64 0, .int .i64 0] 39)) = V3 at *
          clear hV3
          clear hk3 hsz3
          go_hide hQ
          go_loopw [9, 53] (fun v q ws => ∃ (j : Nat) (Z : Option Addr) (z : Nat), j ≤ st.length ∧ q = .int .i64 j ∧ v = .slice Z ((stepsN ax true k).length + j) z ∧ Hid (Own ws w1.heap.size 39 5 Z ((stepsN ax true k).length + j) z (spR (stepsN ax true k ++ (st.take j).map (sgS k)))) ∧ Hid (Below w1.heap.size w1 ws) ∧ Hid (Fz V3 (wr.heap.size + 1) Z ws)) (fun _ q _ => st.length - (intOf q).toNat)
          case atStart => exact ⟨0, Z, z, Nat.zero_le _, rfl, rfl, Lib.hid (by rw [List.take_zero, List.map_nil, List.append_nil]; exact HOX.out), HBX, HFX⟩
          case round =>
            obtain ⟨j, Z, z, hj, rfl, rfl, HOJ, HBJ, HFJ⟩ := hrel
            have HRJ := Lib.hid (HFJ.out.row HSV3.out (fun x hx => by have h1 := HSF.out x hx; simp at h1; exact h1))
            by_cases hjt : j < st.length
            · obtain ⟨ba, rfl⟩ := HRJ.out.some_of (by intro h0; have h1 := stR3_length st; rw [h0] at h1; simp at h1; omega)
              obtain ⟨hs0, hs1, hs2⟩ := stg_cells HRJ.out hjt
              have HTK : Hid (spR (stepsN ax true k ++ (st.take (j + 1)).map (sgS k)) = spR (stepsN ax true k ++ (st.take j).map (sgS k)) ++ spC (sgS k st[j])) := Lib.hid (by rw [take_map_succ (sgS k) st hjt, ← List.append_assoc, spR_append _ [_], spR_one])
              generalize st[j] = s at *
              obtain ⟨s0, s1, s2⟩ := s
              dsimp only at hs0 hs1 hs2
              have hln := HLK.out
              have hm12 := HM12.out
              have HSZ := Lib.hid HBJ.out.size
              have hrn : Row ((wr.alloc (.cells #[.int .i64 s0, .int .i64 s1, .int .i64 s2] 37)).alloc (.cells #[.int .i64 (k : Int), .bool false, .int .i64 s0, .int .i64 s1, .int .i64 s2] 39)) (some ⟨wr.heap.size + 1, 0, none⟩) (spC (sgS k (s0, s1, s2))) := by
                have h1 := row_new (wr.alloc (.cells #[.int .i64 s0, .int .i64 s1, .int .i64 s2] 37)) [.int .i64 (k : Int), .bool false, .int .i64 s0, .int .i64 s1, .int .i64 s2] 39
                rw [show (wr.alloc (.cells #[.int .i64 s0, .int .i64 s1, .int .i64 s2] 37)).heap.size = wr.heap.size + 1 by simp] at h1
                exact h1
              have hb9 : Below wr.heap.size wr ((wr.alloc (.cells #[.int .i64 s0, .int .i64 s1, .int .i64 s2] 37)).alloc (.cells #[.int .i64 (k : Int), .bool false, .int .i64 s0, .int .i64 s1, .int .i64 s2] 39)) := ((Below.refl _ _).alloc (Nat.le_refl _) _).alloc (by simp) _
              go_wp2_with (at_builtin; go_loud (refine append_cells_at _ Tryd.underlying26 info_step rfl (by decide) rfl _ _ rfl w1.heap.size ((stepsN ax true k).length + j) z 1 1 Z ⟨wr.heap.size + 1, 0, none⟩ (spR (stepsN ax true k ++ (st.take j).map (sgS k))) (spC (sgS k (s0, s1, s2))) rfl rfl (HOJ.out.grown hb9) hrn rfl (spC_one _) (by decide) (Nat.le_trans HSZ.out hb9.size) (by omega) (by omega) ?_); intro g cap2 w6 hown hbel hgrow hloc)
              have HO6 : Hid (Own w6 w1.heap.size 39 5 (some ⟨g, 0, none⟩) ((stepsN ax true k).length + (j + 1)) cap2 (spR (stepsN ax true k ++ (st.take (j + 1)).map (sgS k)))) := Lib.hid (by rw [HTK.out]; exact hown)
              have HB6 : Hid (Below w1.heap.size w1 w6) := Lib.hid ((blT HBJ.out hb9).trans (hbel.mono (Nat.le_refl _)))
              have HF6 := Lib.hid ((HFJ.out.below hb9).append hgrow hloc)
              clear hown hbel hgrow hloc hrn hb9 hln hm12
              go_roundw
              case rel => exact ⟨j + 1, some ⟨g, 0, none⟩, cap2, by omega, by go_num, rfl, HO6, HB6, HF6⟩
              case measure => simp [intOf]; omega
            · have hje : j = st.length := by omega
              subst hje
              have HOE : Hid (Own wr w1.heap.size 39 5 Z ((stepsN ax true k).length + st.length) z (spR (stepsN ax true k ++ st.map (sgS k)))) := Lib.hid (by have h1 := HOJ.out; rw [List.take_length] at h1; exact h1)
              have hq0 := HFJ.out.cell (p := ⟨w2.heap.size, 0, none⟩) HTB.out HQ0.out
              have hq1 := HFJ.out.cell (p := ⟨w2.heap.size, 1, none⟩) HTB.out HQ1.out
              have hq2 := HFJ.out.cell (p := ⟨w2.heap.size, 2, none⟩) HTB.out HQ2.out
              have hq3 := HFJ.out.cell (p := ⟨w2.heap.size, 3, none⟩) HTB.out HQ3.out
              have hq4 := HFJ.out.cell (p := ⟨w2.heap.size, 4, none⟩) HTB.out HQ4.out
              have hln := HLK.out
              have hm12 := HM12.out
              have HSZ := Lib.hid HBJ.out.size
              have hrn : Row (wr.alloc (.cells #[.int .i64 (k : Int), .bool true, .int .i64 0, .int .i64 0, .int .i64 0] 39)) (some ⟨wr.heap.size, 0, none⟩) (spC (twS k)) := row_new wr [.int .i64 (k : Int), .bool true, .int .i64 0, .int .i64 0, .int .i64 0] 39
              have HLX : Hid ((stepsN ax true (k + 1)).length = (stepsN ax true k).length + st.length + 1) := Lib.hid (by rw [HNX.out]; simp only [List.length_append, List.length_map, List.length_cons, List.length_nil]; try omega)
              clear hjt
              go_wp2
              subst hQ
              go_wp2_with (at_builtin; go_loud (refine append_cells_at _ Tryd.underlying26 info_step rfl (by decide) rfl _ _ rfl w1.heap.size ((stepsN ax true k).length + st.length) z 1 1 Z ⟨wr.heap.size, 0, none⟩ (spR (stepsN ax true k ++ st.map (sgS k))) (spC (twS k)) rfl rfl (HOE.out.grown ((Below.refl _ _).alloc (Nat.le_refl _) _)) hrn rfl (spC_one _) (by decide) (Nat.le_trans HSZ.out (by simp)) (by omega) (by omega) ?_); intro g cap2 w6 hown hbel hgrow hloc)
              have HO6 : Hid (Own w6 w1.heap.size 39 5 (some ⟨g, 0, none⟩) (stepsN ax true (k + 1)).length cap2 (spR (stepsN ax true (k + 1)))) := Lib.hid (by rw [HLX.out, HNX.out, spR_append _ [_], spR_one]; exact hown)
              have HB6 : Hid (Below w1.heap.size w1 w6) := Lib.hid ((HBJ.out.alloc HSZ.out _).trans (hbel.mono (Nat.le_refl _)))
              clear hown hbel hgrow hloc hrn hln hm12
              go_roundw
              case rel => exact ⟨k + 1, some ⟨g, 0, none⟩, cap2, by omega, by go_num, by rw [HLX.out], HO6, HB6⟩
              case measure => simp [intOf]; omega
      · have hke : k = n := by omega
        have HOE : Hid (Own wr w.heap.size 39 5 Z (stepsN ax true n).length z (spR (stepsN ax true n))) := Lib.hid (by have h1 := HO2.out.mono HB1.out.size; rw [hke] at h1; exact h1)
        have HBE := Lib.hid (blT HB1.out HBR.out)
        subst hke
        go_wp2
        go_ret2
        exact ⟨_, _, rfl, HOE.out, HBE.out⟩
end Go.Proofs.YtohcoidbncbijaaDoor.P
