
/- The contract of brackenref16.Check. Conditions: words of their kinds; slices read as lists. -/
import Derived.Test.YtohcoidbncbijaaDoorStC
import Derived.Test.YtohcoidbncbijaaDoorR7a
namespace Go.Proofs.YtohcoidbncbijaaDoor.P
open Go.RowKit
set_option linter.unusedVariables false
set_option linter.unusedSimpArgs false
theorem tri_ne {a b c x y z : Int} (h : ¬ (a, b, c) = (x, y, z)) : (a == x) = false ∨ ((a == x) = true ∧ (b == y) = false) ∨ ((a == x) = true ∧ (b == y) = true ∧ (c == z) = false) := by
  by_cases e0 : a = x
  · by_cases e1 : b = y
    · exact .inr (.inr ⟨by simp [e0], by simp [e1], by simp; intro e2; exact h (by rw [e0, e1, e2])⟩)
    · exact .inr (.inl ⟨by simp [e0], by simp [e1]⟩)
  · exact .inl (by simp [e0])
set_option maxRecDepth 100000 in
set_option maxHeartbeats 4000000 in
theorem r16chk_calls (p : Int) (A : Option Addr) (c n : Nat) (ax : List (Int × Bool)) (s0 : Int) (s1 : Bool) (s2 s3 s4 : Int) (w : World) (hn : ax.length = n) (hp : U64 p) (hr : Row w A (axR ax)) (hl : n ≤ 8796093022208) (hw : ∀ a ∈ ax, i64 a.1) :
    Calls Tryd.prog 52 #[.int .u64 p, .slice A n c, .agg #[.int .i64 s0, .bool s1, .int .i64 s2, .int .i64 s3, .int .i64 s4]] w fun e w' => e = .returned (.int .i64 (chk16 p ax (s0, s1, s2, s3, s4))) ∧ Below w.heap.size w w' := by
  have HP := Lib.hid hp
  have HR := Lib.hid hr
  have HN := Lib.hid hn
  have HW := Lib.hid hw
  clear hp hr hn hw
  obtain ⟨KB, hKB⟩ : ∃ KB : World → Prop, KB = fun ws => Below w.heap.size w ws ∧ w.heap.size < ws.heap.size ∧ ws.cell? ⟨w.heap.size, 0, none⟩ = some (.int .i64 s0) ∧ ws.cell? ⟨w.heap.size, 1, none⟩ = some (.bool s1) ∧ ws.cell? ⟨w.heap.size, 2, none⟩ = some (.int .i64 s2) ∧ ws.cell? ⟨w.heap.size, 3, none⟩ = some (.int .i64 s3) ∧ ws.cell? ⟨w.heap.size, 4, none⟩ = some (.int .i64 s4) := ⟨_, rfl⟩
  have HK0 : Hid (KB (w.alloc (.cells #[.int .i64 s0, .bool s1, .int .i64 s2, .int .i64 s3, .int .i64 s4] 39))) := Lib.hid (by rw [hKB]; exact ⟨(Below.refl _ _).alloc (Nat.le_refl _) _, by simp, World.news_of_block (cs := #[.int .i64 s0, .bool s1, .int .i64 s2, .int .i64 s3, .int .i64 s4]) (t := 39) (fr := (0, 0)) (heap_alloc_new w _) 0 _ rfl, World.news_of_block (cs := #[.int .i64 s0, .bool s1, .int .i64 s2, .int .i64 s3, .int .i64 s4]) (t := 39) (fr := (0, 0)) (heap_alloc_new w _) 1 _ rfl, World.news_of_block (cs := #[.int .i64 s0, .bool s1, .int .i64 s2, .int .i64 s3, .int .i64 s4]) (t := 39) (fr := (0, 0)) (heap_alloc_new w _) 2 _ rfl, World.news_of_block (cs := #[.int .i64 s0, .bool s1, .int .i64 s2, .int .i64 s3, .int .i64 s4]) (t := 39) (fr := (0, 0)) (heap_alloc_new w _) 3 _ rfl, World.news_of_block (cs := #[.int .i64 s0, .bool s1, .int .i64 s2, .int .i64 s3, .int .i64 s4]) (t := 39) (fr := (0, 0)) (heap_alloc_new w _) 4 _ rfl⟩)
  have HKW : Hid (∀ ws, KB ws → Below w.heap.size w ws) := Lib.hid fun ws h => by rw [hKB] at h; exact h.1
  have HKN : Hid (∀ ws ws', KB ws → Below ws.heap.size ws ws' → KB ws') := Lib.hid fun ws ws' h hb => by
    rw [hKB] at h ⊢
    obtain ⟨h1, h4, c0, c1, c2, c3, c4⟩ := h
    exact ⟨h1.trans (hb.mono (Nat.le_of_lt h4)), Nat.lt_of_lt_of_le h4 hb.size, (hb.cell h4).trans c0, (hb.cell h4).trans c1, (hb.cell h4).trans c2, (hb.cell h4).trans c3, (hb.cell h4).trans c4⟩
  have HKC : Hid (∀ ws, KB ws → ws.cell? ⟨w.heap.size, 0, none⟩ = some (.int .i64 s0) ∧ ws.cell? ⟨w.heap.size, 1, none⟩ = some (.bool s1) ∧ ws.cell? ⟨w.heap.size, 2, none⟩ = some (.int .i64 s2) ∧ ws.cell? ⟨w.heap.size, 3, none⟩ = some (.int .i64 s3) ∧ ws.cell? ⟨w.heap.size, 4, none⟩ = some (.int .i64 s4)) := Lib.hid fun ws h => by rw [hKB] at h; exact h.2.2
  clear hKB
  by_cases hc : chk7 p ax = 0
  case neg =>
    have HF : Hid (chk16 p ax (s0, s1, s2, s3, s4) = chk7 p ax) := Lib.hid (by rw [chk16, if_neg hc])
    have t0 : (chk7 p ax != 0) = true := by simpa using hc
    rw [HF.out]
    clear hc
    go_enter Tryd.func52, Tryd.ntmps52
    go_wp2_with fail
    generalize (w.alloc (.cells #[.int .i64 s0, .bool s1, .int .i64 s2, .int .i64 s3, .int .i64 s4] 39)) = V0 at *
    refine (rchk7_calls p _ _ _ ax _ HN.out HP.out (HR.out.below (HKW.out _ HK0.out)) hl HW.out).mono ?_
    rintro e w2 ⟨rfl, hb⟩
    have HK2 := Lib.hid (HKN.out _ _ HK0.out hb)
    clear hb
    obtain ⟨hk0, hk1, hk2, hk3, hk4⟩ := HKC.out _ HK2.out
    go_wp2
    go_ret
    exact ⟨rfl, HKW.out _ HK2.out⟩
  have HC := Lib.hid hc
  by_cases hin : 0 ≤ s0 ∧ s0 < n
  case neg =>
    have HF : Hid (chk16 p ax (s0, s1, s2, s3, s4) = 1) := Lib.hid (by rw [chk16, if_pos hc, HN.out, if_neg hin])
    rw [HF.out]
    by_cases h0 : s0 < 0
    case' pos => have f0 : decide (s0 < 0) = true := by simp; omega
    case' neg =>
      have f0 : decide (s0 < 0) = false := by simp; omega
      have f1 : decide ((n : Int) ≤ s0) = true := by simp; omega
    all_goals
      clear hc hin h0
      go_enter Tryd.func52, Tryd.ntmps52
      go_wp2_with fail
      generalize (w.alloc (.cells #[.int .i64 s0, .bool s1, .int .i64 s2, .int .i64 s3, .int .i64 s4] 39)) = V0 at *
      refine (rchk7_calls p _ _ _ ax _ HN.out HP.out (HR.out.below (HKW.out _ HK0.out)) hl HW.out).mono ?_
      rw [HC.out]
      rintro e w2 ⟨rfl, hb⟩
      have HK2 := Lib.hid (HKN.out _ _ HK0.out hb)
      clear hb
      obtain ⟨hk0, hk1, hk2, hk3, hk4⟩ := HKC.out _ HK2.out
      go_wp2
      go_ret
      exact ⟨rfl, HKW.out _ HK2.out⟩
  obtain ⟨h0, h1⟩ := hin
  obtain ⟨k, rfl⟩ := Int.eq_ofNat_of_zero_le h0
  have hka : k < ax.length := by have := HN.out; omega
  have hkn : k < n := by omega
  have f0 : decide ((k : Int) < 0) = false := by simp
  have f1 : decide ((n : Int) ≤ (k : Int)) = false := by simp; omega
  have f2 : decide (n ≤ k) = false := by simp; omega
  have hge : ax.getD k (1, false) = ax[k] := by rw [List.getD_eq_getElem?_getD, List.getElem?_eq_getElem hka]; rfl
  have HX : Hid (chk16 p ax ((k : Int), s1, s2, s3, s4) = if s1 then (if (s2, s3, s4) = (0, 0, 0) then 0 else 1) else (if (s2, s3, s4) ∈ (stgS (ax[k]).1).1 then 0 else 1)) := Lib.hid (by
    rw [chk16, if_pos hc, HN.out, if_pos ⟨h0, h1⟩]
    dsimp only
    rw [Int.toNat_natCast, hge])
  have hsm := (chk7_ok hc).smooth _ (List.getElem_mem hka)
  obtain ⟨hg1, hg2⟩ := smooth_stg hsm
  have HI := Lib.hid (HW.out _ (List.getElem_mem hka))
  obtain ⟨xa, rfl⟩ := HR.out.some_of (by intro h0; have h1 := axR_length ax; rw [h0] at h1; simp at h1; omega)
  have HCL : Hid (∀ ws, Row ws (some xa) (axR ax) → ws.cell? (xa.add (k * 2)) = some (.int .i64 (ax[k]).1)) := Lib.hid fun ws h => (ax_cells h hka).1
  obtain ⟨st, hst⟩ : ∃ st, st = (stgS (ax[k]).1).1 := ⟨_, rfl⟩
  rw [← hst] at HX
  have HSS : Hid (stgS (ax[k]).1 = (st, 0)) := Lib.hid (Prod.ext hst.symm hg1)
  have HM12 : Hid (st.length ≤ 12) := Lib.hid (by rw [hst]; exact hg2)
  generalize (ax[k]).1 = a0 at *
  clear hc h0 h1 hka hge hsm hg1 hg2 hst
  cases s1
  · go_enter Tryd.func52, Tryd.ntmps52
    go_wp2_with fail
    generalize (w.alloc (.cells #[.int .i64 (k : Int), .bool false, .int .i64 s2, .int .i64 s3, .int .i64 s4] 39)) = V0 at *
    refine (rchk7_calls p _ _ _ ax _ HN.out HP.out (HR.out.below (HKW.out _ HK0.out)) hl HW.out).mono ?_
    rw [HC.out]
    rintro e w2 ⟨rfl, hb⟩
    have HK2 := Lib.hid (HKN.out _ _ HK0.out hb)
    clear hb
    obtain ⟨hk0, hk1, hk2, hk3, hk4⟩ := HKC.out _ HK2.out
    have hca := HCL.out _ (HR.out.below (HKW.out _ HK2.out))
    go_wp2_with fail
    refine (r04_stages a0 _ HI.out).mono ?_
    rw [HSS.out]
    dsimp only
    rintro e w4 ⟨B, b, rfl, ho, hb⟩
    have HK4 := Lib.hid (HKN.out _ _ HK2.out hb)
    have HRS := Lib.hid ho.row
    clear ho hb hca hk0 hk1 hk2 hk3 hk4
    go_wp2
    go_loopw [46] (fun i wr => ∃ j : Nat, j ≤ st.length ∧ i = .int .i64 j ∧ Hid (∀ q, (hq : q < st.length) → q < j → st[q] ≠ (s2, s3, s4)) ∧ Hid (Below w4.heap.size w4 wr)) (fun i _ => st.length - (intOf i).toNat)
    case atStart => exact ⟨0, Nat.zero_le _, rfl, Lib.hid fun _ _ h => absurd h (Nat.not_lt_zero _), Lib.hid (Below.refl _ _)⟩
    case round =>
      obtain ⟨j, hj, rfl, H, HBR⟩ := hrel
      by_cases hlt : j < st.length
      · obtain ⟨x, rfl⟩ := HRS.out.some_of (by intro h0; have h1 := stR3_length st; rw [h0] at h1; simp at h1; omega)
        obtain ⟨hc0, hc1, hc2⟩ := stg_cells (HRS.out.below HBR.out) hlt
        have hmem := List.getElem_mem hlt
        generalize hu : st[j] = u at *
        have HU := Lib.hid hu
        clear hu
        obtain ⟨u0, u1, u2⟩ := u
        dsimp only at hc0 hc1 hc2
        have HBA : Hid (Below w4.heap.size w4 (wr.alloc (.cells #[.int .i64 u0, .int .i64 u1, .int .i64 u2] 37))) := Lib.hid (HBR.out.alloc HBR.out.size _)
        have HKA := Lib.hid (HKN.out _ _ HK4.out HBA.out)
        obtain ⟨hk0, hk1, hk2, hk3, hk4⟩ := HKC.out _ HKA.out
        by_cases he : (u0, u1, u2) = (s2, s3, s4)
        · simp only [Prod.mk.injEq] at he
          obtain ⟨rfl, rfl, rfl⟩ := he
          have HF : Hid (chk16 p ax ((k : Int), false, u0, u1, u2) = 0) := Lib.hid (by rw [HX.out, if_neg (by decide), if_pos hmem])
          clear hmem
          go_wp2
          go_ret
          exact ⟨by rw [HF.out]; rfl, HKW.out _ HKA.out⟩
        · have H2 : Hid (∀ q, (hq : q < st.length) → q < j + 1 → st[q] ≠ (s2, s3, s4)) := Lib.hid fun q hq hqk => by
            by_cases e : q = j
            · subst e; rw [HU.out]; exact he
            · exact H.out q hq (by omega)
          rcases tri_ne he with f1 | ⟨f1, f2⟩ | ⟨f1, f2, f3⟩
          all_goals
            clear he hmem
            have hj1 : j + 1 ≤ st.length := hlt
            have hm12 := HM12.out
            go_wp2
            go_roundw
            case rel => exact ⟨j + 1, hj1, by go_num, H2, HBA⟩
            case measure => simp [intOf]; omega
      · have HF : Hid (chk16 p ax ((k : Int), false, s2, s3, s4) = 1) := Lib.hid (by
          rw [HX.out, if_neg (by decide), if_neg (fun h => by
            obtain ⟨q, hq, hv⟩ := List.getElem_of_mem h
            exact H.out q hq (by omega) hv)])
        have HKE := Lib.hid (HKN.out _ _ HK4.out HBR.out)
        go_wp2
        go_ret
        exact ⟨by rw [HF.out]; rfl, HKW.out _ HKE.out⟩
  · by_cases he : (s2, s3, s4) = ((0 : Int), (0 : Int), (0 : Int))
    · have HF : Hid (chk16 p ax ((k : Int), true, s2, s3, s4) = 0) := Lib.hid (by rw [HX.out, if_pos rfl, if_pos he])
      rw [HF.out]
      simp only [Prod.mk.injEq] at he
      obtain ⟨rfl, rfl, rfl⟩ := he
      go_enter Tryd.func52, Tryd.ntmps52
      go_wp2_with fail
      generalize (w.alloc (.cells #[.int .i64 (k : Int), .bool true, .int .i64 0, .int .i64 0, .int .i64 0] 39)) = V0 at *
      refine (rchk7_calls p _ _ _ ax _ HN.out HP.out (HR.out.below (HKW.out _ HK0.out)) hl HW.out).mono ?_
      rw [HC.out]
      rintro e w2 ⟨rfl, hb⟩
      have HK2 := Lib.hid (HKN.out _ _ HK0.out hb)
      clear hb
      obtain ⟨hk0, hk1, hk2, hk3, hk4⟩ := HKC.out _ HK2.out
      go_wp2
      go_ret
      exact ⟨rfl, HKW.out _ HK2.out⟩
    · have HF : Hid (chk16 p ax ((k : Int), true, s2, s3, s4) = 1) := Lib.hid (by rw [HX.out, if_pos rfl, if_neg he])
      rw [HF.out]
      rcases tri_ne he with f1 | ⟨f1, f2⟩ | ⟨f1, f2, f3⟩
      all_goals
        clear he
        go_enter Tryd.func52, Tryd.ntmps52
        go_wp2_with fail
        generalize (w.alloc (.cells #[.int .i64 (k : Int), .bool true, .int .i64 s2, .int .i64 s3, .int .i64 s4] 39)) = V0 at *
        refine (rchk7_calls p _ _ _ ax _ HN.out HP.out (HR.out.below (HKW.out _ HK0.out)) hl HW.out).mono ?_
        rw [HC.out]
        rintro e w2 ⟨rfl, hb⟩
        have HK2 := Lib.hid (HKN.out _ _ HK0.out hb)
        clear hb
        obtain ⟨hk0, hk1, hk2, hk3, hk4⟩ := HKC.out _ HK2.out
        go_wp2
        go_ret
        exact ⟨rfl, HKW.out _ HK2.out⟩
end Go.Proofs.YtohcoidbncbijaaDoor.P
