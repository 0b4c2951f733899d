
/- The contracts of slices.Index and slices.Contains at stages, and of step.Check. Conditions: words of their kinds; slices read as lists; the library's table lies as it was laid. -/
import Derived.Test.YtohcoidbncbijaaDoorPlF
import Derived.Test.YtohcoidbncbijaaDoorGrC
import Derived.Test.YtohcoidbncbijaaDoorFac4
namespace Go.Proofs.YtohcoidbncbijaaDoor.P
open Go.RowKit
set_option linter.unusedVariables false
set_option linter.unusedSimpArgs false
set_option maxRecDepth 100000 in
theorem stIndex_calls (A : Option Addr) (c n : Nat) (l : List (Int × Int × Int)) (s0 s1 s2 : Int) (w : World) (hn : l.length = n) (hr : Row w A (stR3 l)) (hl : n ≤ 9223372036854775807) :
    Calls Tryd.prog 130 #[.slice A n c, .agg #[.int .i64 s0, .int .i64 s1, .int .i64 s2]] w fun e w' => ∃ r : Int, e = .returned (.int .i64 r) ∧ (0 ≤ r ↔ (s0, s1, s2) ∈ l) ∧ Below w.heap.size w w' := by
  have HN := Lib.hid hn
  have hb9 : Below w.heap.size w (w.alloc (.cells #[.int .i64 s0, .int .i64 s1, .int .i64 s2] 37)) := (Below.refl _ _).alloc (Nat.le_refl _) _
  have HR := Lib.hid (hr.below hb9)
  have HB9 := Lib.hid hb9
  have hk0 : (w.alloc (.cells #[.int .i64 s0, .int .i64 s1, .int .i64 s2] 37)).cell? ⟨w.heap.size, 0, none⟩ = some (.int .i64 s0) := World.news_of_block (cs := #[.int .i64 s0, .int .i64 s1, .int .i64 s2]) (t := 37) (fr := (0, 0)) (heap_alloc_new w _) 0 _ rfl
  have hk1 : (w.alloc (.cells #[.int .i64 s0, .int .i64 s1, .int .i64 s2] 37)).cell? ⟨w.heap.size, 1, none⟩ = some (.int .i64 s1) := World.news_of_block (cs := #[.int .i64 s0, .int .i64 s1, .int .i64 s2]) (t := 37) (fr := (0, 0)) (heap_alloc_new w _) 1 _ rfl
  have hk2 : (w.alloc (.cells #[.int .i64 s0, .int .i64 s1, .int .i64 s2] 37)).cell? ⟨w.heap.size, 2, none⟩ = some (.int .i64 s2) := World.news_of_block (cs := #[.int .i64 s0, .int .i64 s1, .int .i64 s2]) (t := 37) (fr := (0, 0)) (heap_alloc_new w _) 2 _ rfl
  clear hr hn hb9
  go_enter Tryd.func130, Tryd.ntmps130
  go_wp2
  generalize (w.alloc (.cells #[.int .i64 s0, .int .i64 s1, .int .i64 s2] 37)) = V at *
  go_loopw [8] (fun i wr => ∃ k : Nat, k ≤ n ∧ i = .int .i64 k ∧ Hid (∀ j, (hj : j < l.length) → j < k → l[j] ≠ (s0, s1, s2)) ∧ Drawn0 V wr) (fun i _ => n - (intOf i).toNat)
  case atStart => exact ⟨0, Nat.zero_le _, rfl, Lib.hid fun _ _ h => absurd h (Nat.not_lt_zero _), ⟨0, rfl⟩⟩
  case round =>
    obtain ⟨k, hk, rfl, H, ⟨q, rfl⟩⟩ := hrel
    by_cases hlt : k < n
    · have hka : k < l.length := by have := HN.out; omega
      obtain ⟨x, rfl⟩ := HR.out.some_of (by intro h0; have h1 := stR3_length l; rw [h0] at h1; simp at h1; omega)
      obtain ⟨hc0, hc1, hc2⟩ := stg_cells HR.out hka
      have hmem := List.getElem_mem hka
      generalize hu : l[k] = u at *
      have HU := Lib.hid hu
      clear hu
      obtain ⟨u0, u1, u2⟩ := u
      dsimp only at hc0 hc1 hc2
      by_cases he : s0 = u0 ∧ s1 = u1 ∧ s2 = u2
      · obtain ⟨e0, e1, e2⟩ := he
        subst e0 e1 e2
        have HM := Lib.hid hmem
        clear hmem
        go_wp2
        go_quiet (fail)
        go_wp2
        go_ret
        exact ⟨_, rfl, ⟨fun _ => HM.out, fun _ => by omega⟩, below_drewN (below_drewN HB9.out _) _⟩
      · have H2 : Hid (∀ j, (hj : j < l.length) → j < k + 1 → l[j] ≠ (s0, s1, s2)) := Lib.hid fun j hj hjk => by
          by_cases e : j = k
          · subst e
            rw [HU.out]
            intro h
            simp only [Prod.mk.injEq] at h
            exact he ⟨h.1.symm, h.2.1.symm, h.2.2.symm⟩
          · exact H.out j hj (by omega)
        have hw : s0 ≠ u0 ∨ (s0 = u0 ∧ s1 ≠ u1) ∨ (s0 = u0 ∧ s1 = u1 ∧ s2 ≠ u2) := by
          by_cases e0 : s0 = u0
          · by_cases e1 : s1 = u1
            · exact .inr (.inr ⟨e0, e1, fun e2 => he ⟨e0, e1, e2⟩⟩)
            · exact .inr (.inl ⟨e0, e1⟩)
          · exact .inl e0
        clear he hmem
        rcases hw with h | ⟨rfl, h⟩ | ⟨rfl, rfl, h⟩
        case' inl => have f1 : (s0 == u0) = false := by simpa using h
        case' inr.inl => have f1 : (s1 == u1) = false := by simpa using h
        case' inr.inr => have f1 : (s2 == u2) = false := by simpa using h
        all_goals
          clear h
          go_wp2
          go_quiet (fail)
          go_wp2
          go_roundw
          case rel => exact ⟨k + 1, by omega, by go_num, H2, ⟨_, rfl⟩⟩
          case measure => simp [intOf]; omega
    · have hke : k = n := by omega
      have HNM : Hid (¬ (s0, s1, s2) ∈ l) := Lib.hid fun h => by
        obtain ⟨j, hj, hv⟩ := List.getElem_of_mem h
        exact H.out j hj (by have := HN.out; omega) hv
      clear hke
      go_wp2
      go_ret
      exact ⟨_, rfl, ⟨fun h => absurd h (by decide), fun h => absurd h HNM.out⟩, below_drewN HB9.out _⟩
set_option maxRecDepth 100000 in
theorem stContains_calls (A : Option Addr) (c n : Nat) (l : List (Int × Int × Int)) (s0 s1 s2 : Int) (w : World) (hn : l.length = n) (hr : Row w A (stR3 l)) (hl : n ≤ 9223372036854775807) :
    Calls Tryd.prog 97 #[.slice A n c, .agg #[.int .i64 s0, .int .i64 s1, .int .i64 s2]] w fun e w' => e = .returned (.bool (decide ((s0, s1, s2) ∈ l))) ∧ Below w.heap.size w w' := by
  have HN := Lib.hid hn
  have hb9 : Below w.heap.size w (w.alloc (.cells #[.int .i64 s0, .int .i64 s1, .int .i64 s2] 37)) := (Below.refl _ _).alloc (Nat.le_refl _) _
  have HR := Lib.hid (hr.below hb9)
  have HB9 := Lib.hid hb9
  clear hr hn hb9
  go_enter Tryd.func97, Tryd.ntmps97
  go_wp2_with fail
  refine (stIndex_calls A c n l s0 s1 s2 _ HN.out HR.out hl).mono ?_
  rintro e w2 ⟨r, rfl, hiff, hb⟩
  have HD : Hid (decide (0 ≤ r) = decide ((s0, s1, s2) ∈ l)) := Lib.hid (decide_eq_decide.2 hiff)
  have HB := Lib.hid (blT HB9.out hb)
  clear hiff hb
  go_wp2
  go_ret
  exact ⟨by rw [← HD.out]; rfl, HB.out⟩
set_option maxRecDepth 100000 in
set_option maxHeartbeats 4000000 in
theorem schk_calls (p : Int) (A : Option Addr) (c n : Nat) (ax : List (Int × Bool)) (s0 : Int) (s1 : Bool) (s2 s3 s4 : Int) (w : World) (hn : ax.length = n) (hp : U64 p) (hr : Row w A (axR ax)) (hl : n ≤ 8796093022208) (hw : ∀ a ∈ ax, i64 a.1) (hT : Tab w) :
    Calls Tryd.prog 51 #[.int .u64 p, .slice A n c, .agg #[.int .i64 s0, .bool s1, .int .i64 s2, .int .i64 s3, .int .i64 s4]] w fun e w' => e = .returned (.int .i64 (chk16 p ax (s0, s1, s2, s3, s4))) ∧ Below w.heap.size w w' := by
  have HP := Lib.hid hp
  have HR := Lib.hid hr
  have HN := Lib.hid hn
  have HW := Lib.hid hw
  have HT := Lib.hid hT
  clear hp hr hn hw hT
  obtain ⟨KB, hKB⟩ : ∃ KB : World → Prop, KB = fun ws => Below w.heap.size w ws ∧ w.heap.size < ws.heap.size ∧ ws.cell? ⟨w.heap.size, 0, none⟩ = some (.int .i64 s0) ∧ ws.cell? ⟨w.heap.size, 1, none⟩ = some (.bool s1) ∧ ws.cell? ⟨w.heap.size, 2, none⟩ = some (.int .i64 s2) ∧ ws.cell? ⟨w.heap.size, 3, none⟩ = some (.int .i64 s3) ∧ ws.cell? ⟨w.heap.size, 4, none⟩ = some (.int .i64 s4) := ⟨_, rfl⟩
  have HK0 : Hid (KB (w.alloc (.cells #[.int .i64 s0, .bool s1, .int .i64 s2, .int .i64 s3, .int .i64 s4] 39))) := Lib.hid (by rw [hKB]; exact ⟨(Below.refl _ _).alloc (Nat.le_refl _) _, by simp, World.news_of_block (cs := #[.int .i64 s0, .bool s1, .int .i64 s2, .int .i64 s3, .int .i64 s4]) (t := 39) (fr := (0, 0)) (heap_alloc_new w _) 0 _ rfl, World.news_of_block (cs := #[.int .i64 s0, .bool s1, .int .i64 s2, .int .i64 s3, .int .i64 s4]) (t := 39) (fr := (0, 0)) (heap_alloc_new w _) 1 _ rfl, World.news_of_block (cs := #[.int .i64 s0, .bool s1, .int .i64 s2, .int .i64 s3, .int .i64 s4]) (t := 39) (fr := (0, 0)) (heap_alloc_new w _) 2 _ rfl, World.news_of_block (cs := #[.int .i64 s0, .bool s1, .int .i64 s2, .int .i64 s3, .int .i64 s4]) (t := 39) (fr := (0, 0)) (heap_alloc_new w _) 3 _ rfl, World.news_of_block (cs := #[.int .i64 s0, .bool s1, .int .i64 s2, .int .i64 s3, .int .i64 s4]) (t := 39) (fr := (0, 0)) (heap_alloc_new w _) 4 _ rfl⟩)
  have HKW : Hid (∀ ws, KB ws → Below w.heap.size w ws) := Lib.hid fun ws h => by rw [hKB] at h; exact h.1
  have HKN : Hid (∀ ws ws', KB ws → Below ws.heap.size ws ws' → KB ws') := Lib.hid fun ws ws' h hb => by
    rw [hKB] at h ⊢
    obtain ⟨h1, h4, c0, c1, c2, c3, c4⟩ := h
    exact ⟨h1.trans (hb.mono (Nat.le_of_lt h4)), Nat.lt_of_lt_of_le h4 hb.size, (hb.cell h4).trans c0, (hb.cell h4).trans c1, (hb.cell h4).trans c2, (hb.cell h4).trans c3, (hb.cell h4).trans c4⟩
  have HKC : Hid (∀ ws, KB ws → ws.cell? ⟨w.heap.size, 0, none⟩ = some (.int .i64 s0) ∧ ws.cell? ⟨w.heap.size, 1, none⟩ = some (.bool s1) ∧ ws.cell? ⟨w.heap.size, 2, none⟩ = some (.int .i64 s2) ∧ ws.cell? ⟨w.heap.size, 3, none⟩ = some (.int .i64 s3) ∧ ws.cell? ⟨w.heap.size, 4, none⟩ = some (.int .i64 s4)) := Lib.hid fun ws h => by rw [hKB] at h; exact h.2.2
  clear hKB
  by_cases hc : chk7 p ax = 0
  case neg =>
    have HF : Hid (chk16 p ax (s0, s1, s2, s3, s4) = chk7 p ax) := Lib.hid (by rw [chk16, if_neg hc])
    have t0 : (chk7 p ax != 0) = true := by simpa using hc
    rw [HF.out]
    clear hc
    go_enter Tryd.func51, Tryd.ntmps51
    go_wp2_with fail
    generalize (w.alloc (.cells #[.int .i64 s0, .bool s1, .int .i64 s2, .int .i64 s3, .int .i64 s4] 39)) = V0 at *
    refine (chk7_calls p _ _ _ ax _ HN.out HP.out (HR.out.below (HKW.out _ HK0.out)) hl HW.out (HT.out.below (HKW.out _ HK0.out))).mono ?_
    rintro e w2 ⟨rfl, hb⟩
    have HK2 := Lib.hid (HKN.out _ _ HK0.out hb)
    clear hb
    obtain ⟨hk0, hk1, hk2, hk3, hk4⟩ := HKC.out _ HK2.out
    go_wp2
    go_ret
    exact ⟨rfl, HKW.out _ HK2.out⟩
  have HC := Lib.hid hc
  by_cases hin : 0 ≤ s0 ∧ s0 < n
  case neg =>
    have HF : Hid (chk16 p ax (s0, s1, s2, s3, s4) = 1) := Lib.hid (by rw [chk16, if_pos hc, HN.out, if_neg hin])
    rw [HF.out]
    by_cases h0 : s0 < 0
    case' pos => have f0 : decide (s0 < 0) = true := by simp; omega
    case' neg =>
      have f0 : decide (s0 < 0) = false := by simp; omega
      have f1 : decide ((n : Int) ≤ s0) = true := by simp; omega
    all_goals
      clear hc hin h0
      go_enter Tryd.func51, Tryd.ntmps51
      go_wp2_with fail
      generalize (w.alloc (.cells #[.int .i64 s0, .bool s1, .int .i64 s2, .int .i64 s3, .int .i64 s4] 39)) = V0 at *
      refine (chk7_calls p _ _ _ ax _ HN.out HP.out (HR.out.below (HKW.out _ HK0.out)) hl HW.out (HT.out.below (HKW.out _ HK0.out))).mono ?_
      rw [HC.out]
      rintro e w2 ⟨rfl, hb⟩
      have HK2 := Lib.hid (HKN.out _ _ HK0.out hb)
      clear hb
      obtain ⟨hk0, hk1, hk2, hk3, hk4⟩ := HKC.out _ HK2.out
      go_wp2
      go_ret
      exact ⟨rfl, HKW.out _ HK2.out⟩
  obtain ⟨h0, h1⟩ := hin
  obtain ⟨k, rfl⟩ := Int.eq_ofNat_of_zero_le h0
  have hka : k < ax.length := by have := HN.out; omega
  have hkn : k < n := by omega
  have f0 : decide ((k : Int) < 0) = false := by simp
  have f1 : decide ((n : Int) ≤ (k : Int)) = false := by simp; omega
  have f2 : decide (n ≤ k) = false := by simp; omega
  have hge : ax.getD k (1, false) = ax[k] := by rw [List.getD_eq_getElem?_getD, List.getElem?_eq_getElem hka]; rfl
  have HX : Hid (chk16 p ax ((k : Int), s1, s2, s3, s4) = if s1 then (if (s2, s3, s4) = (0, 0, 0) then 0 else 1) else (if (s2, s3, s4) ∈ (stgS (ax[k]).1).1 then 0 else 1)) := Lib.hid (by
    rw [chk16, if_pos hc, HN.out, if_pos ⟨h0, h1⟩]
    dsimp only
    rw [Int.toNat_natCast, hge])
  have hsm := (chk7_ok hc).smooth _ (List.getElem_mem hka)
  obtain ⟨hg1, hg2⟩ := smooth_stg hsm
  have HI := Lib.hid (HW.out _ (List.getElem_mem hka))
  obtain ⟨xa, rfl⟩ := HR.out.some_of (by intro h0; have h1 := axR_length ax; rw [h0] at h1; simp at h1; omega)
  have HCL : Hid (∀ ws, Row ws (some xa) (axR ax) → ws.cell? (xa.add (k * 2)) = some (.int .i64 (ax[k]).1)) := Lib.hid fun ws h => (ax_cells h hka).1
  obtain ⟨st, hst⟩ : ∃ st, st = (stgS (ax[k]).1).1 := ⟨_, rfl⟩
  rw [← hst] at HX
  have HSS : Hid (stgS (ax[k]).1 = (st, 0)) := Lib.hid (Prod.ext hst.symm hg1)
  have HM12 : Hid (st.length ≤ 12) := Lib.hid (by rw [hst]; exact hg2)
  generalize (ax[k]).1 = a0 at *
  clear hc h0 h1 hka hge hsm hg1 hg2 hst
  cases s1
  · cases hd : decide ((s2, s3, s4) ∈ st)
    case' false => have HF : Hid (chk16 p ax ((k : Int), false, s2, s3, s4) = 1) := Lib.hid (by rw [HX.out, if_neg (by decide), if_neg (of_decide_eq_false hd)])
    case' true => have HF : Hid (chk16 p ax ((k : Int), false, s2, s3, s4) = 0) := Lib.hid (by rw [HX.out, if_neg (by decide), if_pos (of_decide_eq_true hd)])
    all_goals
      have HDD := Lib.hid hd
      rw [HF.out]
      clear hd
      go_enter Tryd.func51, Tryd.ntmps51
      go_wp2_with fail
      generalize (w.alloc (.cells #[.int .i64 (k : Int), .bool false, .int .i64 s2, .int .i64 s3, .int .i64 s4] 39)) = V0 at *
      refine (chk7_calls p _ _ _ ax _ HN.out HP.out (HR.out.below (HKW.out _ HK0.out)) hl HW.out (HT.out.below (HKW.out _ HK0.out))).mono ?_
      rw [HC.out]
      rintro e w2 ⟨rfl, hb⟩
      have HK2 := Lib.hid (HKN.out _ _ HK0.out hb)
      clear hb
      obtain ⟨hk0, hk1, hk2, hk3, hk4⟩ := HKC.out _ HK2.out
      have HKA := Lib.hid (HKN.out _ _ HK2.out ((Below.refl _ _).alloc (Nat.le_refl _) (.cells #[.int .i64 0, .int .i64 0, .int .i64 0] 37)))
      obtain ⟨ha0, ha1, ha2, ha3, ha4⟩ := HKC.out _ HKA.out
      have hca := HCL.out _ (HR.out.below (HKW.out _ HKA.out))
      go_wp2_with fail
      refine (stages_calls a0 _ HI.out (HT.out.below (HKW.out _ HKA.out))).mono ?_
      rw [HSS.out]
      dsimp only
      rintro e w4 ⟨B, b, rfl, ho, hb⟩
      have HK4 := Lib.hid (HKN.out _ _ HKA.out hb)
      have HRS := Lib.hid ho.row
      clear ho hb hca hk0 hk1 hk2 hk3 hk4 ha0 ha1 ha2 ha3 ha4
      obtain ⟨hk0, hk1, hk2, hk3, hk4⟩ := HKC.out _ HK4.out
      go_wp2_with fail
      refine (stContains_calls B b st.length st s2 s3 s4 _ rfl HRS.out (by have := HM12.out; omega)).mono ?_
      rw [HDD.out]
      rintro e w5 ⟨rfl, hb⟩
      have HK5 := Lib.hid (HKN.out _ _ HK4.out hb)
      clear hb
      go_wp2
      go_ret
      exact ⟨rfl, HKW.out _ HK5.out⟩
  · cases hd : decide ((s2, s3, s4) ∈ [((0 : Int), (0 : Int), (0 : Int))])
    case' false => have HF : Hid (chk16 p ax ((k : Int), true, s2, s3, s4) = 1) := Lib.hid (by rw [HX.out, if_pos rfl, if_neg (fun h => of_decide_eq_false hd (by rw [h]; simp))])
    case' true => have HF : Hid (chk16 p ax ((k : Int), true, s2, s3, s4) = 0) := Lib.hid (by rw [HX.out, if_pos rfl, if_pos (List.mem_singleton.1 (of_decide_eq_true hd))])
    all_goals
      have HDD := Lib.hid hd
      rw [HF.out]
      clear hd
      go_enter Tryd.func51, Tryd.ntmps51
      go_wp2_with fail
      generalize (w.alloc (.cells #[.int .i64 (k : Int), .bool true, .int .i64 s2, .int .i64 s3, .int .i64 s4] 39)) = V0 at *
      refine (chk7_calls p _ _ _ ax _ HN.out HP.out (HR.out.below (HKW.out _ HK0.out)) hl HW.out (HT.out.below (HKW.out _ HK0.out))).mono ?_
      rw [HC.out]
      rintro e w2 ⟨rfl, hb⟩
      have HK2 := Lib.hid (HKN.out _ _ HK0.out hb)
      clear hb
      obtain ⟨hk0, hk1, hk2, hk3, hk4⟩ := HKC.out _ HK2.out
      have HKA := Lib.hid (HKN.out _ _ HK2.out ((Below.refl _ _).alloc (Nat.le_refl _) (.cells #[.int .i64 0, .int .i64 0, .int .i64 0] 37)))
      have hr1 : Row (w2.alloc (.cells #[.int .i64 0, .int .i64 0, .int .i64 0] 37)) (some ⟨w2.heap.size, 0, none⟩) (stR3 [((0 : Int), (0 : Int), (0 : Int))]) := row_new w2 [.int .i64 0, .int .i64 0, .int .i64 0] 37
      obtain ⟨ha0, ha1, ha2, ha3, ha4⟩ := HKC.out _ HKA.out
      go_wp2_with fail
      refine (stContains_calls _ _ 1 [((0 : Int), (0 : Int), (0 : Int))] s2 s3 s4 _ rfl hr1 (by decide)).mono ?_
      rw [HDD.out]
      rintro e w5 ⟨rfl, hb⟩
      have HK5 := Lib.hid (HKN.out _ _ HKA.out hb)
      clear hb
      go_wp2
      go_ret
      exact ⟨rfl, HKW.out _ HK5.out⟩
end Go.Proofs.YtohcoidbncbijaaDoor.P
