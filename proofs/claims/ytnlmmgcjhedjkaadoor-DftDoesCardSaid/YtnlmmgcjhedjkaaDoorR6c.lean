
/- The contract of brackenref06's Wrap. Conditions: words of their kinds; the slices read as lists. -/
import Derived.Test.YtnlmmgcjhedjkaaDoorR6b
import Derived.Test.YtnlmmgcjhedjkaaDoorDftW
namespace Go.Proofs.YtnlmmgcjhedjkaaDoor.P
open Go.RowKit
set_option linter.unusedVariables false
set_option linter.unusedSimpArgs false
theorem wr_neg {p : Int} {neg : Bool} {n : Nat} {x y : List Int} {i j a : Nat} (ha : (i + j) % n = a) (h : (neg && decide (n ≤ i + j)) = true) (hi : i < x.length) (hj : j < y.length) :
    addS p (wrO p neg n x y i j a) (negS p (mulS p x[i] y[j])) = redS p (wrO p neg n x y i j a + wrT neg n x y a i j) := by
  rw [← wr_sub ha h hi hj]
  unfold addS subS negS
  rw [redS_add_right, Int.sub_eq_add_neg]
set_option maxRecDepth 100000 in
set_option maxHeartbeats 4000000 in
theorem rwrap6_calls (p : Int) (A : Option Addr) (ca n : Nat) (x : List Int) (B : Option Addr) (cb m : Nat) (y : List Int) (neg : Bool) (w : World) (hn : x.length = n) (hm : y.length = m) (hp : U64 p)
    (hr : Row w A (nums .u64 x)) (hl : n ≤ 9223372036854775807) (hw : ∀ d ∈ x, U64 d) (hrv : Row w B (nums .u64 y)) (hlm : m ≤ 9223372036854775807) (hwv : ∀ d ∈ y, U64 d) :
    Calls Tryd.prog 42 #[.int .u64 p, .slice A n ca, .slice B m cb, .bool neg] w fun e w' => ∃ Z z,
      e = .returned (.tuple #[.slice Z (wrS p neg x y).1.length z, .int .i64 (wrS p neg x y).2]) ∧ Own w' w.heap.size 40 1 Z (wrS p neg x y).1.length z (nums .u64 (wrS p neg x y).1) ∧ Below w.heap.size w w' := by
  have HP := Lib.hid hp
  have HR := Lib.hid hr
  have HRV := Lib.hid hrv
  have HW := Lib.hid hw
  have HWV := Lib.hid hwv
  have HN := Lib.hid hn
  have HM := Lib.hid hm
  have HL := Lib.hid hl
  have HLM := Lib.hid hlm
  have hmx : Tryd.prog.follows .mixedOrders = true := by kernel_rfl
  have HMX := Lib.hid hmx
  clear hp hr hrv hw hwv hn hm hmx
  by_cases hx : chk6 p x neg = 0
  case neg =>
    have HF : Hid (wrS p neg x y = ([], chk6 p x neg)) := Lib.hid (by rw [wrS, if_neg hx])
    have t0 : (chk6 p x neg != 0) = true := by simpa using hx
    rw [HF.out]
    clear hx
    go_enter Tryd.func42, Tryd.ntmps42
    go_wp2_with fail
    refine (rchk6_calls _ _ _ _ x _ _ HN.out HP.out HR.out HL.out).mono ?_
    rintro e w1 ⟨rfl, hb⟩
    have HB := Lib.hid hb
    clear hb
    go_wp2
    go_ret2
    exact ⟨none, 0, rfl, Own.nil _ _ _ _, HB.out⟩
  have HCX := Lib.hid hx
  by_cases hy : chk6 p y neg = 0
  case neg =>
    have HF : Hid (wrS p neg x y = ([], chk6 p y neg)) := Lib.hid (by rw [wrS, if_pos hx, if_neg hy])
    have t0 : (chk6 p y neg != 0) = true := by simpa using hy
    rw [HF.out]
    clear hx hy
    go_enter Tryd.func42, Tryd.ntmps42
    go_wp2_with fail
    refine (rchk6_calls _ _ _ _ x _ _ HN.out HP.out HR.out HL.out).mono ?_
    rw [HCX.out]
    rintro e w1 ⟨rfl, hb⟩
    have HB := Lib.hid hb
    clear hb
    go_wp2_with fail
    refine (rchk6_calls _ _ _ _ y _ _ HM.out HP.out (HRV.out.below HB.out) HLM.out).mono ?_
    rintro e w2 ⟨rfl, hb⟩
    have HB2 := Lib.hid (blT HB.out hb)
    clear hb
    go_wp2
    go_ret2
    exact ⟨none, 0, rfl, Own.nil _ _ _ _, HB2.out⟩
  have HCY := Lib.hid hy
  by_cases hnm : m = n
  case neg =>
    have HF : Hid (wrS p neg x y = ([], 6)) := Lib.hid (by rw [wrS, if_pos hx, if_pos hy, if_neg (by rw [HN.out, HM.out]; exact hnm)])
    have t1 : ((n : Int) != (m : Int)) = true := by simp; omega
    rw [HF.out]
    clear hx hy hnm
    go_enter Tryd.func42, Tryd.ntmps42
    go_wp2_with fail
    refine (rchk6_calls _ _ _ _ x _ _ HN.out HP.out HR.out HL.out).mono ?_
    rw [HCX.out]
    rintro e w1 ⟨rfl, hb⟩
    have HB := Lib.hid hb
    clear hb
    go_wp2_with fail
    refine (rchk6_calls _ _ _ _ y _ _ HM.out HP.out (HRV.out.below HB.out) HLM.out).mono ?_
    rw [HCY.out]
    rintro e w2 ⟨rfl, hb⟩
    have HB2 := Lib.hid (blT HB.out hb)
    clear hb
    go_wp2
    go_ret2
    exact ⟨none, 0, rfl, Own.nil _ _ _ _, HB2.out⟩
  subst hnm
  have t1 : ((m : Int) != (m : Int)) = false := by simp
  have HF : Hid (wrS p neg x y = (wrL p neg x y, 0)) := Lib.hid (by rw [wrS, if_pos hx, if_pos hy, if_pos (by rw [HN.out, HM.out])])
  have hk := (chk6_ok hx).1
  have hn1 : 1 ≤ m := by have := hk.n1; have := HN.out; omega
  have hn4 : m ≤ 4096 := by have := hk.n2; have := HN.out; omega
  have HWL : Hid ((wrL p neg x y).length = m) := Lib.hid (by rw [wrL_length]; exact HN.out)
  have HWF : Hid (wrOL p neg m x y m 0 = wrL p neg x y) := Lib.hid (by have h1 := wrOL_all p neg x y; rw [HN.out] at h1; exact h1)
  have hmk := make_u64 m (by omega)
  have hm0 : ¬ (m : Int) = 0 := by omega
  have hmz : ¬ m = 0 := by omega
  obtain ⟨xa, rfl⟩ := HR.out.some_of (by intro h0; have h1 := nums_length .u64 x; rw [h0, HN.out] at h1; simp at h1; omega)
  obtain ⟨ya, rfl⟩ := HRV.out.some_of (by intro h0; have h1 := nums_length .u64 y; rw [h0, HM.out] at h1; simp at h1; omega)
  clear hx hy hk
  go_enter Tryd.func42, Tryd.ntmps42
  go_wp2_with fail
  refine (rchk6_calls _ _ _ _ x _ _ HN.out HP.out HR.out HL.out).mono ?_
  rw [HCX.out]
  rintro e w1 ⟨rfl, hb⟩
  have HB1 := Lib.hid hb
  clear hb
  go_wp2_with fail
  refine (rchk6_calls _ _ _ _ y _ _ HM.out HP.out (HRV.out.below HB1.out) HLM.out).mono ?_
  rw [HCY.out]
  rintro e w2 ⟨rfl, hb⟩
  have HBW := Lib.hid (blT HB1.out hb)
  clear hb
  have HR1 := Lib.hid (HR.out.below HBW.out)
  have HRV1 := Lib.hid (HRV.out.below HBW.out)
  go_wp2
  have hown := own_made w2 w2.heap.size 40 (.int .u64 0) m (Nat.le_refl _) (by omega)
  have hbel : Below w2.heap.size w2 (w2.alloc (.cells (madeCells #[.int .u64 0] m) 40)) := (Below.refl _ _).alloc (Nat.le_refl _) _
  rw [nums_replicate, ← wrOL_start p neg m x y] at hown
  obtain ⟨KB, hKB⟩ : ∃ KB : World → Prop, KB = fun ws => Below w2.heap.size w2 ws := ⟨_, rfl⟩
  have hkv : KB (w2.alloc (.cells (madeCells #[.int .u64 0] m) 40)) := by rw [hKB]; exact hbel
  have HKB : Hid (∀ ws, KB ws → Below w.heap.size w ws) := Lib.hid fun ws h => by rw [hKB] at h; exact blT HBW.out h
  have HKX : Hid (∀ ws, KB ws → Row ws (some xa) (nums .u64 x)) := Lib.hid fun ws h => by rw [hKB] at h; exact HR1.out.below h
  have HKY : Hid (∀ ws, KB ws → Row ws (some ya) (nums .u64 y)) := Lib.hid fun ws h => by rw [hKB] at h; exact HRV1.out.below h
  have HKD : Hid (∀ ws q, KB ws → KB (ws.drewN q)) := Lib.hid fun ws q h => by rw [hKB] at h ⊢; exact below_drewN h q
  have HKS : Hid (∀ ws (a : Nat) v, KB ws → KB (ws.setCell ⟨w2.heap.size, a, none⟩ v)) := Lib.hid fun ws a v h => by rw [hKB] at h ⊢; exact h.setCell (Nat.le_refl _) v
  have hgs : w.heap.size ≤ w2.heap.size := HBW.out.size
  have HGS := Lib.hid hgs
  generalize (w2.alloc (.cells (madeCells #[.int .u64 0] m) 40)) = V at *
  generalize w2.heap.size = gs at *
  have HO := Lib.hid hown
  clear hown hbel hmk hgs hKB
  go_loopw [42] (fun q ws => ∃ i : Nat, i ≤ m ∧ q = .int .i64 i ∧ Hid (Own ws gs 40 1 (some ⟨gs, 0, none⟩) m m (nums .u64 (wrOL p neg m x y i 0))) ∧ KB ws) (fun q _ => m - (intOf q).toNat)
  case atStart => exact ⟨0, Nat.zero_le _, rfl, HO, hkv⟩
  case round =>
    obtain ⟨i, him, rfl, HO2, hk2⟩ := hrel
    by_cases hilt : i < m
    · have hix : i < x.length := by rw [HN.out]; exact hilt
      have hcx : wr.cell? (xa.add i) = some (.int .u64 x[i]) := (HKX.out _ hk2).num hix
      have HUX : Hid (U64 x[i]) := Lib.hid (HW.out _ (List.getElem_mem hix))
      have HXI : Hid (∀ (j : Nat) (hj : j < y.length) (a : Nat), (i + j) % m = a → a < m → ((neg && decide (m ≤ i + j)) = false → (wrOL p neg m x y i j).set a (addS p (wrO p neg m x y i j a) (mulS p x[i] y[j])) = wrOL p neg m x y i (j + 1)) ∧
        ((neg && decide (m ≤ i + j)) = true → (wrOL p neg m x y i j).set a (addS p (wrO p neg m x y i j a) (negS p (mulS p x[i] y[j]))) = wrOL p neg m x y i (j + 1))) := Lib.hid fun j hj a ha ham =>
        ⟨fun h => wrOL_set ha ham (wr_add ha h hix hj), fun h => wrOL_set ha ham (wr_neg ha h hix hj)⟩
      generalize x[i] = u at *
      go_wp2
      go_hide hQ
      go_loopw [49] (fun q wt => ∃ j : Nat, j ≤ m ∧ q = .int .i64 j ∧ Hid (Own wt gs 40 1 (some ⟨gs, 0, none⟩) m m (nums .u64 (wrOL p neg m x y i j))) ∧ KB wt) (fun q _ => m - (intOf q).toNat)
      case atStart => exact ⟨0, Nat.zero_le _, rfl, HO2, hk2⟩
      case round =>
        obtain ⟨j, hjm, rfl, HO3, hk3⟩ := hrel
        by_cases hjlt : j < m
        · have hjy : j < y.length := by rw [HM.out]; exact hjlt
          have hcy : wr.cell? (ya.add j) = some (.int .u64 y[j]) := (HKY.out _ hk3).num hjy
          have HUY : Hid (U64 y[j]) := Lib.hid (HWV.out _ (List.getElem_mem hjy))
          have HXJ := Lib.hid (fun a => HXI.out j hjy a)
          generalize y[j] = v at *
          obtain ⟨a, ham, haa⟩ : ∃ a, a < m ∧ (i + j) % m = a := ⟨_, Nat.mod_lt _ (by omega), rfl⟩
          have HXA := Lib.hid (HXJ.out a haa ham)
          have hco : wr.cell? ⟨gs, a, none⟩ = some (.int .u64 (wrO p neg m x y i j a)) := by
            rw [HO3.out.cellAt a ham, nums_get .u64 _ a (by rw [wrOL_length]; exact ham), wrOL_at _ _ _ _ _ _ _ ham]
          have hfo : wr.frozen? ⟨gs, a, none⟩ = false := HO3.out.frozenAt a
          have HOU := Lib.hid (u64_wrO p neg m x y i j a)
          have hw1 : IntKind.i64.wrap ((i : Int) + (j : Int)) = ((i + j : Nat) : Int) := by rw [wrapI (by omega) (by omega)]; push_cast; rfl
          have hw2 : wrap64 ((i : Int) + (j : Int)) = ((i + j : Nat) : Int) := by rw [wrap64_id ⟨by omega, by omega⟩]; push_cast; rfl
          have hrt : ((i + j : Nat) : Int).tmod (m : Int) = (a : Int) := by rw [Int.tmod_eq_emod_of_nonneg (by omega), ← haa]; push_cast; rfl
          have hre : ((i + j : Nat) : Int) % (m : Int) = (a : Int) := by rw [← haa]; push_cast; rfl
          have hwa : IntKind.i64.wrap (a : Int) = (a : Int) := wrapI (by omega) (by omega)
          have hwa2 : wrap64 (a : Int) = (a : Int) := wrap64_id ⟨by omega, by omega⟩
          clear HXJ
          generalize wrO p neg m x y i j a = old at *
          have HSOG : Hid (∀ new, (wrOL p neg m x y i j).set a new = wrOL p neg m x y i (j + 1) → ∀ q, Own ((wr.drewN q).setCell ⟨gs, a, none⟩ (.int .u64 new)) gs 40 1 (some ⟨gs, 0, none⟩) m m (nums .u64 (wrOL p neg m x y i (j + 1)))) := Lib.hid fun new hst q => by
            have h1 := (HO3.out.drewN q).stored a (.int .u64 new)
            rw [nums_set, hst] at h1
            exact h1
          have HUM : Hid (U64 (mulS p u v)) := Lib.hid (u64_mulS _ _ _)
          have HMU : Hid (∀ w, Calls Tryd.prog 90 #[.int .u64 p, .int .u64 u, .int .u64 v] w fun e w' => e = .returned (.int .u64 (mulS p u v)) ∧ w' = w) := Lib.hid fun w => r01_mul p u v w HP.out HUX.out HUY.out
          generalize mulS p u v = mm at *
          generalize hij : i + j = ij at *
          by_cases hneg : neg = true ∧ m ≤ ij
          case' pos =>
            obtain ⟨rfl, hle⟩ := hneg
            have hd : decide (m ≤ ij) = true := by simpa using hle
            have hd1 : decide ((m : Int) ≤ (ij : Int)) = true := decide_eq_true (Int.ofNat_le.2 hle)
            have HST := Lib.hid (HXA.out.2 (by rw [hd]; rfl))
            have HUZ : Hid (U64 (negS p mm)) := Lib.hid (u64_redS _ _)
            have HNG : Hid (∀ w, Calls Tryd.prog 95 #[.int .u64 p, .int .u64 mm] w fun e w' => e = .returned (.int .u64 (negS p mm)) ∧ w' = w) := Lib.hid fun w => r01_neg p mm w HP.out HUM.out
            generalize negS p mm = zz at *
          case' neg =>
            have hd : (neg && decide (m ≤ ij)) = false := by
              cases neg
              · rfl
              · have : ¬ m ≤ ij := fun h => hneg ⟨rfl, h⟩
                rw [decide_eq_false this]; rfl
            have HST := Lib.hid (HXA.out.1 hd)
            have hd1 : neg = true → decide ((m : Int) ≤ (ij : Int)) = false := fun h => by
              exact decide_eq_false (fun h3 => hneg ⟨h, Int.ofNat_le.1 h3⟩)
            have HUZ : Hid (U64 mm) := HUM
            have hd3 : neg = true → decide (m ≤ ij) = false := fun h => decide_eq_false (fun h3 => hneg ⟨h, h3⟩)
            clear hneg hd
            cases neg
            case' true =>
              have hd2 := hd1 rfl
              have hd4 := hd3 rfl
            all_goals clear hd1 hd3
          all_goals
            have HADD : Hid (∀ w, Calls Tryd.prog 89 #[.int .u64 p, .int .u64 old, .int .u64 _] w fun e w' => e = .returned (.int .u64 (addS p old _)) ∧ Drawn0 w w') := Lib.hid fun w => r01_add p old _ w HP.out HOU.out HUZ.out
            have HSO := Lib.hid (HSOG.out _ HST.out)
            generalize addS p old _ = new at *
            clear HXA HSOG
            go_wp2_with fail
            refine (HMU.out _).mono ?_
            rintro e w9 ⟨rfl, rfl⟩
            first
              | (go_wp2_with fail
                 refine (HNG.out _).mono ?_
                 rintro e w10 ⟨rfl, rfl⟩
                 go_wp2)
              | go_wp2
            refine region_marks2 (k := 21) (S := (fun w' => w'.cell? ⟨gs, a, none⟩ = some (.int .u64 old))) (T := fun i => decide (i < 20)) HMX.out rfl hco (fun hS => ?_)
            refine wpAnyT_take3 (i := 0) (v := ?_) rfl (by kernel_rfl) (by kernel_rfl) (by kernel_rfl) (by kernel_rfl) (by kernel_rfl) (fun _ _ _ h => h) hS (Or.inl ⟨by rfl, ?_⟩) ?_
            rotate_left
            · (intro w' hSw; (try dsimp only at hSw); go_simp; (try with_reducible rfl))
            (try simp only [Act.put, List.setIfInBounds_toArray, List.set_cons_zero, List.set_cons_succ])
            refine wpAnyT_take3 (i := 1) (v := ?_) rfl (by kernel_rfl) (by kernel_rfl) (by kernel_rfl) (by kernel_rfl) (by kernel_rfl) (fun _ _ _ h => h) hS (Or.inl ⟨by rfl, ?_⟩) ?_
            rotate_left
            · (intro w' hSw; (try dsimp only at hSw); go_simp; (try with_reducible rfl))
            (try simp only [Act.put, List.setIfInBounds_toArray, List.set_cons_zero, List.set_cons_succ])
            refine wpAnyT_take3 (i := 2) (v := ?_) rfl (by kernel_rfl) (by kernel_rfl) (by kernel_rfl) (by kernel_rfl) (by kernel_rfl) (fun _ _ _ h => h) hS (Or.inl ⟨by rfl, ?_⟩) ?_
            rotate_left
            · (intro w' hSw; (try dsimp only at hSw); go_simp; (try with_reducible rfl))
            (try simp only [Act.put, List.setIfInBounds_toArray, List.set_cons_zero, List.set_cons_succ])
            refine wpAnyT_take3 (i := 3) (v := ?_) rfl (by kernel_rfl) (by kernel_rfl) (by kernel_rfl) (by kernel_rfl) (by kernel_rfl) (fun _ _ _ h => h) hS (Or.inl ⟨by rfl, ?_⟩) ?_
            rotate_left
            · (intro w' hSw; (try dsimp only at hSw); go_simp; (try with_reducible rfl))
            (try simp only [Act.put, List.setIfInBounds_toArray, List.set_cons_zero, List.set_cons_succ])
            refine wpAnyT_take3 (i := 4) (v := ?_) rfl (by kernel_rfl) (by kernel_rfl) (by kernel_rfl) (by kernel_rfl) (by kernel_rfl) (fun _ _ _ h => h) hS (Or.inl ⟨by rfl, ?_⟩) ?_
            rotate_left
            · (intro w' hSw; (try dsimp only at hSw); go_simp; (try with_reducible rfl))
            (try simp only [Act.put, List.setIfInBounds_toArray, List.set_cons_zero, List.set_cons_succ])
            refine wpAnyT_take3 (i := 5) (v := ?_) rfl (by kernel_rfl) (by kernel_rfl) (by kernel_rfl) (by kernel_rfl) (by kernel_rfl) (fun _ _ _ h => h) hS (Or.inl ⟨by rfl, ?_⟩) ?_
            rotate_left
            · (intro w' hSw; (try dsimp only at hSw); go_simp; (try with_reducible rfl))
            (try simp only [Act.put, List.setIfInBounds_toArray, List.set_cons_zero, List.set_cons_succ])
            refine wpAnyT_take3 (i := 6) (v := ?_) rfl (by kernel_rfl) (by kernel_rfl) (by kernel_rfl) (by kernel_rfl) (by kernel_rfl) (fun _ _ _ h => h) hS (Or.inl ⟨by rfl, ?_⟩) ?_
            rotate_left
            · (intro w' hSw; (try dsimp only at hSw); go_simp; (try with_reducible rfl))
            (try simp only [Act.put, List.setIfInBounds_toArray, List.set_cons_zero, List.set_cons_succ])
            refine wpAnyT_take3 (i := 7) (v := ?_) rfl (by kernel_rfl) (by kernel_rfl) (by kernel_rfl) (by kernel_rfl) (by kernel_rfl) (fun _ _ _ h => h) hS (Or.inl ⟨by rfl, ?_⟩) ?_
            rotate_left
            · (intro w' hSw; (try dsimp only at hSw); go_simp; (try with_reducible rfl))
            (try simp only [Act.put, List.setIfInBounds_toArray, List.set_cons_zero, List.set_cons_succ])
            refine wpAnyT_take3 (i := 8) (v := ?_) rfl (by kernel_rfl) (by kernel_rfl) (by kernel_rfl) (by kernel_rfl) (by kernel_rfl) (fun _ _ _ h => h) hS (Or.inl ⟨by rfl, ?_⟩) ?_
            rotate_left
            · (intro w' hSw; (try dsimp only at hSw); go_simp; (try with_reducible rfl))
            (try simp only [Act.put, List.setIfInBounds_toArray, List.set_cons_zero, List.set_cons_succ])
            refine wpAnyT_take3 (i := 9) (v := ?_) rfl (by kernel_rfl) (by kernel_rfl) (by kernel_rfl) (by kernel_rfl) (by kernel_rfl) (fun _ _ _ h => h) hS (Or.inl ⟨by rfl, ?_⟩) ?_
            rotate_left
            · (intro w' hSw; (try dsimp only at hSw); go_simp; (try with_reducible rfl))
            (try simp only [Act.put, List.setIfInBounds_toArray, List.set_cons_zero, List.set_cons_succ])
            refine wpAnyT_take3 (i := 10) (v := ?_) rfl (by kernel_rfl) (by kernel_rfl) (by kernel_rfl) (by kernel_rfl) (by kernel_rfl) (fun _ _ _ h => h) hS (Or.inl ⟨by rfl, ?_⟩) ?_
            rotate_left
            · (intro w' hSw; (try dsimp only at hSw); go_simp; (try with_reducible rfl))
            (try simp only [Act.put, List.setIfInBounds_toArray, List.set_cons_zero, List.set_cons_succ])
            refine wpAnyT_take3 (i := 11) (v := ?_) rfl (by kernel_rfl) (by kernel_rfl) (by kernel_rfl) (by kernel_rfl) (by kernel_rfl) (fun _ _ _ h => h) hS (Or.inl ⟨by rfl, ?_⟩) ?_
            rotate_left
            · (intro w' hSw; (try dsimp only at hSw); go_simp; (try with_reducible rfl))
            (try simp only [Act.put, List.setIfInBounds_toArray, List.set_cons_zero, List.set_cons_succ])
            refine wpAnyT_take3 (i := 12) (v := ?_) rfl (by kernel_rfl) (by kernel_rfl) (by kernel_rfl) (by kernel_rfl) (by kernel_rfl) (fun _ _ _ h => h) hS (Or.inl ⟨by rfl, ?_⟩) ?_
            rotate_left
            · (intro w' hSw; (try dsimp only at hSw); go_simp; (try with_reducible rfl))
            (try simp only [Act.put, List.setIfInBounds_toArray, List.set_cons_zero, List.set_cons_succ])
            refine wpAnyT_take3 (i := 13) (v := ?_) rfl (by kernel_rfl) (by kernel_rfl) (by kernel_rfl) (by kernel_rfl) (by kernel_rfl) (fun _ _ _ h => h) hS (Or.inl ⟨by rfl, ?_⟩) ?_
            rotate_left
            · (intro w' hSw; (try dsimp only at hSw); go_simp; (try with_reducible rfl))
            (try simp only [Act.put, List.setIfInBounds_toArray, List.set_cons_zero, List.set_cons_succ])
            refine wpAnyT_take3 (i := 14) (v := ?_) rfl (by kernel_rfl) (by kernel_rfl) (by kernel_rfl) (by kernel_rfl) (by kernel_rfl) (fun _ _ _ h => h) hS (Or.inl ⟨by rfl, ?_⟩) ?_
            rotate_left
            · (intro w' hSw; (try dsimp only at hSw); go_simp; (try with_reducible rfl))
            (try simp only [Act.put, List.setIfInBounds_toArray, List.set_cons_zero, List.set_cons_succ])
            refine wpAnyT_take3 (i := 15) (v := ?_) rfl (by kernel_rfl) (by kernel_rfl) (by kernel_rfl) (by kernel_rfl) (by kernel_rfl) (fun _ _ _ h => h) hS (Or.inl ⟨by rfl, ?_⟩) ?_
            rotate_left
            · (intro w' hSw; (try dsimp only at hSw); go_simp; (try with_reducible rfl))
            (try simp only [Act.put, List.setIfInBounds_toArray, List.set_cons_zero, List.set_cons_succ])
            refine wpAnyT_take3 (i := 16) (v := ?_) rfl (by kernel_rfl) (by kernel_rfl) (by kernel_rfl) (by kernel_rfl) (by kernel_rfl) (fun _ _ _ h => h) hS (Or.inl ⟨by rfl, ?_⟩) ?_
            rotate_left
            · (intro w' hSw; (try dsimp only at hSw); go_simp; (try with_reducible rfl))
            (try simp only [Act.put, List.setIfInBounds_toArray, List.set_cons_zero, List.set_cons_succ])
            refine wpAnyT_take3 (i := 17) (v := ?_) rfl (by kernel_rfl) (by kernel_rfl) (by kernel_rfl) (by kernel_rfl) (by kernel_rfl) (fun _ _ _ h => h) hS (Or.inl ⟨by rfl, ?_⟩) ?_
            rotate_left
            · (intro w' hSw; (try dsimp only at hSw); go_simp; (try with_reducible rfl))
            (try simp only [Act.put, List.setIfInBounds_toArray, List.set_cons_zero, List.set_cons_succ])
            refine wpAnyT_one (i := 18) (by kernel_rfl) rfl (fun K hK => ?_)
            go_simp
            refine (HADD.out _).mono ?_
            rintro e w3 ⟨rfl, ⟨q3, rfl⟩⟩
            refine hK _ _ (fun _ => hS) ?_
            clear hK K
            (try simp only [Act.put, List.setIfInBounds_toArray, List.set_cons_zero, List.set_cons_succ])
            refine wpAnyT_one (i := 19) (by kernel_rfl) rfl (fun K hK => ?_)
            go_simp
            refine hK _ _ (fun _ => hS) ?_
            clear hK K
            (try simp only [Act.put, List.setIfInBounds_toArray, List.set_cons_zero, List.set_cons_succ])
            refine wpAnyT_one (i := 20) (by kernel_rfl) rfl (fun K hK => ?_)
            go_simp
            refine hK _ _ (fun h => by cases h) ?_
            clear hK K
            (try simp only [Act.put, List.setIfInBounds_toArray, List.set_cons_zero, List.set_cons_succ])
            refine wpAnyT_done (by kernel_rfl) ?_ _
            refine NoPanic.normal ?_
            go_wp2
            go_roundw
            case rel => exact ⟨j + 1, by omega, by go_num, Lib.hid (HSO.out _), HKS.out _ _ _ (HKD.out _ _ hk3)⟩
            case measure => simp [intOf]; omega
        · have hje : j = m := by omega
          have HO4 : Hid (Own wr gs 40 1 (some ⟨gs, 0, none⟩) m m (nums .u64 (wrOL p neg m x y (i + 1) 0))) := Lib.hid (by have h1 := HO3.out; rw [hje, wrOL_next] at h1; exact h1)
          clear hje
          go_wp2
          subst hQ
          go_wp2
          go_roundw
          case rel => exact ⟨i + 1, by omega, by go_num, HO4, hk3⟩
          case measure => simp [intOf]; omega
    · have hie : i = m := by omega
      have HOE : Hid (Own wr w.heap.size 40 1 (some ⟨gs, 0, none⟩) m m (nums .u64 (wrL p neg x y))) := Lib.hid (by have h1 := HO2.out.mono HGS.out; rw [hie, HWF.out] at h1; exact h1)
      have HBE := Lib.hid (HKB.out _ hk2)
      clear hie
      go_wp2
      go_ret2
      rw [HF.out, show ((wrL p neg x y, (0 : Int)).1.length) = m from HWL.out]
      exact ⟨_, _, rfl, HOE.out, HBE.out⟩
end Go.Proofs.YtnlmmgcjhedjkaaDoor.P
