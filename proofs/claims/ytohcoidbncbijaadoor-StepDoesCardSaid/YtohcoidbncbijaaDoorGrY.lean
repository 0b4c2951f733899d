
/- The contract of grid.Axis. Conditions: words of their kinds; slices read as lists; the library's table lies as it was laid. -/
import Derived.Test.YtohcoidbncbijaaDoorGrX
namespace Go.Proofs.YtohcoidbncbijaaDoor.P
open Go.RowKit
set_option linter.unusedVariables false
set_option linter.unusedSimpArgs false
set_option maxRecDepth 100000 in
set_option maxHeartbeats 4000000 in
theorem axis7_calls (p : Int) (A : Option Addr) (c n : Nat) (ax : List (Int × Bool)) (a : Int) (inv : Bool) (X : Option Addr) (ca m : Nat) (x : List Int) (w : World) (hn : ax.length = n) (hm : x.length = m) (hp : U64 p)
    (hr : Row w A (axR ax)) (hl : n ≤ 8796093022208) (hw : ∀ a ∈ ax, i64 a.1) (hrx : Row w X (nums .u64 x)) (hlm : m ≤ 9223372036854775807) (hwx : ∀ d ∈ x, U64 d) (hT : Tab w) :
    Calls Tryd.prog 54 #[.int .u64 p, .slice A n c, .int .i64 a, .bool inv, .slice X m ca] w fun e w' => ∃ B b,
      e = .returned (.tuple #[.slice B (axS p ax a inv x).1.length b, .int .i64 (axS p ax a inv x).2]) ∧ Own w' w.heap.size 22 1 B (axS p ax a inv x).1.length b (nums .u64 (axS p ax a inv x).1) ∧ Below w.heap.size w w' := by
  have HP := Lib.hid hp
  have HR := Lib.hid hr
  have HRX := Lib.hid hrx
  have HN := Lib.hid hn
  have HM := Lib.hid hm
  have HW := Lib.hid hw
  have HU := Lib.hid hwx
  have HT := Lib.hid hT
  clear hp hr hn hw hT hrx hm hwx
  by_cases hc : wrd7 p ax x = 0
  case neg =>
    have HF : Hid (axS p ax a inv x = ([], wrd7 p ax x)) := Lib.hid (by rw [axS, if_neg hc])
    have t0 : (wrd7 p ax x != 0) = true := by simpa using hc
    rw [HF.out]
    clear hc
    go_enter Tryd.func54, Tryd.ntmps54
    go_wp2_with fail
    refine (wrd7_calls _ _ _ _ _ _ _ _ _ _ HN.out HM.out HP.out HR.out hl HW.out HRX.out hlm HT.out).mono ?_
    rintro e w1 ⟨rfl, hb⟩
    have HB := Lib.hid hb
    clear hb
    go_wp2
    go_ret2
    exact ⟨none, 0, rfl, Own.nil _ _ _ _, HB.out⟩
  have HC := Lib.hid hc
  by_cases hin : 0 ≤ a ∧ a < n
  case neg =>
    have HF : Hid (axS p ax a inv x = ([], 1)) := Lib.hid (by rw [axS, if_pos hc, HN.out, if_neg hin])
    clear hc
    rw [HF.out]
    by_cases h0 : a < 0
    case' pos =>
      have f0 : decide (a < 0) = true := by simp; omega
    case' neg =>
      have f0 : decide (a < 0) = false := by simp; omega
      have f1 : decide ((n : Int) ≤ a) = true := by simp; omega
    all_goals
      clear h0 hin
      go_enter Tryd.func54, Tryd.ntmps54
      go_wp2_with fail
      refine (wrd7_calls _ _ _ _ _ _ _ _ _ _ HN.out HM.out HP.out HR.out hl HW.out HRX.out hlm HT.out).mono ?_
      rw [HC.out]
      rintro e w1 ⟨rfl, hb⟩
      have HB := Lib.hid hb
      clear hb
      go_wp2
      go_ret2
      exact ⟨none, 0, rfl, Own.nil _ _ _ _, HB.out⟩
  obtain ⟨h0, h1⟩ := hin
  obtain ⟨N, rfl⟩ := Int.eq_ofNat_of_zero_le h0
  have hNn : N < n := by omega
  obtain ⟨hC7, hPL, hIN⟩ := wrd7_ok hc
  have hNa : N < ax.length := by rw [HN.out]; exact hNn
  obtain ⟨hA, hC6⟩ := hC7.at hNa
  have hga : ax.getD N (1, false) = ax[N] := by rw [List.getD_eq_getElem?_getD, List.getElem?_eq_getElem hNa]; rfl
  have HF : Hid (axS p ax (N : Int) inv x = (axL p (dimsA ax) N (ax.getD N (1, false)).2 inv x, 0)) := Lib.hid (by
    rw [axS, if_pos hc, HN.out, if_pos ⟨h0, h1⟩, Int.toNat_natCast])
  have f0 : decide ((N : Int) < 0) = false := by simp
  have f1 : decide ((n : Int) ≤ (N : Int)) = false := by simp; omega
  have HDN : Hid ((dimsA ax).length = n) := Lib.hid (by rw [dimsA_length]; exact HN.out)
  have HDW := Lib.hid (dimsA_i64 HW.out)
  have HDI := Lib.hid hC7.dims
  have HI := Lib.hid hIN
  have hm4 : m ≤ 4096 := by have h2 := hC7.dims.all; have h3 := HM.out; omega
  have hd1 := hA.D1
  have hd4 := hC6.n2
  have hgd : (dimsA ax).getD N 1 = (dimsA ax)[N]'hA.lt := getD_at hA.lt 1
  have hneg : ∀ (w' : World) (xa : Addr), Row w' (some xa) (axR ax) → w'.cell? ⟨(xa.add (N * 2)).block, (xa.add (N * 2)).off + 1, none⟩ = some (.bool (ax.getD N (1, false)).2) := fun w' xa h => by
    rw [hga]; exact (ax_cells h hNa).2
  have HNEG := Lib.hid hneg
  obtain ⟨D, hD⟩ := Int.eq_ofNat_of_zero_le (show 0 ≤ (dimsA ax).getD N 1 by omega)
  have HDC : Hid (∀ (w' : World) (da : Addr), Row w' (some da) (nums .i64 (dimsA ax)) → w'.cell? (da.add N) = some (.int .i64 (D : Int))) := Lib.hid fun w' da h => by
    have h2 := h.num hA.lt
    rw [← hgd, hD] at h2
    exact h2
  rw [hD] at hd1 hC6 hd4
  rw [Int.toNat_natCast] at hC6 hd4
  obtain ⟨K, hK⟩ := Int.eq_ofNat_of_zero_le (show 0 ≤ (m : Int) / (D : Int) from Int.ediv_nonneg (by omega) (by omega))
  have hK4 : K ≤ 4096 := by have h2 := Int.ediv_le_self (D : Int) (show (0 : Int) ≤ (m : Int) by omega); omega
  have hkt : (m : Int).tdiv (D : Int) = (K : Int) := by rw [Int.tdiv_eq_ediv_of_nonneg (by omega)]; exact hK
  have hD0 : ¬ (D : Int) = 0 := by omega
  have hwK : IntKind.i64.wrap (K : Int) = (K : Int) := wrapI (by omega) (by omega)
  have HAA := Lib.hid hA
  have HC6 := Lib.hid hC6
  have HDD := Lib.hid hD
  have HXP : Hid (prodL (dimsA ax) = x.length) := Lib.hid hPL
  have HKL : Hid (∀ k : Nat, k < K → (k : Int) < prodL (dimsA ax) / (dimsA ax).getD N 1) := Lib.hid fun k hk => by
    rw [hPL, HM.out, hD, hK]; omega
  have HLS : Hid (∀ k : Nat, k < K → lineS (dimsA ax) N k = (lineL (dimsA ax) N k, 0) ∧ (lineL (dimsA ax) N k).length = D ∧ ∀ v ∈ lineL (dimsA ax) N k, 0 ≤ v ∧ v < m) := Lib.hid fun k hk => by
    have h2 := HKL.out k hk
    refine ⟨?_, ?_, ?_⟩
    · rw [lineS, if_pos HDI.out, HDN.out, if_pos ⟨by omega, by omega⟩, Int.toNat_natCast, if_pos ⟨by omega, h2⟩]
    · rw [lineL_length, HDD.out, Int.toNat_natCast]
    · intro v hv
      have h3 := HAA.out.line_mem h2 v hv
      rw [HXP.out, HM.out] at h3
      exact h3
  generalize hnv : (ax.getD N (1, false)).2 = neg at *
  have HPT : Hid (∀ k : Nat, k < K → putN (grB p (dimsA ax) N neg inv x k 0) (lineL (dimsA ax) N k) (trL p neg inv (gatL x (lineL (dimsA ax) N k))) D = grB p (dimsA ax) N neg inv x (k + 1) 0) := Lib.hid fun k hk => by
    have h2 := HAA.out.put_line p neg inv HXP.out (HKL.out k hk) D (by rw [HDD.out, Int.toNat_natCast]; exact Nat.le_refl _)
    rw [h2]
    have h3 := HAA.out.grB_line p neg inv x k
    rw [HDD.out, Int.toNat_natCast] at h3
    exact h3
  have HGL : Hid (∀ k, (grB p (dimsA ax) N neg inv x k 0).length = m) := Lib.hid fun k => by rw [grB_length]; exact HM.out
  have HG0 : Hid (grB p (dimsA ax) N neg inv x 0 0 = List.replicate m 0) := Lib.hid (by have h2 := HAA.out.grB_start p neg inv HXP.out; rw [HM.out] at h2; exact h2)
  have HGA : Hid (grB p (dimsA ax) N neg inv x K 0 = axL p (dimsA ax) N neg inv x) := Lib.hid (HAA.out.grB_all p neg inv HXP.out (by rw [HM.out, HDD.out]; exact hK))
  have HAL : Hid ((axL p (dimsA ax) N neg inv x).length = m) := Lib.hid (by rw [axL_length]; exact HM.out)
  have hmk := make_u64 m (by omega)
  have hmx : Tryd.prog.follows .mixedOrders = true := by kernel_rfl
  have HMX := Lib.hid hmx
  obtain ⟨aa, rfl⟩ := HR.out.some_of (by intro h0; have h1 := axR_length ax; rw [h0] at h1; simp at h1; omega)
  have HNA : Hid (N < ax.length) := Lib.hid hNa
  have HM1 : Hid (1 ≤ m) := Lib.hid (by have h2 := hC7.dims.pos.prod; have h3 := HM.out; omega)
  clear hmx hc hC7 hPL hIN hA hC6 hga hgd hneg hD hnv HKL hNa h0 h1 hK
  cases inv
  case' false =>
    have HLN := Lib.hid fun (D' : Option Addr) (cd : Nat) (L o : List Int) (gs : Nat) (w : World) => line7_fwd p neg D' cd D L X ca m x o gs w HP.out HU.out HC6.out HI.out
  case' true =>
    have HLN := Lib.hid fun (D' : Option Addr) (cd : Nat) (L o : List Int) (gs : Nat) (w : World) => line7_inv p neg D' cd D L X ca m x o gs w HP.out HU.out HC6.out HI.out
  rotate_left
  · skip
    go_enter Tryd.func54, Tryd.ntmps54
    go_wp2_with fail
    refine (wrd7_calls _ _ _ _ _ _ _ _ _ _ HN.out HM.out HP.out HR.out hl HW.out HRX.out hlm HT.out).mono ?_
    rw [HC.out]
    rintro e w1 ⟨rfl, hb⟩
    have HB1 := Lib.hid hb
    have HR1 := Lib.hid (HR.out.below hb)
    clear hb
    go_wp2
    refine region_marks2 (k := 7) (S := (fun _ => True)) (T := fun _ => true) HMX.out rfl trivial (fun hS => ?_)
    refine wpAnyT_take3 (i := 0) (v := ?_) rfl (by kernel_rfl) (by kernel_rfl) (by kernel_rfl) (by kernel_rfl) (by kernel_rfl) (fun _ _ _ h => h) hS (Or.inl ⟨by rfl, ?_⟩) ?_
    rotate_left
    · (intro w' hSw; (try dsimp only at hSw); go_simp; (try with_reducible rfl))
    (try simp only [Act.put, List.setIfInBounds_toArray, List.set_cons_zero, List.set_cons_succ])
    refine wpAnyT_take3 (i := 1) (v := ?_) rfl (by kernel_rfl) (by kernel_rfl) (by kernel_rfl) (by kernel_rfl) (by kernel_rfl) (fun _ _ _ h => h) hS (Or.inl ⟨by rfl, ?_⟩) ?_
    rotate_left
    · (intro w' hSw; (try dsimp only at hSw); go_simp; (try with_reducible rfl))
    (try simp only [Act.put, List.setIfInBounds_toArray, List.set_cons_zero, List.set_cons_succ])
    refine wpAnyT_take3 (i := 3) (v := ?_) rfl (by kernel_rfl) (by kernel_rfl) (by kernel_rfl) (by kernel_rfl) (by kernel_rfl) (fun _ _ _ h => h) hS (Or.inl ⟨by rfl, ?_⟩) ?_
    rotate_left
    · (intro w' hSw; (try dsimp only at hSw); go_simp; (try with_reducible rfl))
    (try simp only [Act.put, List.setIfInBounds_toArray, List.set_cons_zero, List.set_cons_succ])
    refine wpAnyT_two (i := 2) (j := 4) (by kernel_rfl) rfl rfl (fun K0 hK => ?_) (fun K0 hK => ?_)
    · skip
      go_simp
      refine hK _ _ (fun _ => trivial) ?_
      clear hK K0
      (try simp only [Act.put, List.setIfInBounds_toArray, List.set_cons_zero, List.set_cons_succ])
      refine wpAnyT_one (i := 4) (by kernel_rfl) rfl (fun K hK => ?_)
      go_simp
      refine (dims7_calls _ _ _ _ _ HN.out (show Row (w1.alloc _).drew _ _ from HR1.out.below (((Below.refl _ _).alloc (Nat.le_refl _) _).drew)) hl).mono ?_
      rintro e w9 ⟨Dm, rfl, ho, hb⟩
      refine hK _ _ (fun _ => trivial) ?_
      clear hK K
      (try simp only [Act.put, List.setIfInBounds_toArray, List.set_cons_zero, List.set_cons_succ])
      refine wpAnyT_take3 (i := 5) (v := ?_) rfl (by kernel_rfl) (by kernel_rfl) (by kernel_rfl) (by kernel_rfl) (by kernel_rfl) (fun _ _ _ h => h) hS (Or.inl ⟨by rfl, ?_⟩) ?_
      rotate_left
      · (intro w' hSw; (try dsimp only at hSw); go_simp; (try with_reducible rfl))
      (try simp only [Act.put, List.setIfInBounds_toArray, List.set_cons_zero, List.set_cons_succ])
      refine wpAnyT_take3 (i := 6) (v := ?_) rfl (by kernel_rfl) (by kernel_rfl) (by kernel_rfl) (by kernel_rfl) (by kernel_rfl) (fun _ _ _ h => h) hS (Or.inl ⟨by rfl, ?_⟩) ?_
      rotate_left
      · (intro w' hSw; (try dsimp only at hSw); go_simp; (try with_reducible rfl))
      (try simp only [Act.put, List.setIfInBounds_toArray, List.set_cons_zero, List.set_cons_succ])
      refine wpAnyT_done (by kernel_rfl) ?_ _
      have HB9 : Hid (Below w.heap.size w w9) := Lib.hid (blT HB1.out (((Below.refl w1.heap.size w1).alloc (Nat.le_refl _) _).drew.trans (hb.mono (by simp [World.drew]))))
      have HOW : Hid (Own w9 w1.heap.size 22 1 (some ⟨w1.heap.size, 0, none⟩) m m (nums .u64 (grB p (dimsA ax) N neg false x 0 0))) := Lib.hid (by
        have h1 := (own_made w1 w1.heap.size 22 (.int .u64 0) m (Nat.le_refl _) (by omega))
        rw [nums_replicate, ← HG0.out] at h1
        exact Own.grown (w := (w1.alloc (.cells (madeCells #[.int .u64 0] m) 22)).drew) h1 hb)
      have HDM : Hid (RowX w1.heap.size w9 Dm (nums .i64 (dimsA ax))) := Lib.hid (ho.rowX (by simp [World.drew]))
      have HGS : Hid (w.heap.size ≤ w1.heap.size) := Lib.hid HB1.out.size
      have HGW : Hid (w1.heap.size ≤ w9.heap.size) := Lib.hid (by have h1 := hb.size; simp [World.drew] at h1; omega)
      clear ho hb hmk
      generalize w1.heap.size = gs at *
      generalize hWW : w9 = W at *
      clear hWW
      have HRA9 : Hid (RowX gs W (some aa) (axR ax)) := Lib.hid ⟨HR.out.below HB9.out, fun x hx => by
        cases hx
        have h1 := World.block_lt_of_cell? w _ (ax_cells HR.out HNA.out).1
        have h2 : (aa.add (N * 2)).block = aa.block := by unfold Addr.add; split <;> rfl
        have h3 := HGS.out
        omega⟩
      have HRX9 : Hid (RowX gs W X (nums .u64 x)) := Lib.hid ⟨HRX.out.below HB9.out, fun xa hx => by
        subst hx
        have h0 : 0 < x.length := by have h4 := HM.out; have h5 := HM1.out; omega
        have h1 := World.block_lt_of_cell? w _ (HRX.out.num h0)
        have h2 : (xa.add 0).block = xa.block := by unfold Addr.add; split <;> rfl
        have h3 := HGS.out
        omega⟩
      obtain ⟨da, rfl⟩ := HDM.out.1.some_of (by intro h0; have h1 := nums_length .i64 (dimsA ax); rw [h0, HDN.out] at h1; simp at h1; omega)
      have hcd := HDC.out _ _ HDM.out.1
      refine NoPanic.normal ?_
      go_wp2
      clear hcd
      go_loopw [47] (fun q wr => ∃ k : Nat, k ≤ K ∧ q = .int .i64 k ∧ Hid (Own wr gs 22 1 (some ⟨gs, 0, none⟩) m m (nums .u64 (grB p (dimsA ax) N neg false x k 0))) ∧ Hid (Grown gs W wr)) (fun q _ => K - (intOf q).toNat)
      case atStart => exact ⟨0, Nat.zero_le _, rfl, HOW, Lib.hid (Grown.refl _ _)⟩
      case round =>
        obtain ⟨k, hk, rfl, HO2, HG2⟩ := hrel
        by_cases hlt : k < K
        · obtain ⟨hl1, hl2, hl3⟩ := HLS.out k hlt
          have HL1 := Lib.hid hl1
          have HL2 : Hid (((lineL (dimsA ax) N k, (0 : Int)).1).length = D) := Lib.hid hl2
          have HL3 := Lib.hid hl3
          have HPK := Lib.hid (HPT.out k hlt)
          clear hl1 hl2 hl3
          go_wp2_with fail
          refine (line_n _ _ _ (dimsA ax) N k _ HDN.out (HDM.out.grown HG2.out).1 (by omega) (Nat.le_refl _) HDW.out ⟨by omega, by omega⟩ ⟨by omega, by omega⟩).mono ?_
          rw [HL1.out, HL2.out]
          rintro e w3 ⟨Lb, lb, rfl, hol, hb⟩
          have HG3 := Lib.hid (HG2.out.below hb)
          have HO3 := Lib.hid (HO2.out.grown hb)
          have HRL : Hid (RowX gs w3 Lb (nums .i64 (lineL (dimsA ax) N k))) := Lib.hid (hol.rowX (Own.base HO2.out).2)
          clear hol hb
          have hcn := HNEG.out _ _ (HRA9.out.grown HG3.out).1
          go_wp2_with fail
          refine (HLN.out Lb lb _ _ gs w3 HL2.out HM.out (HGL.out k) hm4 HL3.out HRL.out (HRX9.out.grown HG3.out) HO3.out (HT.out.below (HB9.out.trans (HG3.out.of_below HGS.out HB9.out.size)))).mono ?_
          rw [HPK.out]
          rintro e w4 ⟨rfl, ho4, hg4⟩
          have HO4 := Lib.hid ho4
          have HG4 := Lib.hid (HG3.out.trans hg4)
          clear ho4 hg4 hcn
          go_wp2
          go_roundw
          case rel => exact ⟨k + 1, by omega, by go_num, HO4, HG4⟩
          case measure => simp [intOf]; omega
        · have hke : k = K := by omega
          have HOE : Hid (Own wr w.heap.size 22 1 (some ⟨gs, 0, none⟩) m m (nums .u64 (axL p (dimsA ax) N neg false x))) := Lib.hid (by have h1 := HO2.out.mono HGS.out; rw [hke, HGA.out] at h1; exact h1)
          have HBE : Hid (Below w.heap.size w wr) := Lib.hid (HB9.out.trans (HG2.out.of_below HGS.out HB9.out.size))
          clear hke
          go_wp2
          go_ret2
          rw [HF.out, show ((axL p (dimsA ax) N neg false x, (0 : Int)).1).length = m from HAL.out]
          exact ⟨_, _, rfl, HOE.out, HBE.out⟩
    · skip
      go_simp
      refine (dims7_calls _ _ _ _ _ HN.out (show Row w1.drew _ _ from HR1.out) hl).mono ?_
      rintro e w9 ⟨Dm, rfl, ho, hb⟩
      refine hK _ _ (fun _ => trivial) ?_
      clear hK K0
      (try simp only [Act.put, List.setIfInBounds_toArray, List.set_cons_zero, List.set_cons_succ])
      refine wpAnyT_one (i := 2) (by kernel_rfl) rfl (fun K hK => ?_)
      go_simp
      refine hK _ _ (fun _ => trivial) ?_
      clear hK K
      (try simp only [Act.put, List.setIfInBounds_toArray, List.set_cons_zero, List.set_cons_succ])
      refine wpAnyT_take3 (i := 5) (v := ?_) rfl (by kernel_rfl) (by kernel_rfl) (by kernel_rfl) (by kernel_rfl) (by kernel_rfl) (fun _ _ _ h => h) hS (Or.inl ⟨by rfl, ?_⟩) ?_
      rotate_left
      · (intro w' hSw; (try dsimp only at hSw); go_simp; (try with_reducible rfl))
      (try simp only [Act.put, List.setIfInBounds_toArray, List.set_cons_zero, List.set_cons_succ])
      refine wpAnyT_take3 (i := 6) (v := ?_) rfl (by kernel_rfl) (by kernel_rfl) (by kernel_rfl) (by kernel_rfl) (by kernel_rfl) (fun _ _ _ h => h) hS (Or.inl ⟨by rfl, ?_⟩) ?_
      rotate_left
      · (intro w' hSw; (try dsimp only at hSw); go_simp; (try with_reducible rfl))
      (try simp only [Act.put, List.setIfInBounds_toArray, List.set_cons_zero, List.set_cons_succ])
      refine wpAnyT_done (by kernel_rfl) ?_ _
      have HB8 : Hid (Below w.heap.size w w9) := Lib.hid (blT HB1.out ((Below.refl w1.heap.size w1).drew.trans hb))
      have HB9 : Hid (Below w.heap.size w (w9.alloc (.cells (madeCells #[.int .u64 0] m) 22))) := Lib.hid (HB8.out.alloc HB8.out.size _)
      have HOW : Hid (Own (w9.alloc (.cells (madeCells #[.int .u64 0] m) 22)) w9.heap.size 22 1 (some ⟨w9.heap.size, 0, none⟩) m m (nums .u64 (grB p (dimsA ax) N neg false x 0 0))) := Lib.hid (by
        have h1 := (own_made w9 w9.heap.size 22 (.int .u64 0) m (Nat.le_refl _) (by omega))
        rw [nums_replicate, ← HG0.out] at h1
        exact h1)
      have HDM : Hid (RowX w9.heap.size (w9.alloc (.cells (madeCells #[.int .u64 0] m) 22)) Dm (nums .i64 (dimsA ax))) := Lib.hid ((ho.rowX_new).below ((Below.refl _ _).alloc (Nat.le_refl _) _))
      have HGS : Hid (w.heap.size ≤ w9.heap.size) := Lib.hid HB8.out.size
      have HGW : Hid (w9.heap.size ≤ (w9.alloc (.cells (madeCells #[.int .u64 0] m) 22)).heap.size) := Lib.hid (by simp)
      clear ho hb hmk HB8
      generalize (w9.alloc (.cells (madeCells #[.int .u64 0] m) 22)) = W at *
      generalize w9.heap.size = gs at *
      have HRA9 : Hid (RowX gs W (some aa) (axR ax)) := Lib.hid ⟨HR.out.below HB9.out, fun x hx => by
        cases hx
        have h1 := World.block_lt_of_cell? w _ (ax_cells HR.out HNA.out).1
        have h2 : (aa.add (N * 2)).block = aa.block := by unfold Addr.add; split <;> rfl
        have h3 := HGS.out
        omega⟩
      have HRX9 : Hid (RowX gs W X (nums .u64 x)) := Lib.hid ⟨HRX.out.below HB9.out, fun xa hx => by
        subst hx
        have h0 : 0 < x.length := by have h4 := HM.out; have h5 := HM1.out; omega
        have h1 := World.block_lt_of_cell? w _ (HRX.out.num h0)
        have h2 : (xa.add 0).block = xa.block := by unfold Addr.add; split <;> rfl
        have h3 := HGS.out
        omega⟩
      obtain ⟨da, rfl⟩ := HDM.out.1.some_of (by intro h0; have h1 := nums_length .i64 (dimsA ax); rw [h0, HDN.out] at h1; simp at h1; omega)
      have hcd := HDC.out _ _ HDM.out.1
      refine NoPanic.normal ?_
      go_wp2
      clear hcd
      go_loopw [47] (fun q wr => ∃ k : Nat, k ≤ K ∧ q = .int .i64 k ∧ Hid (Own wr gs 22 1 (some ⟨gs, 0, none⟩) m m (nums .u64 (grB p (dimsA ax) N neg false x k 0))) ∧ Hid (Grown gs W wr)) (fun q _ => K - (intOf q).toNat)
      case atStart => exact ⟨0, Nat.zero_le _, rfl, HOW, Lib.hid (Grown.refl _ _)⟩
      case round =>
        obtain ⟨k, hk, rfl, HO2, HG2⟩ := hrel
        by_cases hlt : k < K
        · obtain ⟨hl1, hl2, hl3⟩ := HLS.out k hlt
          have HL1 := Lib.hid hl1
          have HL2 : Hid (((lineL (dimsA ax) N k, (0 : Int)).1).length = D) := Lib.hid hl2
          have HL3 := Lib.hid hl3
          have HPK := Lib.hid (HPT.out k hlt)
          clear hl1 hl2 hl3
          go_wp2_with fail
          refine (line_n _ _ _ (dimsA ax) N k _ HDN.out (HDM.out.grown HG2.out).1 (by omega) (Nat.le_refl _) HDW.out ⟨by omega, by omega⟩ ⟨by omega, by omega⟩).mono ?_
          rw [HL1.out, HL2.out]
          rintro e w3 ⟨Lb, lb, rfl, hol, hb⟩
          have HG3 := Lib.hid (HG2.out.below hb)
          have HO3 := Lib.hid (HO2.out.grown hb)
          have HRL : Hid (RowX gs w3 Lb (nums .i64 (lineL (dimsA ax) N k))) := Lib.hid (hol.rowX (Own.base HO2.out).2)
          clear hol hb
          have hcn := HNEG.out _ _ (HRA9.out.grown HG3.out).1
          go_wp2_with fail
          refine (HLN.out Lb lb _ _ gs w3 HL2.out HM.out (HGL.out k) hm4 HL3.out HRL.out (HRX9.out.grown HG3.out) HO3.out (HT.out.below (HB9.out.trans (HG3.out.of_below HGS.out HB9.out.size)))).mono ?_
          rw [HPK.out]
          rintro e w4 ⟨rfl, ho4, hg4⟩
          have HO4 := Lib.hid ho4
          have HG4 := Lib.hid (HG3.out.trans hg4)
          clear ho4 hg4 hcn
          go_wp2
          go_roundw
          case rel => exact ⟨k + 1, by omega, by go_num, HO4, HG4⟩
          case measure => simp [intOf]; omega
        · have hke : k = K := by omega
          have HOE : Hid (Own wr w.heap.size 22 1 (some ⟨gs, 0, none⟩) m m (nums .u64 (axL p (dimsA ax) N neg false x))) := Lib.hid (by have h1 := HO2.out.mono HGS.out; rw [hke, HGA.out] at h1; exact h1)
          have HBE : Hid (Below w.heap.size w wr) := Lib.hid (HB9.out.trans (HG2.out.of_below HGS.out HB9.out.size))
          clear hke
          go_wp2
          go_ret2
          rw [HF.out, show ((axL p (dimsA ax) N neg false x, (0 : Int)).1).length = m from HAL.out]
          exact ⟨_, _, rfl, HOE.out, HBE.out⟩
  · skip
    go_enter Tryd.func54, Tryd.ntmps54
    go_wp2_with fail
    refine (wrd7_calls _ _ _ _ _ _ _ _ _ _ HN.out HM.out HP.out HR.out hl HW.out HRX.out hlm HT.out).mono ?_
    rw [HC.out]
    rintro e w1 ⟨rfl, hb⟩
    have HB1 := Lib.hid hb
    have HR1 := Lib.hid (HR.out.below hb)
    clear hb
    go_wp2
    refine region_marks2 (k := 7) (S := (fun _ => True)) (T := fun _ => true) HMX.out rfl trivial (fun hS => ?_)
    refine wpAnyT_take3 (i := 0) (v := ?_) rfl (by kernel_rfl) (by kernel_rfl) (by kernel_rfl) (by kernel_rfl) (by kernel_rfl) (fun _ _ _ h => h) hS (Or.inl ⟨by rfl, ?_⟩) ?_
    rotate_left
    · (intro w' hSw; (try dsimp only at hSw); go_simp; (try with_reducible rfl))
    (try simp only [Act.put, List.setIfInBounds_toArray, List.set_cons_zero, List.set_cons_succ])
    refine wpAnyT_take3 (i := 1) (v := ?_) rfl (by kernel_rfl) (by kernel_rfl) (by kernel_rfl) (by kernel_rfl) (by kernel_rfl) (fun _ _ _ h => h) hS (Or.inl ⟨by rfl, ?_⟩) ?_
    rotate_left
    · (intro w' hSw; (try dsimp only at hSw); go_simp; (try with_reducible rfl))
    (try simp only [Act.put, List.setIfInBounds_toArray, List.set_cons_zero, List.set_cons_succ])
    refine wpAnyT_take3 (i := 3) (v := ?_) rfl (by kernel_rfl) (by kernel_rfl) (by kernel_rfl) (by kernel_rfl) (by kernel_rfl) (fun _ _ _ h => h) hS (Or.inl ⟨by rfl, ?_⟩) ?_
    rotate_left
    · (intro w' hSw; (try dsimp only at hSw); go_simp; (try with_reducible rfl))
    (try simp only [Act.put, List.setIfInBounds_toArray, List.set_cons_zero, List.set_cons_succ])
    refine wpAnyT_two (i := 2) (j := 4) (by kernel_rfl) rfl rfl (fun K0 hK => ?_) (fun K0 hK => ?_)
    · skip
      go_simp
      refine hK _ _ (fun _ => trivial) ?_
      clear hK K0
      (try simp only [Act.put, List.setIfInBounds_toArray, List.set_cons_zero, List.set_cons_succ])
      refine wpAnyT_one (i := 4) (by kernel_rfl) rfl (fun K hK => ?_)
      go_simp
      refine (dims7_calls _ _ _ _ _ HN.out (show Row (w1.alloc _).drew _ _ from HR1.out.below (((Below.refl _ _).alloc (Nat.le_refl _) _).drew)) hl).mono ?_
      rintro e w9 ⟨Dm, rfl, ho, hb⟩
      refine hK _ _ (fun _ => trivial) ?_
      clear hK K
      (try simp only [Act.put, List.setIfInBounds_toArray, List.set_cons_zero, List.set_cons_succ])
      refine wpAnyT_take3 (i := 5) (v := ?_) rfl (by kernel_rfl) (by kernel_rfl) (by kernel_rfl) (by kernel_rfl) (by kernel_rfl) (fun _ _ _ h => h) hS (Or.inl ⟨by rfl, ?_⟩) ?_
      rotate_left
      · (intro w' hSw; (try dsimp only at hSw); go_simp; (try with_reducible rfl))
      (try simp only [Act.put, List.setIfInBounds_toArray, List.set_cons_zero, List.set_cons_succ])
      refine wpAnyT_take3 (i := 6) (v := ?_) rfl (by kernel_rfl) (by kernel_rfl) (by kernel_rfl) (by kernel_rfl) (by kernel_rfl) (fun _ _ _ h => h) hS (Or.inl ⟨by rfl, ?_⟩) ?_
      rotate_left
      · (intro w' hSw; (try dsimp only at hSw); go_simp; (try with_reducible rfl))
      (try simp only [Act.put, List.setIfInBounds_toArray, List.set_cons_zero, List.set_cons_succ])
      refine wpAnyT_done (by kernel_rfl) ?_ _
      have HB9 : Hid (Below w.heap.size w w9) := Lib.hid (blT HB1.out (((Below.refl w1.heap.size w1).alloc (Nat.le_refl _) _).drew.trans (hb.mono (by simp [World.drew]))))
      have HOW : Hid (Own w9 w1.heap.size 22 1 (some ⟨w1.heap.size, 0, none⟩) m m (nums .u64 (grB p (dimsA ax) N neg true x 0 0))) := Lib.hid (by
        have h1 := (own_made w1 w1.heap.size 22 (.int .u64 0) m (Nat.le_refl _) (by omega))
        rw [nums_replicate, ← HG0.out] at h1
        exact Own.grown (w := (w1.alloc (.cells (madeCells #[.int .u64 0] m) 22)).drew) h1 hb)
      have HDM : Hid (RowX w1.heap.size w9 Dm (nums .i64 (dimsA ax))) := Lib.hid (ho.rowX (by simp [World.drew]))
      have HGS : Hid (w.heap.size ≤ w1.heap.size) := Lib.hid HB1.out.size
      have HGW : Hid (w1.heap.size ≤ w9.heap.size) := Lib.hid (by have h1 := hb.size; simp [World.drew] at h1; omega)
      clear ho hb hmk
      generalize w1.heap.size = gs at *
      generalize hWW : w9 = W at *
      clear hWW
      have HRA9 : Hid (RowX gs W (some aa) (axR ax)) := Lib.hid ⟨HR.out.below HB9.out, fun x hx => by
        cases hx
        have h1 := World.block_lt_of_cell? w _ (ax_cells HR.out HNA.out).1
        have h2 : (aa.add (N * 2)).block = aa.block := by unfold Addr.add; split <;> rfl
        have h3 := HGS.out
        omega⟩
      have HRX9 : Hid (RowX gs W X (nums .u64 x)) := Lib.hid ⟨HRX.out.below HB9.out, fun xa hx => by
        subst hx
        have h0 : 0 < x.length := by have h4 := HM.out; have h5 := HM1.out; omega
        have h1 := World.block_lt_of_cell? w _ (HRX.out.num h0)
        have h2 : (xa.add 0).block = xa.block := by unfold Addr.add; split <;> rfl
        have h3 := HGS.out
        omega⟩
      obtain ⟨da, rfl⟩ := HDM.out.1.some_of (by intro h0; have h1 := nums_length .i64 (dimsA ax); rw [h0, HDN.out] at h1; simp at h1; omega)
      have hcd := HDC.out _ _ HDM.out.1
      refine NoPanic.normal ?_
      go_wp2
      clear hcd
      go_loopw [47] (fun q wr => ∃ k : Nat, k ≤ K ∧ q = .int .i64 k ∧ Hid (Own wr gs 22 1 (some ⟨gs, 0, none⟩) m m (nums .u64 (grB p (dimsA ax) N neg true x k 0))) ∧ Hid (Grown gs W wr)) (fun q _ => K - (intOf q).toNat)
      case atStart => exact ⟨0, Nat.zero_le _, rfl, HOW, Lib.hid (Grown.refl _ _)⟩
      case round =>
        obtain ⟨k, hk, rfl, HO2, HG2⟩ := hrel
        by_cases hlt : k < K
        · obtain ⟨hl1, hl2, hl3⟩ := HLS.out k hlt
          have HL1 := Lib.hid hl1
          have HL2 : Hid (((lineL (dimsA ax) N k, (0 : Int)).1).length = D) := Lib.hid hl2
          have HL3 := Lib.hid hl3
          have HPK := Lib.hid (HPT.out k hlt)
          clear hl1 hl2 hl3
          go_wp2_with fail
          refine (line_n _ _ _ (dimsA ax) N k _ HDN.out (HDM.out.grown HG2.out).1 (by omega) (Nat.le_refl _) HDW.out ⟨by omega, by omega⟩ ⟨by omega, by omega⟩).mono ?_
          rw [HL1.out, HL2.out]
          rintro e w3 ⟨Lb, lb, rfl, hol, hb⟩
          have HG3 := Lib.hid (HG2.out.below hb)
          have HO3 := Lib.hid (HO2.out.grown hb)
          have HRL : Hid (RowX gs w3 Lb (nums .i64 (lineL (dimsA ax) N k))) := Lib.hid (hol.rowX (Own.base HO2.out).2)
          clear hol hb
          have hcn := HNEG.out _ _ (HRA9.out.grown HG3.out).1
          go_wp2_with fail
          refine (HLN.out Lb lb _ _ gs w3 HL2.out HM.out (HGL.out k) hm4 HL3.out HRL.out (HRX9.out.grown HG3.out) HO3.out (HT.out.below (HB9.out.trans (HG3.out.of_below HGS.out HB9.out.size)))).mono ?_
          rw [HPK.out]
          rintro e w4 ⟨rfl, ho4, hg4⟩
          have HO4 := Lib.hid ho4
          have HG4 := Lib.hid (HG3.out.trans hg4)
          clear ho4 hg4 hcn
          go_wp2
          go_roundw
          case rel => exact ⟨k + 1, by omega, by go_num, HO4, HG4⟩
          case measure => simp [intOf]; omega
        · have hke : k = K := by omega
          have HOE : Hid (Own wr w.heap.size 22 1 (some ⟨gs, 0, none⟩) m m (nums .u64 (axL p (dimsA ax) N neg true x))) := Lib.hid (by have h1 := HO2.out.mono HGS.out; rw [hke, HGA.out] at h1; exact h1)
          have HBE : Hid (Below w.heap.size w wr) := Lib.hid (HB9.out.trans (HG2.out.of_below HGS.out HB9.out.size))
          clear hke
          go_wp2
          go_ret2
          rw [HF.out, show ((axL p (dimsA ax) N neg true x, (0 : Int)).1).length = m from HAL.out]
          exact ⟨_, _, rfl, HOE.out, HBE.out⟩
    · skip
      go_simp
      refine (dims7_calls _ _ _ _ _ HN.out (show Row w1.drew _ _ from HR1.out) hl).mono ?_
      rintro e w9 ⟨Dm, rfl, ho, hb⟩
      refine hK _ _ (fun _ => trivial) ?_
      clear hK K0
      (try simp only [Act.put, List.setIfInBounds_toArray, List.set_cons_zero, List.set_cons_succ])
      refine wpAnyT_one (i := 2) (by kernel_rfl) rfl (fun K hK => ?_)
      go_simp
      refine hK _ _ (fun _ => trivial) ?_
      clear hK K
      (try simp only [Act.put, List.setIfInBounds_toArray, List.set_cons_zero, List.set_cons_succ])
      refine wpAnyT_take3 (i := 5) (v := ?_) rfl (by kernel_rfl) (by kernel_rfl) (by kernel_rfl) (by kernel_rfl) (by kernel_rfl) (fun _ _ _ h => h) hS (Or.inl ⟨by rfl, ?_⟩) ?_
      rotate_left
      · (intro w' hSw; (try dsimp only at hSw); go_simp; (try with_reducible rfl))
      (try simp only [Act.put, List.setIfInBounds_toArray, List.set_cons_zero, List.set_cons_succ])
      refine wpAnyT_take3 (i := 6) (v := ?_) rfl (by kernel_rfl) (by kernel_rfl) (by kernel_rfl) (by kernel_rfl) (by kernel_rfl) (fun _ _ _ h => h) hS (Or.inl ⟨by rfl, ?_⟩) ?_
      rotate_left
      · (intro w' hSw; (try dsimp only at hSw); go_simp; (try with_reducible rfl))
      (try simp only [Act.put, List.setIfInBounds_toArray, List.set_cons_zero, List.set_cons_succ])
      refine wpAnyT_done (by kernel_rfl) ?_ _
      have HB8 : Hid (Below w.heap.size w w9) := Lib.hid (blT HB1.out ((Below.refl w1.heap.size w1).drew.trans hb))
      have HB9 : Hid (Below w.heap.size w (w9.alloc (.cells (madeCells #[.int .u64 0] m) 22))) := Lib.hid (HB8.out.alloc HB8.out.size _)
      have HOW : Hid (Own (w9.alloc (.cells (madeCells #[.int .u64 0] m) 22)) w9.heap.size 22 1 (some ⟨w9.heap.size, 0, none⟩) m m (nums .u64 (grB p (dimsA ax) N neg true x 0 0))) := Lib.hid (by
        have h1 := (own_made w9 w9.heap.size 22 (.int .u64 0) m (Nat.le_refl _) (by omega))
        rw [nums_replicate, ← HG0.out] at h1
        exact h1)
      have HDM : Hid (RowX w9.heap.size (w9.alloc (.cells (madeCells #[.int .u64 0] m) 22)) Dm (nums .i64 (dimsA ax))) := Lib.hid ((ho.rowX_new).below ((Below.refl _ _).alloc (Nat.le_refl _) _))
      have HGS : Hid (w.heap.size ≤ w9.heap.size) := Lib.hid HB8.out.size
      have HGW : Hid (w9.heap.size ≤ (w9.alloc (.cells (madeCells #[.int .u64 0] m) 22)).heap.size) := Lib.hid (by simp)
      clear ho hb hmk HB8
      generalize (w9.alloc (.cells (madeCells #[.int .u64 0] m) 22)) = W at *
      generalize w9.heap.size = gs at *
      have HRA9 : Hid (RowX gs W (some aa) (axR ax)) := Lib.hid ⟨HR.out.below HB9.out, fun x hx => by
        cases hx
        have h1 := World.block_lt_of_cell? w _ (ax_cells HR.out HNA.out).1
        have h2 : (aa.add (N * 2)).block = aa.block := by unfold Addr.add; split <;> rfl
        have h3 := HGS.out
        omega⟩
      have HRX9 : Hid (RowX gs W X (nums .u64 x)) := Lib.hid ⟨HRX.out.below HB9.out, fun xa hx => by
        subst hx
        have h0 : 0 < x.length := by have h4 := HM.out; have h5 := HM1.out; omega
        have h1 := World.block_lt_of_cell? w _ (HRX.out.num h0)
        have h2 : (xa.add 0).block = xa.block := by unfold Addr.add; split <;> rfl
        have h3 := HGS.out
        omega⟩
      obtain ⟨da, rfl⟩ := HDM.out.1.some_of (by intro h0; have h1 := nums_length .i64 (dimsA ax); rw [h0, HDN.out] at h1; simp at h1; omega)
      have hcd := HDC.out _ _ HDM.out.1
      refine NoPanic.normal ?_
      go_wp2
      clear hcd
      go_loopw [47] (fun q wr => ∃ k : Nat, k ≤ K ∧ q = .int .i64 k ∧ Hid (Own wr gs 22 1 (some ⟨gs, 0, none⟩) m m (nums .u64 (grB p (dimsA ax) N neg true x k 0))) ∧ Hid (Grown gs W wr)) (fun q _ => K - (intOf q).toNat)
      case atStart => exact ⟨0, Nat.zero_le _, rfl, HOW, Lib.hid (Grown.refl _ _)⟩
      case round =>
        obtain ⟨k, hk, rfl, HO2, HG2⟩ := hrel
        by_cases hlt : k < K
        · obtain ⟨hl1, hl2, hl3⟩ := HLS.out k hlt
          have HL1 := Lib.hid hl1
          have HL2 : Hid (((lineL (dimsA ax) N k, (0 : Int)).1).length = D) := Lib.hid hl2
          have HL3 := Lib.hid hl3
          have HPK := Lib.hid (HPT.out k hlt)
          clear hl1 hl2 hl3
          go_wp2_with fail
          refine (line_n _ _ _ (dimsA ax) N k _ HDN.out (HDM.out.grown HG2.out).1 (by omega) (Nat.le_refl _) HDW.out ⟨by omega, by omega⟩ ⟨by omega, by omega⟩).mono ?_
          rw [HL1.out, HL2.out]
          rintro e w3 ⟨Lb, lb, rfl, hol, hb⟩
          have HG3 := Lib.hid (HG2.out.below hb)
          have HO3 := Lib.hid (HO2.out.grown hb)
          have HRL : Hid (RowX gs w3 Lb (nums .i64 (lineL (dimsA ax) N k))) := Lib.hid (hol.rowX (Own.base HO2.out).2)
          clear hol hb
          have hcn := HNEG.out _ _ (HRA9.out.grown HG3.out).1
          go_wp2_with fail
          refine (HLN.out Lb lb _ _ gs w3 HL2.out HM.out (HGL.out k) hm4 HL3.out HRL.out (HRX9.out.grown HG3.out) HO3.out (HT.out.below (HB9.out.trans (HG3.out.of_below HGS.out HB9.out.size)))).mono ?_
          rw [HPK.out]
          rintro e w4 ⟨rfl, ho4, hg4⟩
          have HO4 := Lib.hid ho4
          have HG4 := Lib.hid (HG3.out.trans hg4)
          clear ho4 hg4 hcn
          go_wp2
          go_roundw
          case rel => exact ⟨k + 1, by omega, by go_num, HO4, HG4⟩
          case measure => simp [intOf]; omega
        · have hke : k = K := by omega
          have HOE : Hid (Own wr w.heap.size 22 1 (some ⟨gs, 0, none⟩) m m (nums .u64 (axL p (dimsA ax) N neg true x))) := Lib.hid (by have h1 := HO2.out.mono HGS.out; rw [hke, HGA.out] at h1; exact h1)
          have HBE : Hid (Below w.heap.size w wr) := Lib.hid (HB9.out.trans (HG2.out.of_below HGS.out HB9.out.size))
          clear hke
          go_wp2
          go_ret2
          rw [HF.out, show ((axL p (dimsA ax) N neg true x, (0 : Int)).1).length = m from HAL.out]
          exact ⟨_, _, rfl, HOE.out, HBE.out⟩
end Go.Proofs.YtohcoidbncbijaaDoor.P
