
/- The contract of brackenref07.Axis. Conditions: words of their kinds; slices read as lists. -/
import Derived.Test.YtnlmmgcjhedjkaaDoorR7b
import Derived.Test.YtnlmmgcjhedjkaaDoorR6b
import Derived.Test.YtnlmmgcjhedjkaaDoorGrY
namespace Go.Proofs.YtnlmmgcjhedjkaaDoor.P
open Go.RowKit
set_option linter.unusedVariables false
set_option linter.unusedSimpArgs false
theorem rtr7_fwd (p : Int) (neg : Bool) (d : Nat) (hp : U64 p) (hck : Chk6 p d neg) (Z : Option Addr) (c : Nat) (l : List Int) (w : World) (hl : l.length = d) (hu : ∀ v ∈ l, U64 v) (hi : inS p l = true) (hr : Row w Z (nums .u64 l)) :
    Calls Tryd.prog 40 #[.int .u64 p, .slice Z d c, .bool neg] w fun e w' => ∃ B cb,
      e = .returned (.tuple #[.slice B d cb, .int .i64 0]) ∧ Own w' w.heap.size 40 1 B d cb (nums .u64 (trL p neg false l)) ∧ Below w.heap.size w w' := by
  have hs : trS p neg false l = (trL p neg false l, 0) := trS_yes (Chk6.ok (by rw [hl]; exact hck) hi)
  have h := rfwd6_calls p Z c d l neg w hl hp hr (by have := hck.n2; omega) hu
  rw [hs, show ((trL p neg false l, (0 : Int)).1).length = d by dsimp only; rw [trL_length]; exact hl] at h
  exact h
theorem rtr7_inv (p : Int) (neg : Bool) (d : Nat) (hp : U64 p) (hck : Chk6 p d neg) (Z : Option Addr) (c : Nat) (l : List Int) (w : World) (hl : l.length = d) (hu : ∀ v ∈ l, U64 v) (hi : inS p l = true) (hr : Row w Z (nums .u64 l)) :
    Calls Tryd.prog 41 #[.int .u64 p, .slice Z d c, .bool neg] w fun e w' => ∃ B cb,
      e = .returned (.tuple #[.slice B d cb, .int .i64 0]) ∧ Own w' w.heap.size 40 1 B d cb (nums .u64 (trL p neg true l)) ∧ Below w.heap.size w w' := by
  have hs : trS p neg true l = (trL p neg true l, 0) := trS_yes (Chk6.ok (by rw [hl]; exact hck) hi)
  have h := rinv6_calls p Z c d l neg w hl hp hr (by have := hck.n2; omega) hu
  rw [hs, show ((trL p neg true l, (0 : Int)).1).length = d by dsimp only; rw [trL_length]; exact hl] at h
  exact h
theorem r05_line_n (A : Option Addr) (c n : Nat) (l : List Int) (a k : Int) (w : World) (hn : l.length = n) (hr : Row w A (nums .i64 l)) (hl : n ≤ 9223372036854775807) (hc : n ≤ c) (hw : ∀ d ∈ l, i64 d) (ha : i64 a) (hk : i64 k) :
    Calls Tryd.prog 108 #[.slice A n c, .int .i64 a, .int .i64 k] w fun e w' => ∃ B b,
      e = .returned (.tuple #[.slice B (lineS l a k).1.length b, .int .i64 (lineS l a k).2]) ∧ Own w' w.heap.size 3 1 B (lineS l a k).1.length b (nums .i64 (lineS l a k).1) ∧ Below w.heap.size w w' := by
  subst hn; exact r05_line A c l a k w hr hl hc hw ha hk
theorem gatL_take (x L : List Int) {j : Nat} (hj : j < L.length) : (gatL x L).take (j + 1) = (gatL x L).take j ++ [x.getD L[j].toNat 0] := by
  have h : j < (gatL x L).length := by rw [gatL_length]; exact hj
  rw [List.take_add_one, List.getElem?_eq_getElem h]
  simp [gatL]
set_option maxRecDepth 100000 in
set_option maxHeartbeats 4000000 in
theorem raxis7_calls (p : Int) (A : Option Addr) (c n : Nat) (ax : List (Int × Bool)) (a : Int) (inv : Bool) (X : Option Addr) (ca m : Nat) (x : List Int) (w : World) (hn : ax.length = n) (hm : x.length = m) (hp : U64 p)
    (hr : Row w A (axR ax)) (hl : n ≤ 8796093022208) (hw : ∀ a ∈ ax, i64 a.1) (hrx : Row w X (nums .u64 x)) (hlm : m ≤ 9223372036854775807) (hwx : ∀ d ∈ x, U64 d) :
    Calls Tryd.prog 49 #[.int .u64 p, .slice A n c, .int .i64 a, .bool inv, .slice X m ca] w fun e w' => ∃ B b,
      e = .returned (.tuple #[.slice B (axS p ax a inv x).1.length b, .int .i64 (axS p ax a inv x).2]) ∧ Own w' w.heap.size 40 1 B (axS p ax a inv x).1.length b (nums .u64 (axS p ax a inv x).1) ∧ Below w.heap.size w w' := by
  have HP := Lib.hid hp
  have HR := Lib.hid hr
  have HRX := Lib.hid hrx
  have HN := Lib.hid hn
  have HM := Lib.hid hm
  have HW := Lib.hid hw
  have HU := Lib.hid hwx
  clear hp hr hn hw hrx hm hwx
  by_cases hc : wrd7 p ax x = 0
  case neg =>
    have HF : Hid (axS p ax a inv x = ([], wrd7 p ax x)) := Lib.hid (by rw [axS, if_neg hc])
    have t0 : (wrd7 p ax x != 0) = true := by simpa using hc
    rw [HF.out]
    clear hc
    go_enter Tryd.func49, Tryd.ntmps49
    go_wp2_with fail
    refine (rwrd7_calls _ _ _ _ _ _ _ _ _ _ HN.out HM.out HP.out HR.out hl HW.out HRX.out hlm).mono ?_
    rintro e w1 ⟨rfl, hb⟩
    have HB := Lib.hid hb
    clear hb
    go_wp2
    go_ret2
    exact ⟨none, 0, rfl, Own.nil _ _ _ _, HB.out⟩
  have HC := Lib.hid hc
  by_cases hin : 0 ≤ a ∧ a < n
  case neg =>
    have HF : Hid (axS p ax a inv x = ([], 1)) := Lib.hid (by rw [axS, if_pos hc, HN.out, if_neg hin])
    clear hc
    rw [HF.out]
    by_cases h0 : a < 0
    case' pos =>
      have f0 : decide (a < 0) = true := by simp; omega
    case' neg =>
      have f0 : decide (a < 0) = false := by simp; omega
      have f1 : decide ((n : Int) ≤ a) = true := by simp; omega
    all_goals
      clear h0 hin
      go_enter Tryd.func49, Tryd.ntmps49
      go_wp2_with fail
      refine (rwrd7_calls _ _ _ _ _ _ _ _ _ _ HN.out HM.out HP.out HR.out hl HW.out HRX.out hlm).mono ?_
      rw [HC.out]
      rintro e w1 ⟨rfl, hb⟩
      have HB := Lib.hid hb
      clear hb
      go_wp2
      go_ret2
      exact ⟨none, 0, rfl, Own.nil _ _ _ _, HB.out⟩
  obtain ⟨h0, h1⟩ := hin
  obtain ⟨N, rfl⟩ := Int.eq_ofNat_of_zero_le h0
  have hNn : N < n := by omega
  obtain ⟨hC7, hPL, hIN⟩ := wrd7_ok hc
  have hNa : N < ax.length := by rw [HN.out]; exact hNn
  obtain ⟨hA, hC6⟩ := hC7.at hNa
  have hga : ax.getD N (1, false) = ax[N] := by rw [List.getD_eq_getElem?_getD, List.getElem?_eq_getElem hNa]; rfl
  have HF : Hid (axS p ax (N : Int) inv x = (axL p (dimsA ax) N (ax.getD N (1, false)).2 inv x, 0)) := Lib.hid (by
    rw [axS, if_pos hc, HN.out, if_pos ⟨h0, h1⟩, Int.toNat_natCast])
  have f0 : decide ((N : Int) < 0) = false := by simp
  have f1 : decide ((n : Int) ≤ (N : Int)) = false := by simp; omega
  have HDN : Hid ((dimsA ax).length = n) := Lib.hid (by rw [dimsA_length]; exact HN.out)
  have HDW := Lib.hid (dimsA_i64 HW.out)
  have HDI := Lib.hid hC7.dims
  have HI := Lib.hid hIN
  have hm4 : m ≤ 4096 := by have h2 := hC7.dims.all; have h3 := HM.out; omega
  have hd1 := hA.D1
  have hd4 := hC6.n2
  have hgd : (dimsA ax).getD N 1 = (dimsA ax)[N]'hA.lt := getD_at hA.lt 1
  have hneg : ∀ (w' : World) (xa : Addr), Row w' (some xa) (axR ax) → w'.cell? ⟨(xa.add (N * 2)).block, (xa.add (N * 2)).off + 1, none⟩ = some (.bool (ax.getD N (1, false)).2) := fun w' xa h => by
    rw [hga]; exact (ax_cells h hNa).2
  have HNEG := Lib.hid hneg
  obtain ⟨D, hD⟩ := Int.eq_ofNat_of_zero_le (show 0 ≤ (dimsA ax).getD N 1 by omega)
  have HDC : Hid (∀ (w' : World) (da : Addr), Row w' (some da) (axR ax) → w'.cell? (da.add (N * 2)) = some (.int .i64 (D : Int))) := Lib.hid fun w' da h => by
    have h2 := (ax_cells h hNa).1
    have h3 : (ax[N]).1 = (D : Int) := by rw [← hD, hgd]; simp [dimsA]
    rw [h3] at h2
    exact h2
  rw [hD] at hd1 hC6 hd4
  rw [Int.toNat_natCast] at hC6 hd4
  obtain ⟨K, hK⟩ := Int.eq_ofNat_of_zero_le (show 0 ≤ (m : Int) / (D : Int) from Int.ediv_nonneg (by omega) (by omega))
  have hK4 : K ≤ 4096 := by have h2 := Int.ediv_le_self (D : Int) (show (0 : Int) ≤ (m : Int) by omega); omega
  have hkt : (m : Int).tdiv (D : Int) = (K : Int) := by rw [Int.tdiv_eq_ediv_of_nonneg (by omega)]; exact hK
  have hD0 : ¬ (D : Int) = 0 := by omega
  have hwK : IntKind.i64.wrap (K : Int) = (K : Int) := wrapI (by omega) (by omega)
  have HAA := Lib.hid hA
  have HC6 := Lib.hid hC6
  have HDD := Lib.hid hD
  have HXP : Hid (prodL (dimsA ax) = x.length) := Lib.hid hPL
  have HKL : Hid (∀ k : Nat, k < K → (k : Int) < prodL (dimsA ax) / (dimsA ax).getD N 1) := Lib.hid fun k hk => by
    rw [hPL, HM.out, hD, hK]; omega
  have HLS : Hid (∀ k : Nat, k < K → lineS (dimsA ax) N k = (lineL (dimsA ax) N k, 0) ∧ (lineL (dimsA ax) N k).length = D ∧ ∀ v ∈ lineL (dimsA ax) N k, 0 ≤ v ∧ v < m) := Lib.hid fun k hk => by
    have h2 := HKL.out k hk
    refine ⟨?_, ?_, ?_⟩
    · rw [lineS, if_pos HDI.out, HDN.out, if_pos ⟨by omega, by omega⟩, Int.toNat_natCast, if_pos ⟨by omega, h2⟩]
    · rw [lineL_length, HDD.out, Int.toNat_natCast]
    · intro v hv
      have h3 := HAA.out.line_mem h2 v hv
      rw [HXP.out, HM.out] at h3
      exact h3
  generalize hnv : (ax.getD N (1, false)).2 = neg at *
  have HPT : Hid (∀ k : Nat, k < K → putN (grB p (dimsA ax) N neg inv x k 0) (lineL (dimsA ax) N k) (trL p neg inv (gatL x (lineL (dimsA ax) N k))) D = grB p (dimsA ax) N neg inv x (k + 1) 0) := Lib.hid fun k hk => by
    have h2 := HAA.out.put_line p neg inv HXP.out (HKL.out k hk) D (by rw [HDD.out, Int.toNat_natCast]; exact Nat.le_refl _)
    rw [h2]
    have h3 := HAA.out.grB_line p neg inv x k
    rw [HDD.out, Int.toNat_natCast] at h3
    exact h3
  have HGL : Hid (∀ k, (grB p (dimsA ax) N neg inv x k 0).length = m) := Lib.hid fun k => by rw [grB_length]; exact HM.out
  have HG0 : Hid (grB p (dimsA ax) N neg inv x 0 0 = List.replicate m 0) := Lib.hid (by have h2 := HAA.out.grB_start p neg inv HXP.out; rw [HM.out] at h2; exact h2)
  have HGA : Hid (grB p (dimsA ax) N neg inv x K 0 = axL p (dimsA ax) N neg inv x) := Lib.hid (HAA.out.grB_all p neg inv HXP.out (by rw [HM.out, HDD.out]; exact hK))
  have HAL : Hid ((axL p (dimsA ax) N neg inv x).length = m) := Lib.hid (by rw [axL_length]; exact HM.out)
  have hmk := make_u64 m (by omega)
  obtain ⟨aa, rfl⟩ := HR.out.some_of (by intro h0; have h1 := axR_length ax; rw [h0] at h1; simp at h1; omega)
  have HNA : Hid (N < ax.length) := Lib.hid hNa
  have HM1 : Hid (1 ≤ m) := Lib.hid (by have h2 := hC7.dims.pos.prod; have h3 := HM.out; omega)
  clear hc hC7 hPL hIN hA hC6 hga hgd hneg hD hnv HKL hNa h0 h1 hK
  have HPL : Hid (∀ k : Nat, k < K → inS p (gatL x (lineL (dimsA ax) N k)) = true) := Lib.hid fun k hk => gatL_in HI.out (by rw [HM.out]; exact (HLS.out k hk).2.2)
  have HGU : Hid (∀ L, ∀ d ∈ gatL x L, U64 d) := Lib.hid fun L => gatL_u64 HU.out
  cases inv
  case' false => have HLN := Lib.hid (rtr7_fwd p neg D HP.out HC6.out)
  case' true => have HLN := Lib.hid (rtr7_inv p neg D HP.out HC6.out)
  rotate_left
  · skip
    go_enter Tryd.func49, Tryd.ntmps49
    go_wp2_with fail
    refine (rwrd7_calls _ _ _ _ _ _ _ _ _ _ HN.out HM.out HP.out HR.out hl HW.out HRX.out hlm).mono ?_
    rw [HC.out]
    rintro e w1 ⟨rfl, hb⟩
    have HB1 := Lib.hid hb
    have HR1 := Lib.hid (HR.out.below hb)
    clear hb
    have f2 : decide (n ≤ N) = false := by simp; omega
    have hcA := HDC.out _ _ (HR1.out.below ((Below.refl _ _).alloc (Nat.le_refl _) (.cells (madeCells #[.int .u64 0] m) 40)))
    go_wp2
    have HGS : Hid (w.heap.size ≤ w1.heap.size) := Lib.hid HB1.out.size
    have HOW : Hid (Own (w1.alloc (.cells (madeCells #[.int .u64 0] m) 40)) w1.heap.size 40 1 (some ⟨w1.heap.size, 0, none⟩) m m (nums .u64 (grB p (dimsA ax) N neg false x 0 0))) := Lib.hid (by
      have h1 := (own_made w1 w1.heap.size 40 (.int .u64 0) m (Nat.le_refl _) (by omega))
      rw [nums_replicate, ← HG0.out] at h1
      exact h1)
    have HB9 : Hid (Below w.heap.size w (w1.alloc (.cells (madeCells #[.int .u64 0] m) 40))) := Lib.hid (HB1.out.alloc HB1.out.size _)
    clear hcA hmk f0 f1 f2 hkt hwK
    generalize (w1.alloc (.cells (madeCells #[.int .u64 0] m) 40)) = W at *
    generalize w1.heap.size = gs at *
    have HRA9 : Hid (RowX gs W (some aa) (axR ax)) := Lib.hid ⟨HR.out.below HB9.out, fun x hx => by
      cases hx
      have h1 := World.block_lt_of_cell? w _ (ax_cells HR.out HNA.out).1
      have h2 : (aa.add (N * 2)).block = aa.block := by unfold Addr.add; split <;> rfl
      have h3 := HGS.out
      omega⟩
    have HRX9 : Hid (RowX gs W X (nums .u64 x)) := Lib.hid ⟨HRX.out.below HB9.out, fun xa hx => by
      subst hx
      have h0 : 0 < x.length := by have h4 := HM.out; have h5 := HM1.out; omega
      have h1 := World.block_lt_of_cell? w _ (HRX.out.num h0)
      have h2 : (xa.add 0).block = xa.block := by unfold Addr.add; split <;> rfl
      have h3 := HGS.out
      omega⟩
    go_loopw [49] (fun q wr => ∃ k : Nat, k ≤ K ∧ q = .int .i64 k ∧ Hid (Own wr gs 40 1 (some ⟨gs, 0, none⟩) m m (nums .u64 (grB p (dimsA ax) N neg false x k 0))) ∧ Hid (Grown gs W wr)) (fun q _ => K - (intOf q).toNat)
    case atStart => exact ⟨0, Nat.zero_le _, rfl, HOW, Lib.hid (Grown.refl _ _)⟩
    case round =>
      obtain ⟨k, hk, rfl, HO2, HG2⟩ := hrel
      by_cases hlt : k < K
      · obtain ⟨hl1, hl2, hl3⟩ := HLS.out k hlt
        have HL1 := Lib.hid hl1
        have HL2 : Hid (((lineL (dimsA ax) N k, (0 : Int)).1).length = D) := Lib.hid hl2
        have HLD := Lib.hid hl2
        have HL3 := Lib.hid hl3
        have HPK := Lib.hid (HPT.out k hlt)
        have HIK := Lib.hid (HPL.out k hlt)
        clear hl1 hl2 hl3
        go_wp2_with fail
        refine (rdims7_calls _ _ _ ax _ HN.out (HRA9.out.grown HG2.out).1 hl).mono ?_
        rintro e w3 ⟨Dm, dm, rfl, ho, hb⟩
        have HG3 := Lib.hid (HG2.out.below hb)
        have HO3 := Lib.hid (HO2.out.grown hb)
        have HDR := Lib.hid ho.row
        have HDP := Lib.hid ho.cap.1
        clear ho hb
        go_wp2_with fail
        refine (r05_line_n _ _ _ (dimsA ax) N k _ HDN.out HDR.out (by omega) HDP.out HDW.out ⟨by omega, by omega⟩ ⟨by omega, by omega⟩).mono ?_
        rw [HL1.out, HL2.out]
        rintro e w4 ⟨Lb, lb, rfl, hol, hb⟩
        have HG4 := Lib.hid (HG3.out.below hb)
        have HO4 := Lib.hid (HO3.out.grown hb)
        have HRL : Hid (RowX gs w4 Lb (nums .i64 (lineL (dimsA ax) N k))) := Lib.hid (hol.rowX (Own.base HO3.out).2)
        clear hol hb HL1 HL2
        dsimp only at *
        generalize lineL (dimsA ax) N k = L at *
        have HGLN : Hid ((gatL x L).length = D) := Lib.hid (by rw [gatL_length]; exact HLD.out)
        have HTKK : Hid (∀ j, j < L.length → ∀ v, L[j]? = some v → (gatL x L).take (j + 1) = (gatL x L).take j ++ [x.getD v.toNat 0]) := Lib.hid fun j hj v hv => by
          rw [List.getElem?_eq_getElem hj] at hv; cases hv; exact gatL_take x L hj
        go_wp2
        go_hide hQ
        go_loopw [17, 62] (fun v q ws => ∃ (j : Nat) (Z : Option Addr) (z : Nat), j ≤ D ∧ q = .int .i64 j ∧ v = .slice Z j z ∧ Hid (Own ws w4.heap.size 40 1 Z j z (nums .u64 ((gatL x L).take j))) ∧ Hid (Below w4.heap.size w4 ws)) (fun _ q _ => D - (intOf q).toNat)
        case atStart => exact ⟨0, none, 0, Nat.zero_le _, rfl, rfl, Lib.hid (Own.nil _ _ _ _), Lib.hid (Below.refl _ _)⟩
        case round =>
          obtain ⟨j, Z, z, hj, rfl, rfl, HOJ, HBJ⟩ := hrel
          by_cases hjt : j < D
          · have hjl : j < L.length := by have := HLD.out; omega
            obtain ⟨v0, v1⟩ := HL3.out _ (List.getElem_mem hjl)
            obtain ⟨la, rfl⟩ := HRL.out.1.some_of (by intro h0; have h1 := nums_length .i64 L; rw [h0] at h1; simp at h1; omega)
            have hcl := (HRL.out.below HBJ.out).1.num hjl
            have HTK : Hid ((gatL x L).take (j + 1) = (gatL x L).take j ++ [x.getD L[j].toNat 0]) := Lib.hid (gatL_take x L hjl)
            generalize L[j] = v at *
            obtain ⟨v, rfl⟩ := Int.eq_ofNat_of_zero_le v0
            have hvx : v < x.length := by have := HM.out; omega
            obtain ⟨xa, rfl⟩ := HRX9.out.1.some_of (by intro h0; have h1 := nums_length .u64 x; rw [h0] at h1; simp at h1; omega)
            have hcx := (HRX9.out.grown (HG4.out.below HBJ.out)).1.num hvx
            rw [Int.toNat_natCast, getD_of hvx] at HTK
            generalize x[v] = u at *
            have HSZ := Lib.hid HBJ.out.size
            go_wp2_with (at_builtin; refine append_row _ Tryd.underlying41 info_u64 rfl _ _ rfl w4.heap.size j z 1 1 Z ⟨wr.heap.size, 0, none⟩ ((gatL x L).take j) [u] rfl rfl (HOJ.out.grown ((Below.refl _ _).alloc (Nat.le_refl _) _)) (row_new wr [.int .u64 u] 40) rfl (by decide) (Nat.le_trans HSZ.out (by simp)) (by omega) (by omega) ?_; intro g cap2 w6 hown hbel hgrow hlt5)
            have HO6 : Hid (Own w6 w4.heap.size 40 1 (some ⟨g, 0, none⟩) (j + 1) cap2 (nums .u64 ((gatL x L).take (j + 1)))) := Lib.hid (by rw [HTK.out]; exact hown)
            have HB6 : Hid (Below w4.heap.size w4 w6) := Lib.hid ((HBJ.out.alloc HSZ.out _).trans (hbel.mono (Nat.le_refl _)))
            clear hown hbel hgrow hlt5
            go_roundw
            case rel => exact ⟨j + 1, some ⟨g, 0, none⟩, cap2, by omega, by go_num, rfl, HO6, HB6⟩
            case measure => simp [intOf]; omega
          · have hje : j = D := by omega
            have HZR : Hid (Row wr Z (nums .u64 (gatL x L))) := Lib.hid (by
              have h1 := HOJ.out.row
              rw [hje, List.take_of_length_le (by rw [HGLN.out]; exact Nat.le_refl _)] at h1
              exact h1)
            have HG5 := Lib.hid (HG4.out.below HBJ.out)
            have HO5 := Lib.hid (HO4.out.grown HBJ.out)
            have HRL5 := Lib.hid (HRL.out.below HBJ.out)
            subst hje
            have hcn := HNEG.out _ _ (HRA9.out.grown HG5.out).1
            clear hjt HOJ HTKK
            go_wp2
            subst hQ
            go_wp2_with fail
            refine (HLN.out Z z (gatL x L) _ HGLN.out (HGU.out L) HIK.out HZR.out).mono ?_
            rintro e w6 ⟨Y, yb, rfl, hoy, hb⟩
            have HG6 := Lib.hid (HG5.out.below hb)
            have HO6 := Lib.hid (HO5.out.grown hb)
            have HRL6 := Lib.hid (HRL5.out.below hb)
            have HRY : Hid (RowX gs w6 Y (nums .u64 (trL p neg false (gatL x L)))) := Lib.hid (hoy.rowX (Own.base HO5.out).2)
            have HYL : Hid ((trL p neg false (gatL x L)).length = j) := Lib.hid (by rw [trL_length]; exact HGLN.out)
            have HOL := Lib.hid (HGL.out k)
            clear hoy hb hcn
            generalize trL p neg false (gatL x L) = T at *
            generalize grB p (dimsA ax) N neg false x k 0 = o at *
            go_wp2
            go_hide hQ
            go_loopw [99] (fun q ws => ∃ c : Nat, c ≤ j ∧ q = .int .i64 c ∧ Hid (Own ws gs 40 1 (some ⟨gs, 0, none⟩) m m (nums .u64 (putN o L T c))) ∧ Hid (Grown gs w6 ws)) (fun q _ => j - (intOf q).toNat)
            case atStart => exact ⟨0, Nat.zero_le _, rfl, HO6, Lib.hid (Grown.refl _ _)⟩
            case round =>
              obtain ⟨c, hc, rfl, HO7, HG7⟩ := hrel
              by_cases hct : c < j
              · have hcl : c < L.length := by have := HLD.out; omega
                have hcy : c < T.length := by have := HYL.out; omega
                obtain ⟨v0, v1⟩ := HL3.out _ (List.getElem_mem hcl)
                obtain ⟨la, rfl⟩ := HRL6.out.1.some_of (by intro h0; have h1 := nums_length .i64 L; rw [h0] at h1; simp at h1; omega)
                obtain ⟨ya, rfl⟩ := HRY.out.1.some_of (by intro h0; have h1 := nums_length .u64 T; rw [h0] at h1; simp at h1; omega)
                have hk0 := (HRL6.out.grown HG7.out).1.num hcl
                have hk1 := (HRY.out.grown HG7.out).1.num hcy
                have HST : Hid (putN o L T (c + 1) = (putN o L T c).set L[c].toNat T[c]) := Lib.hid (by rw [putN, getD_of hcl, getD_of hcy])
                generalize L[c] = v at *
                generalize T[c] = u at *
                obtain ⟨v, rfl⟩ := Int.eq_ofNat_of_zero_le v0
                rw [Int.toNat_natCast] at HST
                have hvm : v < m := by omega
                have hf : wr.frozen? ⟨gs, v, none⟩ = false := HO7.out.frozenAt v
                have hco := HO7.out.cellAt v hvm
                rw [nums_get .u64 _ v (by rw [putN_length, HOL.out]; exact hvm)] at hco
                generalize (putN o L T c)[v]'(by rw [putN_length, HOL.out]; exact hvm) = old at *
                have HS : Hid (Own (wr.setCell ⟨gs, v, none⟩ (.int .u64 u)) gs 40 1 (some ⟨gs, 0, none⟩) m m (nums .u64 (putN o L T (c + 1)))) := Lib.hid (by
                  have h1 := HO7.out.stored v (.int .u64 u)
                  rw [nums_set, ← HST.out] at h1
                  exact h1)
                have HSG := Lib.hid (HG7.out.setCell v (.int .u64 u))
                go_wp2
                go_roundw
                case rel => exact ⟨c + 1, by omega, by go_num, HS, HSG⟩
                case measure => simp [intOf]; omega
              · have hce : c = j := by omega
                have HO8 : Hid (Own wr gs 40 1 (some ⟨gs, 0, none⟩) m m (nums .u64 (grB p (dimsA ax) N neg false x (k + 1) 0))) := Lib.hid (by have h1 := HO7.out; rw [hce, HPK.out] at h1; exact h1)
                have HG8 := Lib.hid (HG6.out.trans HG7.out)
                clear hce
                go_wp2
                subst hQ
                go_wp2
                go_roundw
                case rel => exact ⟨k + 1, by omega, by go_num, HO8, HG8⟩
                case measure => simp [intOf]; omega
      · have hke : k = K := by omega
        have HOE : Hid (Own wr w.heap.size 40 1 (some ⟨gs, 0, none⟩) m m (nums .u64 (axL p (dimsA ax) N neg false x))) := Lib.hid (by have h1 := HO2.out.mono HGS.out; rw [hke, HGA.out] at h1; exact h1)
        have HBE : Hid (Below w.heap.size w wr) := Lib.hid (HB9.out.trans (HG2.out.of_below HGS.out HB9.out.size))
        clear hke
        go_wp2
        go_ret2
        rw [HF.out, show ((axL p (dimsA ax) N neg false x, (0 : Int)).1).length = m from HAL.out]
        exact ⟨_, _, rfl, HOE.out, HBE.out⟩
  · skip
    go_enter Tryd.func49, Tryd.ntmps49
    go_wp2_with fail
    refine (rwrd7_calls _ _ _ _ _ _ _ _ _ _ HN.out HM.out HP.out HR.out hl HW.out HRX.out hlm).mono ?_
    rw [HC.out]
    rintro e w1 ⟨rfl, hb⟩
    have HB1 := Lib.hid hb
    have HR1 := Lib.hid (HR.out.below hb)
    clear hb
    have f2 : decide (n ≤ N) = false := by simp; omega
    have hcA := HDC.out _ _ (HR1.out.below ((Below.refl _ _).alloc (Nat.le_refl _) (.cells (madeCells #[.int .u64 0] m) 40)))
    go_wp2
    have HGS : Hid (w.heap.size ≤ w1.heap.size) := Lib.hid HB1.out.size
    have HOW : Hid (Own (w1.alloc (.cells (madeCells #[.int .u64 0] m) 40)) w1.heap.size 40 1 (some ⟨w1.heap.size, 0, none⟩) m m (nums .u64 (grB p (dimsA ax) N neg true x 0 0))) := Lib.hid (by
      have h1 := (own_made w1 w1.heap.size 40 (.int .u64 0) m (Nat.le_refl _) (by omega))
      rw [nums_replicate, ← HG0.out] at h1
      exact h1)
    have HB9 : Hid (Below w.heap.size w (w1.alloc (.cells (madeCells #[.int .u64 0] m) 40))) := Lib.hid (HB1.out.alloc HB1.out.size _)
    clear hcA hmk f0 f1 f2 hkt hwK
    generalize (w1.alloc (.cells (madeCells #[.int .u64 0] m) 40)) = W at *
    generalize w1.heap.size = gs at *
    have HRA9 : Hid (RowX gs W (some aa) (axR ax)) := Lib.hid ⟨HR.out.below HB9.out, fun x hx => by
      cases hx
      have h1 := World.block_lt_of_cell? w _ (ax_cells HR.out HNA.out).1
      have h2 : (aa.add (N * 2)).block = aa.block := by unfold Addr.add; split <;> rfl
      have h3 := HGS.out
      omega⟩
    have HRX9 : Hid (RowX gs W X (nums .u64 x)) := Lib.hid ⟨HRX.out.below HB9.out, fun xa hx => by
      subst hx
      have h0 : 0 < x.length := by have h4 := HM.out; have h5 := HM1.out; omega
      have h1 := World.block_lt_of_cell? w _ (HRX.out.num h0)
      have h2 : (xa.add 0).block = xa.block := by unfold Addr.add; split <;> rfl
      have h3 := HGS.out
      omega⟩
    go_loopw [49] (fun q wr => ∃ k : Nat, k ≤ K ∧ q = .int .i64 k ∧ Hid (Own wr gs 40 1 (some ⟨gs, 0, none⟩) m m (nums .u64 (grB p (dimsA ax) N neg true x k 0))) ∧ Hid (Grown gs W wr)) (fun q _ => K - (intOf q).toNat)
    case atStart => exact ⟨0, Nat.zero_le _, rfl, HOW, Lib.hid (Grown.refl _ _)⟩
    case round =>
      obtain ⟨k, hk, rfl, HO2, HG2⟩ := hrel
      by_cases hlt : k < K
      · obtain ⟨hl1, hl2, hl3⟩ := HLS.out k hlt
        have HL1 := Lib.hid hl1
        have HL2 : Hid (((lineL (dimsA ax) N k, (0 : Int)).1).length = D) := Lib.hid hl2
        have HLD := Lib.hid hl2
        have HL3 := Lib.hid hl3
        have HPK := Lib.hid (HPT.out k hlt)
        have HIK := Lib.hid (HPL.out k hlt)
        clear hl1 hl2 hl3
        go_wp2_with fail
        refine (rdims7_calls _ _ _ ax _ HN.out (HRA9.out.grown HG2.out).1 hl).mono ?_
        rintro e w3 ⟨Dm, dm, rfl, ho, hb⟩
        have HG3 := Lib.hid (HG2.out.below hb)
        have HO3 := Lib.hid (HO2.out.grown hb)
        have HDR := Lib.hid ho.row
        have HDP := Lib.hid ho.cap.1
        clear ho hb
        go_wp2_with fail
        refine (r05_line_n _ _ _ (dimsA ax) N k _ HDN.out HDR.out (by omega) HDP.out HDW.out ⟨by omega, by omega⟩ ⟨by omega, by omega⟩).mono ?_
        rw [HL1.out, HL2.out]
        rintro e w4 ⟨Lb, lb, rfl, hol, hb⟩
        have HG4 := Lib.hid (HG3.out.below hb)
        have HO4 := Lib.hid (HO3.out.grown hb)
        have HRL : Hid (RowX gs w4 Lb (nums .i64 (lineL (dimsA ax) N k))) := Lib.hid (hol.rowX (Own.base HO3.out).2)
        clear hol hb HL1 HL2
        dsimp only at *
        generalize lineL (dimsA ax) N k = L at *
        have HGLN : Hid ((gatL x L).length = D) := Lib.hid (by rw [gatL_length]; exact HLD.out)
        have HTKK : Hid (∀ j, j < L.length → ∀ v, L[j]? = some v → (gatL x L).take (j + 1) = (gatL x L).take j ++ [x.getD v.toNat 0]) := Lib.hid fun j hj v hv => by
          rw [List.getElem?_eq_getElem hj] at hv; cases hv; exact gatL_take x L hj
        go_wp2
        go_hide hQ
        go_loopw [17, 62] (fun v q ws => ∃ (j : Nat) (Z : Option Addr) (z : Nat), j ≤ D ∧ q = .int .i64 j ∧ v = .slice Z j z ∧ Hid (Own ws w4.heap.size 40 1 Z j z (nums .u64 ((gatL x L).take j))) ∧ Hid (Below w4.heap.size w4 ws)) (fun _ q _ => D - (intOf q).toNat)
        case atStart => exact ⟨0, none, 0, Nat.zero_le _, rfl, rfl, Lib.hid (Own.nil _ _ _ _), Lib.hid (Below.refl _ _)⟩
        case round =>
          obtain ⟨j, Z, z, hj, rfl, rfl, HOJ, HBJ⟩ := hrel
          by_cases hjt : j < D
          · have hjl : j < L.length := by have := HLD.out; omega
            obtain ⟨v0, v1⟩ := HL3.out _ (List.getElem_mem hjl)
            obtain ⟨la, rfl⟩ := HRL.out.1.some_of (by intro h0; have h1 := nums_length .i64 L; rw [h0] at h1; simp at h1; omega)
            have hcl := (HRL.out.below HBJ.out).1.num hjl
            have HTK : Hid ((gatL x L).take (j + 1) = (gatL x L).take j ++ [x.getD L[j].toNat 0]) := Lib.hid (gatL_take x L hjl)
            generalize L[j] = v at *
            obtain ⟨v, rfl⟩ := Int.eq_ofNat_of_zero_le v0
            have hvx : v < x.length := by have := HM.out; omega
            obtain ⟨xa, rfl⟩ := HRX9.out.1.some_of (by intro h0; have h1 := nums_length .u64 x; rw [h0] at h1; simp at h1; omega)
            have hcx := (HRX9.out.grown (HG4.out.below HBJ.out)).1.num hvx
            rw [Int.toNat_natCast, getD_of hvx] at HTK
            generalize x[v] = u at *
            have HSZ := Lib.hid HBJ.out.size
            go_wp2_with (at_builtin; refine append_row _ Tryd.underlying41 info_u64 rfl _ _ rfl w4.heap.size j z 1 1 Z ⟨wr.heap.size, 0, none⟩ ((gatL x L).take j) [u] rfl rfl (HOJ.out.grown ((Below.refl _ _).alloc (Nat.le_refl _) _)) (row_new wr [.int .u64 u] 40) rfl (by decide) (Nat.le_trans HSZ.out (by simp)) (by omega) (by omega) ?_; intro g cap2 w6 hown hbel hgrow hlt5)
            have HO6 : Hid (Own w6 w4.heap.size 40 1 (some ⟨g, 0, none⟩) (j + 1) cap2 (nums .u64 ((gatL x L).take (j + 1)))) := Lib.hid (by rw [HTK.out]; exact hown)
            have HB6 : Hid (Below w4.heap.size w4 w6) := Lib.hid ((HBJ.out.alloc HSZ.out _).trans (hbel.mono (Nat.le_refl _)))
            clear hown hbel hgrow hlt5
            go_roundw
            case rel => exact ⟨j + 1, some ⟨g, 0, none⟩, cap2, by omega, by go_num, rfl, HO6, HB6⟩
            case measure => simp [intOf]; omega
          · have hje : j = D := by omega
            have HZR : Hid (Row wr Z (nums .u64 (gatL x L))) := Lib.hid (by
              have h1 := HOJ.out.row
              rw [hje, List.take_of_length_le (by rw [HGLN.out]; exact Nat.le_refl _)] at h1
              exact h1)
            have HG5 := Lib.hid (HG4.out.below HBJ.out)
            have HO5 := Lib.hid (HO4.out.grown HBJ.out)
            have HRL5 := Lib.hid (HRL.out.below HBJ.out)
            subst hje
            have hcn := HNEG.out _ _ (HRA9.out.grown HG5.out).1
            clear hjt HOJ HTKK
            go_wp2
            subst hQ
            go_wp2_with fail
            refine (HLN.out Z z (gatL x L) _ HGLN.out (HGU.out L) HIK.out HZR.out).mono ?_
            rintro e w6 ⟨Y, yb, rfl, hoy, hb⟩
            have HG6 := Lib.hid (HG5.out.below hb)
            have HO6 := Lib.hid (HO5.out.grown hb)
            have HRL6 := Lib.hid (HRL5.out.below hb)
            have HRY : Hid (RowX gs w6 Y (nums .u64 (trL p neg true (gatL x L)))) := Lib.hid (hoy.rowX (Own.base HO5.out).2)
            have HYL : Hid ((trL p neg true (gatL x L)).length = j) := Lib.hid (by rw [trL_length]; exact HGLN.out)
            have HOL := Lib.hid (HGL.out k)
            clear hoy hb hcn
            generalize trL p neg true (gatL x L) = T at *
            generalize grB p (dimsA ax) N neg true x k 0 = o at *
            go_wp2
            go_hide hQ
            go_loopw [99] (fun q ws => ∃ c : Nat, c ≤ j ∧ q = .int .i64 c ∧ Hid (Own ws gs 40 1 (some ⟨gs, 0, none⟩) m m (nums .u64 (putN o L T c))) ∧ Hid (Grown gs w6 ws)) (fun q _ => j - (intOf q).toNat)
            case atStart => exact ⟨0, Nat.zero_le _, rfl, HO6, Lib.hid (Grown.refl _ _)⟩
            case round =>
              obtain ⟨c, hc, rfl, HO7, HG7⟩ := hrel
              by_cases hct : c < j
              · have hcl : c < L.length := by have := HLD.out; omega
                have hcy : c < T.length := by have := HYL.out; omega
                obtain ⟨v0, v1⟩ := HL3.out _ (List.getElem_mem hcl)
                obtain ⟨la, rfl⟩ := HRL6.out.1.some_of (by intro h0; have h1 := nums_length .i64 L; rw [h0] at h1; simp at h1; omega)
                obtain ⟨ya, rfl⟩ := HRY.out.1.some_of (by intro h0; have h1 := nums_length .u64 T; rw [h0] at h1; simp at h1; omega)
                have hk0 := (HRL6.out.grown HG7.out).1.num hcl
                have hk1 := (HRY.out.grown HG7.out).1.num hcy
                have HST : Hid (putN o L T (c + 1) = (putN o L T c).set L[c].toNat T[c]) := Lib.hid (by rw [putN, getD_of hcl, getD_of hcy])
                generalize L[c] = v at *
                generalize T[c] = u at *
                obtain ⟨v, rfl⟩ := Int.eq_ofNat_of_zero_le v0
                rw [Int.toNat_natCast] at HST
                have hvm : v < m := by omega
                have hf : wr.frozen? ⟨gs, v, none⟩ = false := HO7.out.frozenAt v
                have hco := HO7.out.cellAt v hvm
                rw [nums_get .u64 _ v (by rw [putN_length, HOL.out]; exact hvm)] at hco
                generalize (putN o L T c)[v]'(by rw [putN_length, HOL.out]; exact hvm) = old at *
                have HS : Hid (Own (wr.setCell ⟨gs, v, none⟩ (.int .u64 u)) gs 40 1 (some ⟨gs, 0, none⟩) m m (nums .u64 (putN o L T (c + 1)))) := Lib.hid (by
                  have h1 := HO7.out.stored v (.int .u64 u)
                  rw [nums_set, ← HST.out] at h1
                  exact h1)
                have HSG := Lib.hid (HG7.out.setCell v (.int .u64 u))
                go_wp2
                go_roundw
                case rel => exact ⟨c + 1, by omega, by go_num, HS, HSG⟩
                case measure => simp [intOf]; omega
              · have hce : c = j := by omega
                have HO8 : Hid (Own wr gs 40 1 (some ⟨gs, 0, none⟩) m m (nums .u64 (grB p (dimsA ax) N neg true x (k + 1) 0))) := Lib.hid (by have h1 := HO7.out; rw [hce, HPK.out] at h1; exact h1)
                have HG8 := Lib.hid (HG6.out.trans HG7.out)
                clear hce
                go_wp2
                subst hQ
                go_wp2
                go_roundw
                case rel => exact ⟨k + 1, by omega, by go_num, HO8, HG8⟩
                case measure => simp [intOf]; omega
      · have hke : k = K := by omega
        have HOE : Hid (Own wr w.heap.size 40 1 (some ⟨gs, 0, none⟩) m m (nums .u64 (axL p (dimsA ax) N neg true x))) := Lib.hid (by have h1 := HO2.out.mono HGS.out; rw [hke, HGA.out] at h1; exact h1)
        have HBE : Hid (Below w.heap.size w wr) := Lib.hid (HB9.out.trans (HG2.out.of_below HGS.out HB9.out.size))
        clear hke
        go_wp2
        go_ret2
        rw [HF.out, show ((axL p (dimsA ax) N neg true x, (0 : Int)).1).length = m from HAL.out]
        exact ⟨_, _, rfl, HOE.out, HBE.out⟩
end Go.Proofs.YtnlmmgcjhedjkaaDoor.P
