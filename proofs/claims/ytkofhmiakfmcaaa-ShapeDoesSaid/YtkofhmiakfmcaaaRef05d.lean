/- The contract of brackenref05's Line. Conditions: words of their kinds; slices read as lists. -/
import Derived.Test.YtkofhmiakfmcaaaRef05c
import Derived.Test.YtkofhmiakfmcaaaLineP
import Derived.WalkMore
namespace Go.Proofs.Ytkofhmiakfmcaaa.P
open Go.RowKit
set_option linter.unusedVariables false
set_option linter.unusedSimpArgs false
/-- What ref05's Line leans on. -/
structure LineK (l : List Int) (N : Nat) (I : Int) (D n K k : Nat) : Prop where
  I1 : 1 ≤ I
  D1 : 1 ≤ D
  D2 : D ≤ 4096
  n2 : n ≤ 4096
  kK : k < K
  c0 : ∀ V : Nat, V < n → coordS l V = (coordL l V, 0) ∧ (coordL l V).getD N 0 = xOf I D V
  at0 : ∀ (s V : Nat), V < n → s ≤ k → Seen I D s V → xOf I D V = 0 → (V : Int) = vOf I D s 0
  set : ∀ (x V : Nat), (V : Int) = vOf I D k 0 → x < D → (coordL l V).set N (x : Int) = coordL l (vOf I D k x)
  flat : ∀ x : Nat, x < D → flatS l (coordL l (vOf I D k x)) = (lineG l N k x, 0) ∧ ∀ d ∈ coordL l (vOf I D k x), i64 d
  len : lineL l N k = (List.range D).map (lineG l N k)
  lenD : (lineL l N k).length = D
  end' : ∀ s : Nat, s ≤ k → ¬ Seen I D s n
theorem lineK_of {l : List Int} (hd : Dims l) {N : Nat} (hN : N < l.length) {D n K k : Nat} (hD : l[N] = (D : Int)) (hn : prodL l = (n : Int)) (h : Lines l N (prodL (l.drop (N + 1))) D n K) (hk : k < K) :
    LineK l N (prodL (l.drop (N + 1))) D n K k := by
  have hd1 := hd.pos.at hN
  have hO1 := (hd.pos.take N).prod
  have hprod : prodL l = prodL (l.take N) * l[N] * prodL (l.drop (N + 1)) := by
    rw [← prodL_take l N hN, ← prodL_append, List.take_append_drop]
  have hI1 := h.I1
  have hD1 := h.D1
  refine ⟨hI1, hD1, ?_, ?_, hk, h.coord, ?_, ?_, ?_, h.len k, ?_, ?_⟩
  · have h1 := hd.pos.at_le hN
    have h2 := hd.all
    omega
  · have h2 := hd.all
    omega
  · intro s V hV hs hS hx
    refine hS.first hI1 (by omega) (O := prodL (l.take N)) hx (by omega) ?_
    rw [← hD, ← hprod, hn]; omega
  · intro x V hV hx
    rw [hV, ← hD]
    exact coordL_line hd.pos hN _ (by omega) (by omega)
  · intro x hx
    have hb := h.bound k x hk hx
    refine ⟨?_, coordL_i64 hd hb.1⟩
    rw [flat_coord hd hb.1 (by rw [hn]; exact hb.2), h.at' k x]
  · rw [h.len k]; simp
  · intro s hs hS
    have hb := h.bound s 0 (by omega) (by omega)
    have := hS.2
    rw [show (((0 : Nat) : Int)) = 0 from rfl] at hb
    omega
set_option maxRecDepth 100000 in
theorem r05_line (A : Option Addr) (ca : Nat) (l : List Int) (a k : Int) (w : World) (hr : Row w A (nums .i64 l)) (hl : l.length ≤ 9223372036854775807) (hcap : l.length ≤ ca) (hw : ∀ d ∈ l, i64 d) (ha : i64 a) (hk : i64 k) :
    Calls Try.prog 41 #[.slice A l.length ca, .int .i64 a, .int .i64 k] w fun e w' => ∃ B b,
      e = .returned (.tuple #[.slice B (lineS l a k).1.length b, .int .i64 (lineS l a k).2]) ∧ Own w' w.heap.size 3 1 B (lineS l a k).1.length b (nums .i64 (lineS l a k).1) ∧ Below w.heap.size w w' := by
  have HR := Lib.hid hr
  have HL := Lib.hid hl
  have HW := Lib.hid hw
  have HAA := Lib.hid ha
  clear hr hl hw
  by_cases hd : Dims l
  case neg =>
    have HF : Hid (lineS l a k = ([], 3)) := Lib.hid (by rw [lineS, if_neg hd])
    have HA := Lib.hid (allS_no hd)
    rw [HF.out]
    clear hd
    go_enter Try.func41, Try.ntmps41
    go_wp2_with (go_at_call 36; refine (r05_all _ _ _ _ HR.out HL.out HW.out).mono ?_; rw [HA.out]; rintro e w' ⟨rfl, rfl⟩)
    go_ret2
    exact ⟨none, 0, rfl, Own.nil _ _ _ _, Below.refl _ _⟩
  have HA := Lib.hid (allS_yes hd)
  have HD := Lib.hid hd
  have hn1 := hd.n1
  have hn4 := hd.n4
  by_cases hin : 0 ≤ a ∧ a < l.length
  case neg =>
    have HF : Hid (lineS l a k = ([], 1)) := Lib.hid (by rw [lineS, if_pos hd, if_neg hin])
    rw [HF.out]
    by_cases h0 : a < 0
    · have f0 : decide (a < 0) = true := by simpa using h0
      clear hd hin
      go_enter Try.func41, Try.ntmps41
      go_wp2_with (go_at_call 36; refine (r05_all _ _ _ _ HR.out HL.out HW.out).mono ?_; rw [HA.out]; rintro e w' ⟨rfl, rfl⟩)
      go_ret2
      exact ⟨none, 0, rfl, Own.nil _ _ _ _, Below.refl _ _⟩
    · have f0 : decide (a < 0) = false := by simpa using h0
      have f1 : decide ((l.length : Int) ≤ a) = true := by simp; omega
      clear hd hin
      go_enter Try.func41, Try.ntmps41
      go_wp2_with (go_at_call 36; refine (r05_all _ _ _ _ HR.out HL.out HW.out).mono ?_; rw [HA.out]; rintro e w' ⟨rfl, rfl⟩)
      go_ret2
      exact ⟨none, 0, rfl, Own.nil _ _ _ _, Below.refl _ _⟩
  obtain ⟨a0, a1⟩ := hin
  obtain ⟨N, rfl⟩ := Int.eq_ofNat_of_zero_le a0
  have hN : N < l.length := by omega
  obtain ⟨x, rfl⟩ := HR.out.some_of (by intro h0; have := nums_length .i64 l; rw [h0] at this; simp at this; omega)
  have hcell : w.cell? (x.add N) = some (.int .i64 l[N]) := HR.out.num hN
  obtain ⟨D, n, K, hD, hn, hLN⟩ := lines_of hd hN
  have hD1 := hLN.D1
  have hdiv : (n : Int) / (D : Int) = (K : Int) := hLN.div
  have hD0 : ¬ (D : Int) = 0 := by omega
  have hn2 : n ≤ 4096 := by have := hd.all; omega
  have hKn : K ≤ n := by
    have h1 : (n : Int) / (D : Int) ≤ n := Int.ediv_le_self _ (by omega)
    omega
  have f0 : decide ((N : Int) < 0) = false := by simp
  have f1 : decide ((l.length : Int) ≤ (N : Int)) = false := by simp; omega
  have f2 : decide (l.length ≤ N) = false := by simp; omega
  have hGD : l.getD N 1 = (D : Int) := by rw [getD_at hN, hD]
  by_cases hkin : 0 ≤ k ∧ k < (K : Int)
  case neg =>
    have HF : Hid (lineS l N k = ([], 1)) := Lib.hid (by rw [lineS, if_pos hd, if_pos ⟨a0, a1⟩, Int.toNat_natCast, hGD, hn, hdiv, if_neg hkin])
    rw [HF.out]
    rw [hD] at hcell
    rw [hn] at HA
    by_cases h0 : k < 0
    · have g0 : decide (k < 0) = true := by simpa using h0
      clear hd hkin hk ha a0 a1 hLN hD hn hGD HD
      go_enter Try.func41, Try.ntmps41
      go_wp2_with (go_at_call 36; refine (r05_all _ _ _ _ HR.out HL.out HW.out).mono ?_; rw [HA.out]; rintro e w' ⟨rfl, rfl⟩)
      go_ret2
      exact ⟨none, 0, rfl, Own.nil _ _ _ _, Below.refl _ _⟩
    · have g0 : decide (k < 0) = false := by simpa using h0
      have g1 : decide ((K : Int) ≤ k) = true := by simp; omega
      clear hd hkin hk ha a0 a1 hLN hD hn hGD HD
      go_enter Try.func41, Try.ntmps41
      go_wp2_with (go_at_call 36; refine (r05_all _ _ _ _ HR.out HL.out HW.out).mono ?_; rw [HA.out]; rintro e w' ⟨rfl, rfl⟩)
      go_ret2
      exact ⟨none, 0, rfl, Own.nil _ _ _ _, Below.refl _ _⟩
  obtain ⟨k0, k1⟩ := hkin
  obtain ⟨k, rfl⟩ := Int.eq_ofNat_of_zero_le k0
  have hkK : k < K := by omega
  have HK := Lib.hid (lineK_of hd hN hD hn hLN hkK)
  have HF : Hid (lineS l N (k : Int) = (lineL l N k, 0)) := Lib.hid (hLN.line k hkK)
  have HLL := Lib.hid HK.out.lenD
  have hD2 := HK.out.D2
  rw [HF.out, show ((lineL l N (k : Int), (0 : Int)).1) = lineL l N k from rfl, show ((lineL l N (k : Int), (0 : Int)).2) = 0 from rfl, HLL.out]
  rw [hD] at hcell
  rw [hn] at HA
  have g0 : decide ((k : Int) < 0) = false := by simp
  have g1 : decide ((K : Int) ≤ (k : Int)) = false := by simp; omega
  have g2 : decide (K ≤ k) = false := by simp; omega
  have HX : Hid ((x.add N).block < w.heap.size) := Lib.hid (World.block_lt_of_cell? w _ (HR.out.num hN))
  have HCW : Hid (∀ W', Below w.heap.size w W' → W'.cell? (x.add N) = some (.int .i64 (D : Int))) := Lib.hid fun W' hW' => by
    rw [hW'.cell HX.out]; exact hcell
  have HRA : Hid (∀ W', Below w.heap.size w W' → Row W' (some x) (nums .i64 l)) := Lib.hid fun W' hW' => HR.out.below hW'
  clear hd hk ha a0 a1 hLN hD hn hGD HD k0 k1
  generalize prodL (l.drop (N + 1)) = I at *
  go_enter Try.func41, Try.ntmps41
  go_wp2_with (go_at_call 36; refine (r05_all _ _ _ _ HR.out HL.out HW.out).mono ?_; rw [HA.out]; rintro e w' ⟨rfl, rfl⟩)
  go_loopw [10, 49] (fun f i wr => ∃ (s V : Nat), s ≤ k ∧ V ≤ n ∧ f = .int .i64 s ∧ i = .int .i64 V ∧ Hid (Seen I D s V) ∧ Hid (Below w'.heap.size w' wr)) (fun _ i _ => n - (intOf i).toNat)
  case atStart => exact ⟨0, 0, Nat.zero_le _, Nat.zero_le _, rfl, rfl, Lib.hid (Seen.start HK.out.I1), Lib.hid (Below.refl _ _)⟩
  case round =>
    obtain ⟨s, V, hs, hV, rfl, rfl, HS, HB⟩ := hrel
    by_cases hlt : V < n
    case neg =>
      exfalso
      have hVn : V = n := by omega
      subst hVn
      exact HK.out.end' s hs HS.out
    have HC := Lib.hid (HK.out.c0 V hlt)
    have HCL : Hid ((coordL l V).length = l.length) := Lib.hid (coordL_length l V)
    go_wp2_with fail
    refine (r05_coord _ _ l V _ (HRA.out _ HB.out) HL.out hcap HW.out ⟨by omega, by omega⟩).mono ?_
    rw [HC.out.1]
    rintro e w3 ⟨Z, cz, rfl, ho3, hb3⟩
    have HRZ := Lib.hid ho3.row
    obtain ⟨z, rfl⟩ := HRZ.out.some_of (by
      intro h0
      have h1 := nums_length .i64 (coordL l V)
      rw [h0, HCL.out] at h1
      simp at h1; omega)
    rw [show ((coordL l (V : Int), (0 : Int)).1.length) = l.length from HCL.out]
    have hcz : w3.cell? (z.add N) = some (.int .i64 (xOf I D V)) := by
      have h1 := HRZ.out.num (i := N) (by show N < (coordL l (V : Int)).length; rw [HCL.out]; exact hN)
      rw [h1, ← HC.out.2, getD_at (by rw [HCL.out]; exact hN)]
    have HB3 : Hid (Below w'.heap.size w' w3) := Lib.hid (HB.out.trans (hb3.mono HB.out.size))
    have HO3 : Hid (Own w3 w'.heap.size 3 1 (some z) l.length cz (nums .i64 (coordL l V))) := Lib.hid (by
      have h1 := ho3.mono HB.out.size
      rw [show ((coordL l (V : Int), (0 : Int)).1.length) = l.length from HCL.out] at h1
      exact h1)
    clear ho3 hb3
    by_cases hx : xOf I D V = 0
    case neg =>
      have HS2 := Lib.hid (HS.out.other HK.out.I1 (by have := HK.out.D1; omega) hx)
      generalize xOf I D V = X at *
      have t0 : (X != 0) = true := by simpa using hx
      clear hx
      go_wp2
      go_roundw
      case rel => exact ⟨s, V + 1, hs, by omega, rfl, by go_num, HS2, HB3⟩
      case measure => simp [intOf]; omega
    have HVS := Lib.hid (HK.out.at0 s V hlt hs HS.out hx)
    rw [hx] at hcz
    by_cases hsk : s < k
    case pos =>
      have HS2 := Lib.hid (HS.out.next HK.out.I1 (by have := HK.out.D1; omega) HVS.out)
      have t1 : decide ((s : Int) < (k : Int)) = true := by simp; omega
      clear hx
      go_wp2
      go_roundw
      case rel => exact ⟨s + 1, V + 1, by omega, by omega, by go_num, by go_num, HS2, HB3⟩
      case measure => simp [intOf]; omega
    have hse : s = k := by omega
    subst hse
    have t1 : decide ((s : Int) < (s : Int)) = false := by simp
    have hcD := HCW.out _ HB3.out
    obtain ⟨gz, cpz, hzv, _, _⟩ := World.ownsRow.form HO3.out (show 0 < l.length by omega)
    cases hzv
    have HZlt := Lib.hid HO3.out.base
    have hcz2 : w3.cell? ⟨gz, N, none⟩ = some (.int .i64 0) := by
      rw [HO3.out.cellAt N hN, nums_get .i64 _ N (by rw [HCL.out]; exact hN), ← getD_at (by rw [HCL.out]; exact hN) 0, HC.out.2, hx]
    clear hx hcz
    go_wp2
    go_hide hQ
    go_loopw [14, 72] (fun o q wr => ∃ (y : Nat) (m : List Int) (Z : Option Addr) (z : Nat), y ≤ D ∧ q = .int .i64 y ∧ o = .slice Z y z ∧ Hid (Own wr w3.heap.size 3 1 Z y z (nums .i64 ((List.range y).map (lineG l N s)))) ∧
      Hid (Own wr w'.heap.size 3 1 (some ⟨gz, 0, none⟩) l.length cz (nums .i64 m)) ∧ Hid (∀ v, m.set N v = (coordL l V).set N v) ∧ Hid (Below w'.heap.size w' wr) ∧ Hid (w3.heap.size ≤ wr.heap.size)) (fun _ q _ => D - (intOf q).toNat)
    case atStart => exact ⟨0, coordL l V, none, 0, Nat.zero_le _, rfl, rfl, Lib.hid (Own.nil _ _ _ _), HO3, Lib.hid (fun _ => rfl), HB3, Lib.hid (Nat.le_refl _)⟩
    case round =>
      obtain ⟨y, m, Z, z, hy, rfl, rfl, HO4, HC4, HM, HB4, HZ4⟩ := hrel
      by_cases hly : y < D
      · have HST : Hid (Own (wr.setCell ⟨gz, N, none⟩ (.int .i64 y)) w'.heap.size 3 1 (some ⟨gz, 0, none⟩) l.length cz (nums .i64 (coordL l (vOf I D s y)))) := Lib.hid (by
          have h1 := HC4.out.stored N (.int .i64 y)
          rw [nums_set, HM.out, HK.out.set y V HVS.out hly] at h1
          exact h1)
        have HSO := Lib.hid (HO4.out.setBelow (p := ⟨gz, N, none⟩) HZlt.out.2 (.int .i64 (y : Int)))
        have HSB : Hid (Below w'.heap.size w' (wr.setCell ⟨gz, N, none⟩ (.int .i64 y))) := Lib.hid (HB4.out.setCell HZlt.out.1 _)
        have HSS : Hid (w3.heap.size ≤ (wr.setCell ⟨gz, N, none⟩ (.int .i64 y)).heap.size) := Lib.hid (by rw [Deep.nblk_setCell]; exact HZ4.out)
        have hlm : m.length = l.length := by
          have h1 := HC4.out.len
          rw [nums_length] at h1
          omega
        have hc2 : wr.cell? ⟨gz, N, none⟩ = some (.int .i64 (m[N]'(by omega))) := by
          rw [HC4.out.cellAt N hN]; exact nums_get .i64 _ N (by omega)
        have hf2 : wr.frozen? ⟨gz, N, none⟩ = false := HC4.out.frozenAt N
        generalize m[N]'(by omega) = mN at *
        have HFL := Lib.hid (HK.out.flat y hly)
        have HLN : Hid ((coordL l (vOf I D s y)).length = l.length) := Lib.hid (coordL_length l _)
        have HSR : Hid ((List.range (y + 1)).map (lineG l N s) = (List.range y).map (lineG l N s) ++ [lineG l N s y]) := Lib.hid (by
          rw [List.range_succ, List.map_append, List.map_singleton])
        go_wp2_with fail
        have hcall := r05_flat (some x) (some ⟨gz, 0, none⟩) ca cz l (coordL l (vOf I D s y)) (wr.setCell ⟨gz, N, none⟩ (.int .i64 y)) (HRA.out _ HSB.out) HL.out hcap HW.out HST.out.row (by rw [HLN.out]; exact HL.out) HFL.out.2
        rw [HLN.out, HFL.out.1] at hcall
        refine hcall.mono ?_
        clear hcall hc2 hf2 hlm
        rintro e w5 ⟨rfl, rfl⟩
        generalize wr.setCell ⟨gz, N, none⟩ (.int .i64 y) = W4 at *
        generalize lineG l N s y = at0 at *
        go_wp2_with (at_builtin; refine append_row _ Try.underlying22 info_int rfl _ _ rfl w3.heap.size y z 1 1 Z ⟨W4.heap.size, 0, none⟩ ((List.range y).map (lineG l N s)) [at0] rfl rfl (HSO.out.grown ((Below.refl _ _).alloc (Nat.le_refl _) _)) (row_new W4 [.int .i64 at0] 3) rfl (by decide) (Nat.le_trans HSS.out (by simp)) (by omega) (by omega) ?_; intro g cap2 w6 hown hbel hgrow hlt5)
        have HO6 : Hid (Own w6 w3.heap.size 3 1 (some ⟨g, 0, none⟩) (y + 1) cap2 (nums .i64 ((List.range (y + 1)).map (lineG l N s)))) := Lib.hid (by rw [HSR.out]; exact hown)
        have HB6 : Hid (Below w3.heap.size W4 w6) := Lib.hid (((Below.refl _ _).alloc HSS.out _).trans (hbel.mono (Nat.le_refl _)))
        have HC6 := Lib.hid (HST.out.keepBelow HZlt.out.2 HB6.out)
        have HB7 : Hid (Below w'.heap.size w' w6) := Lib.hid (HSB.out.trans (HB6.out.mono HB3.out.size))
        have HZ6 : Hid (w3.heap.size ≤ w6.heap.size) := Lib.hid (Nat.le_trans HSS.out HB6.out.size)
        have HM6 : Hid (∀ v, (coordL l (vOf I D s y)).set N v = (coordL l V).set N v) := Lib.hid fun v => by
          rw [← HK.out.set y V HVS.out hly, List.set_set]
        clear hown hbel hgrow hlt5
        go_roundw
        case rel => exact ⟨y + 1, coordL l (vOf I D s y), some ⟨g, 0, none⟩, cap2, by omega, by go_num, rfl, HO6, HC6, HM6, HB7, HZ6⟩
        case measure => simp [intOf]; omega
      · have hye : y = D := by omega
        subst hye
        have HOE : Hid (Own wr w'.heap.size 3 1 Z y z (nums .i64 (lineL l N s))) := Lib.hid (by
          rw [HK.out.len]; exact HO4.out.mono HB3.out.size)
        go_wp2
        subst hQ
        go_wp2
        go_ret2
        exact ⟨_, _, rfl, HOE.out, HB4.out⟩
end Go.Proofs.Ytkofhmiakfmcaaa.P
