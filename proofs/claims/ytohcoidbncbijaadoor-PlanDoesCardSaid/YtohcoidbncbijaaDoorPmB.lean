
/- The contract of brackenref17.Make. Conditions: words of their kinds; the slice reads as a list of axes. -/
import Derived.Test.YtohcoidbncbijaaDoorPmA
import Derived.Test.YtohcoidbncbijaaDoorRtA
import Derived.Test.YtohcoidbncbijaaDoorPlB
import Derived.Test.YtohcoidbncbijaaDoorGrF
namespace Go.Proofs.YtohcoidbncbijaaDoor.P
open Go.RowKit
set_option linter.unusedVariables false
set_option linter.unusedSimpArgs false
set_option maxRecDepth 100000 in
set_option maxHeartbeats 1000000 in
theorem rmake_no (p : Int) (A : Option Addr) (c n : Nat) (ax : List (Int × Bool)) (inv : Bool) (w : World) (hn : ax.length = n) (hp : U64 p) (hr : Row w A (axR ax)) (hl : n ≤ 8796093022208) (hw : ∀ a ∈ ax, i64 a.1) (hc : chk7 p ax ≠ 0) :
    Calls Tryd.prog 34 #[.int .u64 p, .slice A n c, .bool inv] w fun e w' => e = .returned (.tuple #[.agg #[.int .i64 0, .int .i64 0, .int .i64 0, .slice none 0 0], .int .i64 (chk7 p ax)]) ∧ Below w.heap.size w w' := by
  have HP := Lib.hid hp
  have HN := Lib.hid hn
  have HW := Lib.hid hw
  have HF : Hid (stepsS p ax inv = ([], chk7 p ax)) := Lib.hid (by rw [stepsS, if_neg hc])
  have t0 : (chk7 p ax != 0) = true := by simpa using hc
  have hb0 : Below w.heap.size w (w.alloc (.cells #[.int .i64 0, .int .i64 0, .int .i64 0, .slice none 0 0] 54)) := (Below.refl _ _).alloc (Nat.le_refl _) _
  have HB0 := Lib.hid hb0
  have HR0 := Lib.hid (hr.below hb0)
  have HO0 : Hid (Own (w.alloc (.cells #[.int .i64 0, .int .i64 0, .int .i64 0, .slice none 0 0] 54)) w.heap.size 54 1 (some ⟨w.heap.size, 0, none⟩) 4 4 [.int .i64 0, .int .i64 0, .int .i64 0, .slice none 0 0]) := Lib.hid (own_one w w.heap.size 54 [.int .i64 0, .int .i64 0, .int .i64 0, .slice none 0 0] 4 (Nat.le_refl _) rfl (by decide))
  clear hn hp hr hw hb0 hc
  go_enter Tryd.func34, Tryd.ntmps34
  go_wp2_with fail
  generalize (w.alloc (.cells #[.int .i64 0, .int .i64 0, .int .i64 0, .slice none 0 0] 54)) = V0 at *
  refine (r17steps_calls p A c n ax inv V0 HN.out HP.out HR0.out hl HW.out).mono ?_
  rw [HF.out]
  rintro e w2 ⟨B, b, rfl, ho, hb⟩
  have HB2 := Lib.hid (blT HB0.out hb)
  have HO2 := Lib.hid (HO0.out.grown hb)
  clear ho hb
  dsimp only
  obtain ⟨c0, c1, c2, c3⟩ := own4_cells HO2.out
  have f0 := HO2.out.frozenAt 0
  have f1 := HO2.out.frozenAt 1
  have f2 := HO2.out.frozenAt 2
  have f3 := HO2.out.frozenAt 3
  have HO3 := Lib.hid (own4 HO2.out (.int .i64 0) (.int .i64 0) (.int .i64 0) (.slice none 0 0))
  have HB3 : Hid (Below w.heap.size w ((((w2.setCell ⟨w.heap.size, 0, none⟩ (.int .i64 0)).setCell ⟨w.heap.size, 1, none⟩ (.int .i64 0)).setCell ⟨w.heap.size, 2, none⟩ (.int .i64 0)).setCell ⟨w.heap.size, 3, none⟩ (.slice none 0 0))) := Lib.hid ((((HB2.out.setCell (p := ⟨w.heap.size, 0, none⟩) (Nat.le_refl _) _).setCell (p := ⟨w.heap.size, 1, none⟩) (Nat.le_refl _) _).setCell (p := ⟨w.heap.size, 2, none⟩) (Nat.le_refl _) _).setCell (p := ⟨w.heap.size, 3, none⟩) (Nat.le_refl _) _)
  go_wp2
  clear c0 c1 c2 c3
  obtain ⟨c0, c1, c2, c3⟩ := own4_cells HO3.out
  refine bodyPost_ret (plan_ret rfl _ _ w.heap.size _ _ _ _ _ rfl rfl c0 c1 c2 c3) rfl ⟨rfl, HB3.out⟩
set_option maxRecDepth 100000 in
set_option maxHeartbeats 1000000 in
theorem rmake_yes (p : Int) (A : Option Addr) (c n : Nat) (ax : List (Int × Bool)) (inv : Bool) (w : World) (hn : ax.length = n) (hp : U64 p) (hr : Row w A (axR ax)) (hl : n ≤ 8796093022208) (hw : ∀ a ∈ ax, i64 a.1) (hc : chk7 p ax = 0) :
    Calls Tryd.prog 34 #[.int .u64 p, .slice A n c, .bool inv] w fun e w' => ∃ B b, e = .returned (.tuple #[.agg #[.int .i64 (prodL (dimsA ax)), .int .i64 (mostN (tlen p ax inv) (stepsN ax inv n) (stepsN ax inv n).length : Nat), .int .i64 (2 * (prodL (dimsA ax) + 6) + (mostN (tlen p ax inv) (stepsN ax inv n) (stepsN ax inv n).length : Nat)), .slice B (stepsN ax inv n).length b], .int .i64 0]) ∧
      Row w' B (spR (stepsN ax inv n)) ∧ Below w.heap.size w w' := by
  have HP := Lib.hid hp
  have HN := Lib.hid hn
  have HW := Lib.hid hw
  have hC7 := chk7_ok hc
  have HF : Hid (stepsS p ax inv = (stepsN ax inv n, 0)) := Lib.hid (by rw [stepsS, if_pos hc, hn])
  have HMAY : Hid (∀ s ∈ stepsN ax inv n, chk16 p ax s = 0) := Lib.hid fun s hs => steps_may hC7 (by rw [hn]; exact Nat.le_refl _) hs
  have hp1 := hC7.dims.pos.prod
  have hp4 := hC7.dims.all
  have HAL : Hid (allS (dimsA ax) = (prodL (dimsA ax), 0)) := Lib.hid (allS_yes hC7.dims)
  have HDL : Hid ((dimsA ax).length = n) := Lib.hid (by rw [dimsA_length]; exact hn)
  have HDI : Hid (∀ d ∈ dimsA ax, i64 d) := Lib.hid (dimsA_i64 hw)
  have hlen : (stepsN ax inv n).length ≤ 56 := by
    have h1 := stepsN_len hC7.smooth inv n (by rw [hn]; exact Nat.le_refl _)
    have h2 := hC7.dims.n4
    rw [dimsA_length, hn] at h2
    omega
  have HTL : Hid (∀ s ∈ stepsN ax inv n, tlen p ax inv s ≤ 4096) := Lib.hid fun s hs => by
    obtain ⟨k, N, neg, hK, _, h2⟩ := tlen_le (inv := inv) s (HMAY.out s hs)
    have := hK.c6.n2
    omega
  generalize prodL (dimsA ax) = PD at *
  obtain ⟨l, hl2⟩ : ∃ l, stepsN ax inv n = l := ⟨_, rfl⟩
  rw [hl2] at HF HMAY hlen HTL ⊢
  obtain ⟨K, hK⟩ : ∃ K, l.length = K := ⟨_, rfl⟩
  have HK : Hid (l.length = K) := Lib.hid hK
  have HK2 : Hid (((l, (0 : Int)).1).length = K) := Lib.hid hK
  rw [hK] at hlen ⊢
  have hb0 : Below w.heap.size w (w.alloc (.cells #[.int .i64 0, .int .i64 0, .int .i64 0, .slice none 0 0] 54)) := (Below.refl _ _).alloc (Nat.le_refl _) _
  have HB0 := Lib.hid hb0
  have HR0 := Lib.hid (hr.below hb0)
  have HO0 : Hid (Own (w.alloc (.cells #[.int .i64 0, .int .i64 0, .int .i64 0, .slice none 0 0] 54)) w.heap.size 54 1 (some ⟨w.heap.size, 0, none⟩) 4 4 [.int .i64 0, .int .i64 0, .int .i64 0, .slice none 0 0]) := Lib.hid (own_one w w.heap.size 54 [.int .i64 0, .int .i64 0, .int .i64 0, .slice none 0 0] 4 (Nat.le_refl _) rfl (by decide))
  clear hn hp hr hw hb0 hc hC7 hl2 hK
  go_enter Tryd.func34, Tryd.ntmps34
  go_wp2_with fail
  generalize (w.alloc (.cells #[.int .i64 0, .int .i64 0, .int .i64 0, .slice none 0 0] 54)) = V0 at *
  refine (r17steps_calls p A c n ax inv V0 HN.out HP.out HR0.out hl HW.out).mono ?_
  rw [HF.out, HK2.out]
  rintro e w2 ⟨B, b, rfl, ho, hb⟩
  have HB2 := Lib.hid (blT HB0.out hb)
  have HO2 := Lib.hid (HO0.out.grown hb)
  have HR2 := Lib.hid (HR0.out.below hb)
  have HL2 := Lib.hid ho.row
  have HLO : Hid (∀ x, B = some x → w.heap.size + 1 ≤ x.block) := Lib.hid fun x hx => by
    have h1 := ho.from' x hx
    have h2 := (Own.base HO0.out).2
    omega
  clear ho hb
  dsimp only
  go_wp2_with fail
  refine (rdims7_calls A c n ax w2 HN.out HR2.out hl).mono ?_
  rintro e w3 ⟨D, dd, rfl, ho, hb⟩
  have HB3 := Lib.hid (blT HB2.out hb)
  have HO3 := Lib.hid (HO2.out.grown hb)
  have HR3 := Lib.hid (HR2.out.below hb)
  have HL3 := Lib.hid (HL2.out.below hb)
  have HD3 := Lib.hid ho.row
  clear ho hb
  go_wp2_with fail
  refine (r05_all_n D dd n (dimsA ax) w3 HDL.out HD3.out (by omega) HDI.out).mono ?_
  rw [HAL.out]
  rintro e w4 ⟨rfl, rfl⟩
  dsimp only
  go_wp2
  go_loopw [12, 36] (fun v q ws => ∃ i : Nat, i ≤ K ∧ q = .int .i64 i ∧ v = .int .i64 ((mostN (tlen p ax inv) l i : Nat) : Int) ∧ Hid (Below w4.heap.size w4 ws)) (fun _ q _ => K - (intOf q).toNat)
  case atStart => exact ⟨0, Nat.zero_le _, rfl, rfl, Lib.hid (Below.refl _ _)⟩
  case round =>
    obtain ⟨i, hi, rfl, rfl, HB5⟩ := hrel
    have hmo : mostN (tlen p ax inv) l i ≤ 4096 := mostN_le _ _ HTL.out i (by rw [HK.out]; exact hi)
    by_cases hlt : i < K
    · have hil : i < l.length := by have := HK.out; omega
      obtain ⟨la, rfl⟩ := HL3.out.some_of (by intro h0; have h1 := spR_length l; rw [h0] at h1; simp at h1; omega)
      obtain ⟨b0, b1, b2, b3, b4⟩ := sp_cells (HL3.out.below HB5.out) hil
      obtain ⟨ks, N, neg, hKs, htab, hlenT⟩ := tlen_le (inv := inv) _ (HMAY.out _ (List.getElem_mem hil))
      have hN4 := hKs.c6.n2
      have HNX : Hid (mostN (tlen p ax inv) l (i + 1) = max (mostN (tlen p ax inv) l i) (tlen p ax inv l[i])) := Lib.hid (by rw [mostN, List.getD_eq_getElem?_getD, List.getElem?_eq_getElem hil]; rfl)
      have HTE : Hid ((tabS p ax inv l[i]).1.length = tlen p ax inv l[i]) := Lib.hid rfl
      have HT2 : Hid ((tabS p ax inv l[i]).2 = 0) := Lib.hid (by rw [htab])
      obtain ⟨⟨s0, s1, s2, s3, s4⟩, hs⟩ : ∃ s, l[i] = s := ⟨_, rfl⟩
      rw [hs] at HNX HTE HT2 hlenT b0 b1 b2 b3 b4
      dsimp only at b0 b1 b2 b3 b4
      clear hs hil hKs htab
      generalize tlen p ax inv (s0, s1, s2, s3, s4) = tn at *
      obtain ⟨mo, hme⟩ : ∃ m, mostN (tlen p ax inv) l i = m := ⟨_, rfl⟩
      rw [hme] at HNX hmo
      rw [hme]
      clear hme
      have hbG : Below wr.heap.size wr (wr.alloc (.cells #[.int .i64 s0, .bool s1, .int .i64 s2, .int .i64 s3, .int .i64 s4] 39)) := (Below.refl _ _).alloc (Nat.le_refl _) _
      have HBG := Lib.hid hbG
      clear hbG
      go_wp2_with fail
      clear b0 b1 b2 b3 b4
      generalize (wr.alloc (.cells #[.int .i64 s0, .bool s1, .int .i64 s2, .int .i64 s3, .int .i64 s4] 39)) = V2 at *
      have HBV : Hid (Below w4.heap.size w4 V2) := Lib.hid (blT HB5.out HBG.out)
      refine (rtab_calls p A c n ax inv s0 s1 s2 s3 s4 V2 HN.out HP.out (HR3.out.below HBV.out) hl HW.out).mono ?_
      rw [HTE.out, HT2.out]
      rintro e w7 ⟨T, tc, rfl, ho, hb⟩
      have HB7 : Hid (Below w4.heap.size w4 w7) := Lib.hid (blT HBV.out hb)
      have HMX : Hid (max (mo : Int) (tn : Int) = ((max mo tn : Nat) : Int)) := Lib.hid (by omega)
      clear ho hb
      go_wp2
      go_roundw
      case rel => exact ⟨i + 1, by omega, by go_num, by rw [HNX.out, HMX.out], HB7⟩
      case measure => simp [intOf]; omega
    · have hie : i = K := by omega
      subst hie
      obtain ⟨mo, hme⟩ : ∃ m, mostN (tlen p ax inv) l i = m := ⟨_, rfl⟩
      rw [hme] at hmo
      have HME := Lib.hid hme
      rw [hme]
      clear hme
      have o1 : IntKind.i64.wrap (PD + 6) = PD + 6 := wrapI (by omega) (by omega)
      have o2 : IntKind.i64.wrap (2 * (PD + 6)) = 2 * (PD + 6) := wrapI (by omega) (by omega)
      have o3 : IntKind.i64.wrap (2 * (PD + 6) + (mo : Int)) = 2 * (PD + 6) + (mo : Int) := wrapI (by omega) (by omega)
      have hs0 := HO3.out.grown HB5.out
      obtain ⟨e0, e1, e2, e3⟩ := own4_cells hs0
      have f0 := hs0.frozenAt 0
      have f1 := hs0.frozenAt 1
      have f2 := hs0.frozenAt 2
      have f3 := hs0.frozenAt 3
      have HF4 := Lib.hid (own4 hs0 (.int .i64 PD) (.int .i64 (mo : Int)) (.int .i64 (2 * (PD + 6) + (mo : Int))) (.slice B i b))
      have HLX := Lib.hid ((HL3.out.below HB5.out).set4 (b := w.heap.size) (fun x hx => by have h2 := HLO.out x hx; omega) (.int .i64 PD) (.int .i64 (mo : Int)) (.int .i64 (2 * (PD + 6) + (mo : Int))) (.slice B i b))
      have HBX := Lib.hid (below_set4 (blT HB3.out HB5.out) (Nat.le_refl _) (.int .i64 PD) (.int .i64 (mo : Int)) (.int .i64 (2 * (PD + 6) + (mo : Int))) (.slice B i b))
      clear hs0
      go_wp2
      clear e0 e1 e2 e3
      obtain ⟨c0, c1, c2, c3⟩ := own4_cells HF4.out
      exact bodyPost_ret (plan_ret rfl _ _ w.heap.size _ _ _ _ _ rfl rfl c0 c1 c2 c3) rfl ⟨B, b, by rw [HME.out]; rfl, HLX.out, HBX.out⟩
end Go.Proofs.YtohcoidbncbijaaDoor.P
