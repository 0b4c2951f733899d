
/- The law SeedSums, walked. Conditions: words of their kinds; the slices read as lists; the library's table lies as it was laid. -/
import Derived.Test.YtnlmmgcjhedjkaaDoorSdC
import Derived.Test.YtnlmmgcjhedjkaaDoorGrF
namespace Go.Proofs.YtnlmmgcjhedjkaaDoor.P
open Go.RowKit
set_option linter.unusedVariables false
set_option linter.unusedSimpArgs false
theorem keep2s {w w' : World} {a b : Addr} {va vb : Value} (hb : Below w.heap.size w w') (h : w.cell? a = some va ∧ w.cell? b = some vb) : w'.cell? a = some va ∧ w'.cell? b = some vb :=
  ⟨(hb.cell (World.block_lt_of_cell? w a h.1)).trans h.1, (hb.cell (World.block_lt_of_cell? w b h.2)).trans h.2⟩
theorem wgt_axis {p : Int} {ax : List (Int × Bool)} {inv : Bool} {r : Int} (h : Chk7 p ax) (hp : U64 p) (hw : ∀ a ∈ ax, i64 a.1) {k : Nat} (hk : k < ax.length) {cc : Nat} (hc : cc < (wgL p ax inv r k).length) (w : World) (hT : Tab w) :
    Calls Tryd.prog 57 #[.int .u64 p, .agg #[.int .i64 ax[k].1, .bool ax[k].2], .bool inv, .int .i64 (cc : Int), .int .u64 (powS p r (inA (dimsA ax) k))] w fun e w' =>
      e = .returned (.tuple #[.int .u64 (wgF p ax inv r k cc), .int .i64 0]) ∧ Below w.heap.size w w' := by
  have h1 := chk7_at h hk
  obtain ⟨_, h2, h3⟩ := chk7_one h1
  have hga : ax.getD k (1, false) = ax[k] := by rw [List.getD_eq_getElem?_getD, List.getElem?_eq_getElem hk]; rfl
  have hgd : (dimsA ax).getD k 1 = ax[k].1 := by rw [dimsA_at ax hk 1, hga]
  rw [wgL_length, hgd] at hc
  have h4 := wgt_calls p ax[k].1 ax[k].2 inv (cc : Int) (powS p r (inA (dimsA ax) k)) w hp (hw _ (List.getElem_mem hk)) ⟨by omega, by omega⟩ (u64_powS _ _ _) hT
  rw [wgtS, if_pos h1, if_pos ⟨by omega, by dsimp only; omega⟩] at h4
  dsimp only at h4
  rw [Int.toNat_natCast] at h4
  rw [wgF, hga, hgd]
  exact h4
theorem coord_facts {p : Int} {ax : List (Int × Bool)} (inv : Bool) (r : Int) (h : Chk7 p ax) {m i : Nat} (hP : prodL (dimsA ax) = (m : Int)) (hi : i < m) : coordS (dimsA ax) i = (coordL (dimsA ax) i, 0) ∧ (coordL (dimsA ax) i).length = ax.length ∧
    ∀ k, k < ax.length → ∃ cc : Nat, (coordL (dimsA ax) i)[k]? = some (cc : Int) ∧ cc = (P.xv (dimsA ax) k i).toNat ∧ cc < (wgL p ax inv r k).length := by
  have hl : (coordL (dimsA ax) i).length = ax.length := by rw [coordL_length, dimsA_length]
  refine ⟨by rw [coordS, if_pos h.dims, if_pos ⟨by omega, by rw [hP]; omega⟩], hl, fun k hk => ?_⟩
  have hat := (h.at hk).1
  have hx := hat.xv (i : Int)
  obtain ⟨cc, hcc⟩ := Int.eq_ofNat_of_zero_le hx.1
  refine ⟨cc, ?_, by rw [hcc, Int.toNat_natCast], by rw [wgL_length]; omega⟩
  have h1 := coordL_at (dimsA ax) (i : Int) (k := k) (by rw [dimsA_length]; exact hk)
  rw [List.getD_eq_getElem?_getD, List.getElem?_eq_getElem (by omega)] at h1
  rw [List.getElem?_eq_getElem (by omega), ← hcc, xv_coord]
  exact congrArg some h1
theorem u64_wgF (p : Int) (ax : List (Int × Bool)) (inv : Bool) (r : Int) (k i : Nat) : U64 (wgF p ax inv r k i) := by unfold wgF wghV; split <;> exact u64_mulS _ _ _
set_option maxRecDepth 100000 in
set_option maxHeartbeats 4000000 in
theorem seedSums_walk (p : Int) (A : Option Addr) (ca : Nat) (ax : List (Int × Bool)) (inv : Bool) (B : Option Addr) (cb : Nat) (x : List Int) (r : Int) (w : World) (hp : U64 p)
    (hr : Row w A (axR ax)) (hla : ax.length * 16 ≤ 140737488351232) (hcap : ax.length ≤ ca) (hwa : ∀ a ∈ ax, (Lit.int .i64 a.1).wf = true)
    (hrx : Row w B (nums .u64 x)) (hlx : x.length * 8 ≤ 140737488351232) (hwx : ∀ d ∈ x, (Lit.int .u64 d).wf = true) (hur : U64 r) (hT : Tab w) :
    Calls Tryd.prog 17 #[.int .u64 p, .slice A ax.length ca, .bool inv, .slice B x.length cb, .int .u64 r] w fun e w' => e = .returned (.bool true) ∧ Below w.heap.size w w' := by
  have HP := Lib.hid hp
  have HR := Lib.hid hr
  have HRX := Lib.hid hrx
  have HUR := Lib.hid hur
  have HT := Lib.hid hT
  have HW : Hid (∀ a ∈ ax, i64 a.1) := Lib.hid fun a ha => i64_wf (hwa a ha)
  have HU : Hid (∀ d ∈ x, U64 d) := Lib.hid fun d hd => u64_wf (hwx d hd)
  clear hp hr hrx hT hwa hwx hur
  generalize hn : ax.length = n at *
  generalize hm : x.length = m at *
  have HN := Lib.hid hn
  have HM := Lib.hid hm
  have HL : Hid (n ≤ 8796093022208) := Lib.hid (by omega)
  have HLM : Hid (m ≤ 9223372036854775807) := Lib.hid (by omega)
  clear hn hm hla hcap
  go_enter Tryd.func17, Tryd.ntmps17
  go_wp2_with fail
  refine (live09_calls _ HT.out).mono ?_
  rintro e w1 ⟨rfl, hb1⟩
  have HB1 := Lib.hid hb1
  clear hb1
  go_wp2_with fail
  refine (few7_calls _ _ _ ax _ _ HN.out (HR.out.below HB1.out) HL.out HW.out).mono ?_
  rintro e w2 ⟨b, rfl, hb⟩
  have HB2 := Lib.hid (blT HB1.out hb)
  clear hb
  cases b
  case false =>
    go_wp2
    go_ret
    exact ⟨rfl, HB2.out⟩
  by_cases g0 : 30 < m
  · have f0 : decide (30 < (m : Int)) = true := by simp; omega
    clear g0
    go_wp2
    go_ret
    exact ⟨rfl, HB2.out⟩
  have f0 : decide (30 < (m : Int)) = false := by simp; omega
  by_cases hc : wrd7 p ax x = 0
  case neg =>
    have HE : Hid (grS p ax inv x = ([], wrd7 p ax x)) := Lib.hid (by rw [grS, if_neg hc])
    have HX : Hid (expS p ax inv x r = (0, wrd7 p ax x)) := Lib.hid (by rw [expS, if_neg hc])
    have t0 : (wrd7 p ax x != 0) = true := by simpa using hc
    have t1 : (wrd7 p ax x != wrd7 p ax x) = false := by simp
    have t2 : (wrd7 p ax x == wrd7 p ax x) = true := by simp
    clear hc
    generalize wrd7 p ax x = ww at *
    obtain ⟨ev, hev⟩ : ∃ ev, evalS p r [] = ev := ⟨_, rfl⟩
    have HEV := Lib.hid hev
    clear hev
    obtain ⟨ev1, ev2⟩ := ev
    go_wp2_with fail
    refine (exp_calls p _ _ _ ax inv _ _ _ x r _ HN.out HM.out HP.out (HR.out.below HB2.out) HL.out HW.out (HRX.out.below HB2.out) HLM.out HU.out HUR.out (HT.out.below HB2.out)).mono ?_
    rw [HX.out]
    rintro e w3 ⟨rfl, hb⟩
    have HB3 := Lib.hid (blT HB2.out hb)
    clear hb
    go_wp2_with fail
    refine (do7_calls p _ _ _ ax inv _ _ _ x _ HN.out HM.out HP.out (HR.out.below HB3.out) HL.out HW.out (HRX.out.below HB3.out) HLM.out HU.out (HT.out.below HB3.out)).mono ?_
    rw [HE.out]
    rintro e w4 ⟨Z4, z4, rfl, ho, hb⟩
    have HB4 := Lib.hid (blT HB3.out hb)
    have HRY4 : Hid (Row w4 Z4 (nums .u64 [])) := Lib.hid ho.row
    clear ho hb
    go_wp2_with fail
    refine (eval_n p r _ 0 _ [] _ rfl HP.out HUR.out HRY4.out (by decide) (by intro d hd; simp at hd)).mono ?_
    rw [HEV.out]
    rintro e w5 ⟨rfl, hb⟩
    have HB5 := Lib.hid (blT HB4.out hb)
    have HRY5 := Lib.hid (HRY4.out.below hb)
    clear hb HRY4
    go_wp2
    go_ret
    exact ⟨by first | rfl | (simp; done), HB5.out⟩
  obtain ⟨hC7, hPL, hIN⟩ := wrd7_ok hc
  have HE : Hid (grS p ax inv x = (grN p ax inv x ax.length, 0)) := Lib.hid (by rw [grS, if_pos hc])
  have HX : Hid (expS p ax inv x r = (expF p ax inv x r, 0)) := Lib.hid (by rw [expS, if_pos hc])
  have HYL : Hid ((grN p ax inv x ax.length).length = m) := Lib.hid (by rw [grN_length]; exact HM.out)
  have HYU := Lib.hid (grN_u64 p ax inv HU.out ax.length)
  have HEV : Hid (evalS p r (grN p ax inv x ax.length) = (expF p ax inv x r, 0)) := Lib.hid (by
    rw [evalS_ok hC7.known (by rw [HYL.out]; omega), expF_is hC7 inv hPL r])
  have HSE : Hid (smF p ax inv x r m = expF p ax inv x r) := Lib.hid (by unfold smF expF; rw [HM.out])
  have HC7 := Lib.hid hC7
  have HPL : Hid (prodL (dimsA ax) = (m : Int)) := Lib.hid (by rw [hPL, HM.out])
  have HDN : Hid ((dimsA ax).length = n) := Lib.hid (by rw [dimsA_length]; exact HN.out)
  have HDW := Lib.hid (dimsA_i64 HW.out)
  have hn1 : 1 ≤ n := by have h1 := hC7.dims.n1; rw [dimsA_length, HN.out] at h1; exact h1
  have hn4 : n ≤ 4 := by have h1 := hC7.dims.n4; rw [dimsA_length, HN.out] at h1; exact h1
  have HIS : Hid (∀ k : Nat, k < n → innerS (dimsA ax) k = (((inA (dimsA ax) k : Nat) : Int), 0) ∧ inA (dimsA ax) k ≤ 4096) := Lib.hid fun k hk => by
    refine ⟨?_, ?_⟩
    · have hI := (HC7.out.dims.pos.drop (k + 1)).prod
      rw [innerS, if_pos HC7.out.dims, if_pos ⟨by omega, by rw [HDN.out]; omega⟩, Int.toNat_natCast]
      unfold inA
      rw [Int.toNat_of_nonneg (by omega)]
    · have hI := HC7.out.dims.pos.drop_le (k + 1)
      have hI2 := HC7.out.dims.all
      unfold inA
      omega
  have HPC : Hid (∀ (I : Nat) (w : World), I ≤ 4096 → Calls Tryd.prog 66 #[.int .u64 p, .int .u64 r, .int .u64 (I : Int)] w fun e w' => e = .returned (.int .u64 (powS p r I)) ∧ Drawn0 w w') := Lib.hid fun I w hI => by
    have h1 := pow_calls p r (I : Int) w HP.out HUR.out ⟨by omega, by omega⟩
    rw [Int.toNat_natCast] at h1
    exact h1
  have HXS : Hid (∀ i, (hi : i < x.length) → prF p ax inv x r i 0 = x[i]) := Lib.hid fun i hi => by
    have h1 := in_at hIN HU.out hi
    have e : x.getD i 0 = x[i] := getD_at hi 0
    rw [e] at h1
    unfold prF
    rw [Pd, Int.mul_one, e, redS_small HC7.out.known h1.1 h1.2]
  have HSS : Hid (∀ i, addS p (smF p ax inv x r i) (prF p ax inv x r i n) = smF p ax inv x r (i + 1)) := Lib.hid fun i => by
    have h1 := smF_step p ax inv x r i
    rw [HN.out] at h1
    exact h1
  have hs0 : smF p ax inv x r 0 = 0 := by unfold smF; simp [S, redS_zero]
  have HS0 := Lib.hid hs0
  obtain ⟨aa, rfl⟩ := HR.out.some_of (by intro h0; have h1 := axR_length ax; rw [h0, HN.out] at h1; simp at h1; omega)
  clear hc hC7 hPL hIN hs0
  generalize grN p ax inv x ax.length = y at *
  have te : (expF p ax inv x r == expF p ax inv x r) = true := by simp
  generalize expF p ax inv x r = ex at *
  go_wp2_with fail
  refine (exp_calls p _ _ _ ax inv _ _ _ x r _ HN.out HM.out HP.out (HR.out.below HB2.out) HL.out HW.out (HRX.out.below HB2.out) HLM.out HU.out HUR.out (HT.out.below HB2.out)).mono ?_
  rw [HX.out]
  rintro e w3 ⟨rfl, hb⟩
  have HB3 := Lib.hid (blT HB2.out hb)
  clear hb
  go_wp2_with fail
  refine (do7_calls p _ _ _ ax inv _ _ _ x _ HN.out HM.out HP.out (HR.out.below HB3.out) HL.out HW.out (HRX.out.below HB3.out) HLM.out HU.out (HT.out.below HB3.out)).mono ?_
  rw [HE.out, show ((y, (0 : Int)).1).length = m from HYL.out]
  rintro e w4 ⟨Z4, z4, rfl, ho, hb⟩
  have HB4 := Lib.hid (blT HB3.out hb)
  have HRY4 : Hid (Row w4 Z4 (nums .u64 y)) := Lib.hid ho.row
  clear ho hb
  go_wp2_with fail
  refine (eval_n p r _ m _ y _ HYL.out HP.out HUR.out HRY4.out HLM.out HYU.out).mono ?_
  rw [HEV.out]
  rintro e w5 ⟨rfl, hb⟩
  have HB5 := Lib.hid (blT HB4.out hb)
  have HRY5 := Lib.hid (HRY4.out.below hb)
  clear hb HRY4
  go_wp2
  go_loopw [17, 78] (fun v q ws => ∃ i : Nat, i ≤ m ∧ q = .int .i64 i ∧ v = .int .u64 (smF p ax inv x r i) ∧ Hid (Below w.heap.size w ws)) (fun _ q _ => m - (intOf q).toNat)
  case atStart => exact ⟨0, Nat.zero_le _, rfl, by rw [HS0.out], HB5⟩
  case round =>
    obtain ⟨i, him, rfl, rfl, HBQ⟩ := hrel
    by_cases hit : i < m
    · have hix : i < x.length := by have := HM.out; omega
      obtain ⟨xa, rfl⟩ := HRX.out.some_of (by intro h0; have h1 := nums_length .u64 x; rw [h0] at h1; simp at h1; omega)
      have hcx := (HRX.out.below HBQ.out).num hix
      have HX0 := Lib.hid (HXS.out i hix)
      obtain ⟨hk1, hk3, hk2⟩ := coord_facts inv r HC7.out HPL.out hit
      have HK1 := Lib.hid hk1
      have HK2 := Lib.hid hk2
      have HCLL : Hid ((coordL (dimsA ax) i).length = n) := Lib.hid (hk3.trans HN.out)
      have HCL : Hid (((coordL (dimsA ax) i, (0 : Int)).1).length = n) := Lib.hid HCLL.out
      clear hk1 hk2 hk3
      generalize x[i] = xi at *
      go_wp2_with fail
      refine (dims7_calls _ _ _ _ _ HN.out (HR.out.below HBQ.out) HL.out).mono ?_
      rintro e w6 ⟨Dm, rfl, ho, hb⟩
      have HB6 := Lib.hid (blT HBQ.out hb)
      have HDM : Hid (Row w6 Dm (nums .i64 (dimsA ax))) := Lib.hid ho.row
      clear ho hb
      go_wp2_with fail
      refine (coord_n _ _ _ (dimsA ax) (i : Int) _ HDN.out HDM.out (by omega) HDW.out ⟨by omega, by omega⟩).mono ?_
      rw [HK1.out, HCL.out]
      rintro e w7 ⟨Cb, cb, rfl, ho, hb⟩
      have HB7 := Lib.hid (blT HB6.out hb)
      have HRC : Hid (Row w7 Cb (nums .i64 (coordL (dimsA ax) i))) := Lib.hid ho.row
      clear ho hb
      obtain ⟨cf, rfl⟩ := HRC.out.some_of (by intro h0; have h1 := nums_length .i64 (coordL (dimsA ax) i); rw [h0, HCLL.out] at h1; simp at h1; omega)
      have tn : ((n : Int) != (n : Int)) = false := by simp
      go_wp2
      go_hide hQ
      go_loopw [19, 101] (fun v q ws => ∃ k : Nat, k ≤ n ∧ q = .int .i64 k ∧ v = .int .u64 (prF p ax inv x r i k) ∧ Hid (Below w7.heap.size w7 ws)) (fun _ q _ => n - (intOf q).toNat)
      case atStart => exact ⟨0, Nat.zero_le _, rfl, by rw [HX0.out], Lib.hid (Below.refl _ _)⟩
      case round =>
        obtain ⟨k, hkn, rfl, rfl, HB8⟩ := hrel
        have HB9 := Lib.hid (blT HB7.out HB8.out)
        by_cases hkt : k < n
        · have hka : k < ax.length := by have := HN.out; omega
          obtain ⟨cc, hcc, hcv, hcl⟩ := HK2.out k hka
          obtain ⟨hkl, hkv⟩ := List.getElem?_eq_some_iff.1 hcc
          have hc0 := (HRC.out.below HB8.out).num hkl
          rw [hkv] at hc0
          have HPS : Hid (mulS p (prF p ax inv x r i k) (wgF p ax inv r k cc) = prF p ax inv x r i (k + 1)) := Lib.hid (by rw [hcv]; exact prF_step p ax inv x r i k)
          have HUW := Lib.hid (u64_wgF p ax inv r k cc)
          obtain ⟨hi1, hi2⟩ := HIS.out k hkt
          have HI1 := Lib.hid hi1
          have HWT := Lib.hid (fun (w : World) (hT : Tab w) => wgt_axis (inv := inv) (r := r) HC7.out HP.out HW.out hka hcl w hT)
          have HAX := Lib.hid (fun (w' : World) (hb : Below w.heap.size w w') => ax_cells (HR.out.below hb) hka)
          generalize wgF p ax inv r k cc = wg at *
          generalize ax[k] = ak at *
          obtain ⟨a0, a1⟩ := ak
          generalize inA (dimsA ax) k = I at *
          have hcI : IntKind.u64.wrap (I : Int) = (I : Int) := by rw [IntKind.wrap_u64]; omega
          clear hcc hcv hkl hcl hkv hi1
          go_wp2_with fail
          refine (dims7_calls _ _ _ _ _ HN.out (HR.out.below HB9.out) HL.out).mono ?_
          rintro e w10 ⟨Dn, rfl, ho, hb⟩
          have HB10 := Lib.hid (blT HB9.out hb)
          have HB10' := Lib.hid (blT HB8.out hb)
          have HDM2 : Hid (Row w10 Dn (nums .i64 (dimsA ax))) := Lib.hid ho.row
          clear ho hb hc0
          go_wp2_with fail
          refine (inner_n _ _ _ (dimsA ax) (k : Int) _ HDN.out HDM2.out (by omega) (Nat.le_refl _) HDW.out ⟨by omega, by omega⟩).mono ?_
          rw [HI1.out]
          rintro e w11 ⟨rfl, rfl⟩
          have hax := HAX.out _ HB10.out
          obtain ⟨hax0, hax1⟩ := hax
          have HT11 := Lib.hid (HT.out.below HB10.out)
          go_wp2
          go_region_held3 (fun w' => w'.cell? (aa.add (k * 2)) = some (.int .i64 a0) ∧ w'.cell? ⟨(aa.add (k * 2)).block, (aa.add (k * 2)).off + 1, none⟩ = some (.bool a1))
            (first | exact keep2s (by assumption) (by assumption) | go_keep)
            (first
              | (go_at_call 66; refine (HPC.out I _ hi2).mono ?_; rintro e w12 ⟨rfl, ⟨q12, rfl⟩⟩)
              | (go_at_call 57; refine (HWT.out _ (show Tab (World.drewN _ _) from HT11.out)).mono ?_; rintro e w13 ⟨rfl, hb13⟩))
          have HB13 : Hid (Below w7.heap.size w7 w13) := Lib.hid (blT (below_drewN HB10'.out _) hb13)
          clear hb13
          go_wp2_with fail
          refine (mul_calls p (prF p ax inv x r i k) wg _ HP.out (u64_redS _ _) HUW.out).mono ?_
          rw [HPS.out]
          rintro e w14 ⟨rfl, ⟨q14, rfl⟩⟩
          go_wp2
          go_roundw
          case rel => exact ⟨k + 1, by omega, by go_num, rfl, Lib.hid (below_drewN HB13.out q14)⟩
          case measure => simp [intOf]; omega
        · have hke : k = n := by omega
          have HSI : Hid (addS p (smF p ax inv x r i) (prF p ax inv x r i k) = smF p ax inv x r (i + 1)) := Lib.hid (by rw [hke]; exact HSS.out i)
          clear hke
          go_wp2
          subst hQ
          go_wp2_with fail
          refine (add_calls p (smF p ax inv x r i) (prF p ax inv x r i k) _ HP.out (u64_redS _ _) (u64_redS _ _)).mono ?_
          rw [HSI.out]
          rintro e w7 ⟨rfl, rfl⟩
          go_wp2
          go_roundw
          case rel => exact ⟨i + 1, by omega, by go_num, rfl, HB9⟩
          case measure => simp [intOf]; omega
    · have hie : i = m := by omega
      have HEE : Hid (smF p ax inv x r i = ex) := Lib.hid (by rw [hie]; exact HSE.out)
      clear hie
      rw [HEE.out]
      go_wp2
      go_ret
      exact ⟨by first | rfl | (simp; done), HBQ.out⟩
end Go.Proofs.YtnlmmgcjhedjkaaDoor.P
