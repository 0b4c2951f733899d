
/- The law PlanSteps, walked, and that chapter's example. Conditions: words of their kinds; the slice reads as a list of axes; the library's table lies as it was laid. -/
import Derived.Test.YtohcoidbncbijaaDoorPlA
import Derived.Test.YtohcoidbncbijaaDoorGrF
namespace Go.Proofs.YtohcoidbncbijaaDoor.P
open Go.RowKit
set_option linter.unusedVariables false
set_option linter.unusedSimpArgs false
theorem six_ok : chk7 2013265921 [(6, false)] = 0 := by
  have hr : (rootS 2013265921 6).2 = 0 := by
    unfold rootS
    rw [if_pos (by decide), if_pos (by decide)]
  have hs : smoothS 6 = true := by decide +kernel
  have hC : Chk7 2013265921 [(6, false)] := by
    refine ⟨by decide, by decide, ?_, ?_⟩
    · intro a ha; simp at ha; subst ha; exact hs
    · intro a ha; simp at ha; subst ha; exact hr
  exact hC.ok
theorem six_len : (stepsS 2013265921 [(6, false)] false).1.length = 2 ∧ (stepsS 2013265921 [(6, false)] false).2 = 0 ∧ (stepsS 2013265921 [(6, false)] true).1.length = 3 ∧ (stepsS 2013265921 [(6, false)] true).2 = 0 := by
  have h : ∀ inv, stepsS 2013265921 [(6, false)] inv = (stepsN [(6, false)] inv 1, 0) := fun inv => by rw [stepsS, if_pos six_ok]; rfl
  rw [h, h]
  exact ⟨by decide +kernel, rfl, by decide +kernel, rfl⟩
set_option maxRecDepth 100000 in
set_option maxHeartbeats 2000000 in
theorem live17_calls (w : World) (hT : Tab w) : Calls Tryd.prog 20 #[] w fun e w' => e = .returned (.bool true) ∧ Below w.heap.size w w' := by
  obtain ⟨h1, h2, h3, h4⟩ := six_len
  have H1 := Lib.hid h1
  have H2 := Lib.hid h2
  have H3 := Lib.hid h3
  have H4 := Lib.hid h4
  have HT := Lib.hid hT
  have HA : Hid (∀ a ∈ ([(6, false)] : List (Int × Bool)), i64 a.1) := Lib.hid (by decide)
  clear hT h1 h2 h3 h4
  go_enter Tryd.func20, Tryd.ntmps20
  go_wp2_with fail
  have HB0 : Hid (Below w.heap.size w (w.alloc (.cells #[.int .i64 6, .bool false] 32))) := Lib.hid ((Below.refl _ _).alloc (Nat.le_refl _) _)
  refine (psteps_calls 2013265921 _ _ 1 [(6, false)] false _ rfl (by decide) (row_new w [.int .i64 6, .bool false] 32) (by decide) HA.out (HT.out.below HB0.out)).mono ?_
  rw [H1.out, H2.out]
  rintro e w2 ⟨B, b, rfl, ho, hb⟩
  have HB2 := Lib.hid (blT HB0.out hb)
  clear ho hb
  go_wp2_with fail
  have HB3 : Hid (Below w.heap.size w (w2.alloc (.cells #[.int .i64 6, .bool false] 32))) := Lib.hid (HB2.out.alloc HB2.out.size _)
  refine (psteps_calls 2013265921 _ _ 1 [(6, false)] true _ rfl (by decide) (row_new w2 [.int .i64 6, .bool false] 32) (by decide) HA.out (HT.out.below HB3.out)).mono ?_
  rw [H3.out, H4.out]
  rintro e w4 ⟨C, c, rfl, ho, hb⟩
  have HB4 := Lib.hid (blT HB3.out hb)
  clear ho hb
  go_wp2
  go_ret
  exact ⟨by first | rfl | (simp; done), HB4.out⟩
theorem few_sum {b0 cS cT L : Nat} (h1 : b0 ≤ L) (h2 : L ≤ 56) (h3 : cS ≤ 56) (h4 : cT ≤ 56) : b0 + cS + cT ≤ 1000 := by omega
theorem few_succ {b0 cS cT v : Nat} (h : b0 + cS + cT = v) : b0 + (cS + 1) + cT = v + 1 ∧ b0 + cS + (cT + 1) = v + 1 := by omega
theorem wrap_succ {c : Nat} (h : c ≤ 1000) : IntKind.i64.wrap ((c : Int) + 1) = (c : Int) + 1 ∧ wrap64 ((c : Int) + 1) = (c : Int) + 1 := ⟨wrapI (by omega) (by omega), wrap64_id ⟨by omega, by omega⟩⟩
set_option maxRecDepth 100000 in
set_option maxHeartbeats 4000000 in
theorem planSteps_walk (p : Int) (A : Option Addr) (ca : Nat) (ax : List (Int × Bool)) (inv : Bool) (w : World) (hp : U64 p)
    (hr : Row w A (axR ax)) (hla : ax.length * 16 ≤ 140737488351232) (hcap : ax.length ≤ ca) (hwa : ∀ a ∈ ax, (Lit.int .i64 a.1).wf = true) (hT : Tab w) :
    Calls Tryd.prog 3 #[.int .u64 p, .slice A ax.length ca, .bool inv] w fun e w' => e = .returned (.bool true) ∧ Below w.heap.size w w' := by
  have HP := Lib.hid hp
  have HR := Lib.hid hr
  have HT := Lib.hid hT
  have HW : Hid (∀ a ∈ ax, i64 a.1) := Lib.hid fun a ha => i64_wf (hwa a ha)
  clear hp hr hT hwa
  generalize hn : ax.length = n at *
  have HN := Lib.hid hn
  have HL : Hid (n ≤ 8796093022208) := Lib.hid (by omega)
  clear hn hla hcap
  go_enter Tryd.func3, Tryd.ntmps3
  go_wp2_with fail
  refine (live17_calls _ HT.out).mono ?_
  rintro e w1 ⟨rfl, hb1⟩
  have HB1 := Lib.hid hb1
  clear hb1
  go_wp2_with fail
  refine (few7_calls _ _ _ ax _ _ HN.out (HR.out.below HB1.out) HL.out HW.out).mono ?_
  rintro e w2 ⟨r, rfl, hb⟩
  have HB2 := Lib.hid (blT HB1.out hb)
  clear hb HB1
  cases r
  case false =>
    go_wp2
    go_ret
    exact ⟨rfl, HB2.out⟩
  by_cases hc : chk7 p ax = 0
  case neg =>
    have HF : Hid (stepsS p ax inv = ([], chk7 p ax)) := Lib.hid (by rw [stepsS, if_neg hc])
    have t0 : (chk7 p ax != 0) = true := by simpa using hc
    clear hc
    go_wp2_with fail
    refine (psteps_calls p _ _ _ ax inv _ HN.out HP.out (HR.out.below HB2.out) HL.out HW.out (HT.out.below HB2.out)).mono ?_
    rw [HF.out]
    rintro e w3 ⟨B, b, rfl, ho, hb⟩
    have HB3 := Lib.hid (blT HB2.out hb)
    clear ho hb
    dsimp only
    go_wp2_with fail
    refine (chk7_calls _ _ _ _ _ _ HN.out HP.out (HR.out.below HB3.out) HL.out HW.out (HT.out.below HB3.out)).mono ?_
    rintro e w4 ⟨rfl, hb⟩
    have HB4 := Lib.hid (blT HB3.out hb)
    clear hb
    go_wp2
    go_ret
    exact ⟨by first | rfl | (simp; done), HB4.out⟩
  have hk7 := chk7_ok hc
  have hn4 : n ≤ 4 := by have h1 := hk7.dims.n4; rw [dimsA_length, HN.out] at h1; exact h1
  obtain ⟨l, hl⟩ : ∃ l, l = stepsN ax inv n := ⟨_, rfl⟩
  have HF : Hid (stepsS p ax inv = (l, 0)) := Lib.hid (by rw [stepsS, if_pos hc, HN.out, hl])
  have hln : l.length ≤ 56 := by rw [hl]; exact Nat.le_trans (stepsN_len hk7.smooth inv n (by rw [HN.out]; exact Nat.le_refl _)) (by omega)
  have HSG : Hid (∀ k (h : k < ax.length), (stgS (ax[k]).1).2 = 0 ∧ (stgS (ax[k]).1).1.length ≤ 12) := Lib.hid fun k h => smooth_stg (hk7.smooth _ (List.getElem_mem h))
  have HAS : Hid (∀ k, k < n → ∀ i (h : i < l.length), (l[i]).1 = (k : Int) → (l[i]).2.1 = false → (stgS (ax.getD k (1, false)).1).1[ctF (isS k) l i]? = some (l[i]).2.2) := Lib.hid (by subst hl; exact fun k hk i h h1 h2 => steps_at_S ax inv hk h h1 h2)
  have HAT : Hid (∀ k, k < n → ∀ i (h : i < l.length), (l[i]).1 = (k : Int) → (l[i]).2.1 = true → (l[i]).2.2 = (0, 0, 0)) := Lib.hid (by subst hl; exact fun k hk i h h1 h2 => steps_at_T ax inv hk h h1 h2)
  have HES : Hid (∀ k, k < n → ctF (isS k) l l.length = (stgS (ax.getD k (1, false)).1).1.length) := Lib.hid (by subst hl; exact fun k hk => steps_S_all ax inv hk)
  have HET : Hid (∀ k, k < n → ctF (isT k) l l.length = if inv || (ax.getD k (1, false)).2 then 1 else 0) := Lib.hid (by subst hl; exact fun k hk => steps_T_all ax inv hk)
  have HZ0 : Hid ((l.filter (isB 0)).length = 0) := Lib.hid (by rw [hl]; exact steps_B_zero ax inv n)
  have HZN : Hid ((l.filter (isB n)).length = l.length) := Lib.hid (by rw [hl]; exact steps_B_all ax inv n)
  clear hc hk7 hl
  go_wp2_with fail
  refine (psteps_calls p _ _ _ ax inv _ HN.out HP.out (HR.out.below HB2.out) HL.out HW.out (HT.out.below HB2.out)).mono ?_
  rw [HF.out]
  dsimp only
  rintro e w3 ⟨B, b, rfl, ho, hb⟩
  have HB3 := Lib.hid (blT HB2.out hb)
  have HRL := Lib.hid ho.row
  clear ho hb HF
  obtain ⟨L, hll⟩ : ∃ L, l.length = L := ⟨_, rfl⟩
  rw [hll] at hln HZN HES HET
  rw [hll]
  have HLL := Lib.hid hll
  clear hll
  have HFB : Hid (∀ k, (l.filter (isB (k + 1))).length = (l.filter (isB k)).length + ctF (isS k) l L + ctF (isT k) l L) := Lib.hid fun k => by
    rw [filt_B, ← HLL.out, ctF_all, ctF_all]
  have HBL : Hid (∀ k, (l.filter (isB k)).length ≤ L) := Lib.hid fun k => by rw [← HLL.out]; exact List.length_filter_le _ _
  go_wp2
  go_loopw [9, 44] (fun v q wr => ∃ k : Nat, k ≤ n ∧ q = .int .i64 k ∧ v = .int .i64 (((l.filter (isB k)).length : Nat) : Int) ∧ Hid (Below w3.heap.size w3 wr)) (fun _ q _ => n - (intOf q).toNat)
  case atStart => exact ⟨0, Nat.zero_le _, rfl, by rw [HZ0.out]; rfl, Lib.hid (Below.refl _ _)⟩
  case round =>
    obtain ⟨k, hk, rfl, rfl, HBR⟩ := hrel
    by_cases hlt : k < n
    · have hka : k < ax.length := by have := HN.out; omega
      obtain ⟨xa, rfl⟩ := HR.out.some_of (by intro h0; have h1 := axR_length ax; rw [h0] at h1; simp at h1; omega)
      obtain ⟨hc0, hc1⟩ := ax_cells (HR.out.below (blT HB3.out HBR.out)) hka
      obtain ⟨hg1, hg2⟩ := HSG.out k hka
      have HI := Lib.hid (HW.out _ (List.getElem_mem hka))
      have hge : ax.getD k (1, false) = ax[k] := by rw [List.getD_eq_getElem?_getD, List.getElem?_eq_getElem hka]; rfl
      have has' := HAS.out k hlt
      have hat' := HAT.out k hlt
      have hes := HES.out k hlt
      have het := HET.out k hlt
      rw [hge] at has' hes het
      generalize ax[k] = a at *
      obtain ⟨a0, neg⟩ := a
      dsimp only at hc0 hc1 hg1 hg2 HI has' hes het
      obtain ⟨st, hst⟩ : ∃ st, st = (stgS a0).1 := ⟨_, rfl⟩
      have HSS : Hid (stgS a0 = (st, 0)) := Lib.hid (Prod.ext hst.symm hg1)
      rw [← hst] at hg2 has' hes
      have HAS2 := Lib.hid has'
      have HAT2 := Lib.hid hat'
      have HES2 := Lib.hid hes
      have HET2 := Lib.hid het
      have hb0l := HBL.out k
      have HFK := Lib.hid (HFB.out k)
      generalize (l.filter (isB k)).length = b0 at *
      have HBV : Hid (Below w3.heap.size w3 (wr.alloc (.cells #[.int .i64 a0, .bool neg] 32))) := Lib.hid (HBR.out.alloc HBR.out.size _)
      have HCB : Hid ((wr.alloc (.cells #[.int .i64 a0, .bool neg] 32)).cell? ⟨wr.heap.size, 1, none⟩ = some (.bool neg)) := Lib.hid (World.news_of_block (cs := #[.int .i64 a0, .bool neg]) (t := 32) (fr := (0, 0)) (heap_alloc_new wr _) 1 _ rfl)
      clear hg1 hst hge has' hat' hes het
      go_wp2_with fail
      refine (stages_calls a0 _ HI.out (HT.out.below (blT HB3.out HBV.out))).mono ?_
      rw [HSS.out]
      dsimp only
      rintro e w5 ⟨C, c, rfl, ho, hb⟩
      have HB5 := Lib.hid (blT HBV.out hb)
      have HST := Lib.hid ho.row
      have hk1 : w5.cell? ⟨wr.heap.size, 1, none⟩ = some (.bool neg) := (hb.cell (by simp)).trans HCB.out
      have HK1 := Lib.hid hk1
      have HSZ5 : Hid (wr.heap.size < w5.heap.size) := Lib.hid (by have h1 := hb.size; simp at h1; omega)
      have HRL5 := Lib.hid (HRL.out.below HB5.out)
      have HKX : Hid (∀ ws, Below w5.heap.size w5 ws → ws.cell? ⟨wr.heap.size, 1, none⟩ = some (.bool neg)) := Lib.hid fun ws h => (h.cell (p := ⟨wr.heap.size, 1, none⟩) HSZ5.out).trans HK1.out
      clear ho hb hk1 hc0 hc1
      generalize hsl : st.length = m at *
      have HSL := Lib.hid hsl
      clear hsl
      go_wp2
      go_hide hQ
      go_loopw [9, 14, 15, 59] (fun v at' tw q ws => ∃ i : Nat, i ≤ L ∧ q = .int .i64 i ∧ at' = .int .i64 ((ctF (isS k) l i : Nat) : Int) ∧ tw = .int .i64 ((ctF (isT k) l i : Nat) : Int) ∧ v = .int .i64 ((b0 + ctF (isS k) l i + ctF (isT k) l i : Nat) : Int) ∧ Hid (Below w5.heap.size w5 ws)) (fun _ _ _ q _ => L - (intOf q).toNat)
      case atStart => exact ⟨0, Nat.zero_le _, rfl, rfl, rfl, rfl, Lib.hid (Below.refl _ _)⟩
      case round =>
        obtain ⟨i, hi, rfl, rfl, rfl, rfl, HBI⟩ := hrel
        by_cases hit : i < L
        · have hil : i < l.length := by have := HLL.out; omega
          obtain ⟨la, rfl⟩ := HRL5.out.some_of (by intro h0; have h1 := spR_length l; rw [h0] at h1; simp at h1; omega)
          obtain ⟨hs0, hs1, hs2, hs3, hs4⟩ := sp_cells (HRL5.out.below HBI.out) hil
          have hS := ctF_step (isS k) l hil
          have hTw := ctF_step (isT k) l hil
          have hfs := HAS2.out i hil
          have hft := HAT2.out i hil
          have hcS : ctF (isS k) l i ≤ 56 := Nat.le_trans (ctF_le _ _ _) (Nat.le_trans (List.length_filter_le _ _) (by have := HLL.out; omega))
          have hcT : ctF (isT k) l i ≤ 56 := Nat.le_trans (ctF_le _ _ _) (Nat.le_trans (List.length_filter_le _ _) (by have := HLL.out; omega))
          generalize l[i] = s at *
          obtain ⟨s0, s1, s2, s3, s4⟩ := s
          dsimp only at hs0 hs1 hs2 hs3 hs4 hfs hft
          generalize ctF (isS k) l i = cS at *
          generalize ctF (isT k) l i = cT at *
          have HBA : Hid (Below w5.heap.size w5 (wr.alloc (.cells #[.int .i64 s0, .bool s1, .int .i64 s2, .int .i64 s3, .int .i64 s4] 39))) := Lib.hid (HBI.out.alloc HBI.out.size _)
          by_cases hax : s0 = (k : Int)
          case neg =>
            have e1 : isS k (s0, s1, s2, s3, s4) = false := by simp [isS, hax]
            have e2 : isT k (s0, s1, s2, s3, s4) = false := by simp [isT, hax]
            rw [e1] at hS
            rw [e2] at hTw
            have f1 : (s0 != (k : Int)) = true := by simpa using hax
            have HS2 : Hid (ctF (isS k) l (i + 1) = cS) := Lib.hid (by simpa using hS)
            have HT2 : Hid (ctF (isT k) l (i + 1) = cT) := Lib.hid (by simpa using hTw)
            clear e1 e2 hS hTw hfs hft hax hcS hcT
            go_wp2
            go_roundw
            case rel => exact ⟨i + 1, by omega, by go_num, by rw [HS2.out], by rw [HT2.out], by rw [HS2.out, HT2.out], HBA⟩
            case measure => simp [intOf]; omega
          subst hax
          have f1 : ((k : Int) != (k : Int)) = false := by simp
          cases s1
          · have e1 : isS k ((k : Int), false, s2, s3, s4) = true := by simp [isS]
            have e2 : isT k ((k : Int), false, s2, s3, s4) = false := by simp [isT]
            rw [e1] at hS
            rw [e2] at hTw
            have hfs2 := hfs rfl rfl
            obtain ⟨hcm, hcv⟩ := List.getElem?_eq_some_iff.1 hfs2
            have HS2 : Hid (ctF (isS k) l (i + 1) = cS + 1) := Lib.hid (by simpa using hS)
            have HT2 : Hid (ctF (isT k) l (i + 1) = cT) := Lib.hid (by simpa using hTw)
            have hcm2 : cS < m := by have := HSL.out; omega
            have HRC := Lib.hid (HST.out.below HBA.out)
            obtain ⟨ga, rfl⟩ := HRC.out.some_of (by intro h0; have h1 := stR3_length st; rw [h0] at h1; simp at h1; omega)
            obtain ⟨hd0, hd1, hd2⟩ := stg_cells HRC.out hcm
            rw [hcv] at hd0 hd1 hd2
            dsimp only at hd0 hd1 hd2
            have f2 : decide ((m : Int) ≤ (cS : Int)) = false := by simp; omega
            have f3 : decide (m ≤ cS) = false := by simp; omega
            obtain ⟨o1, o2⟩ := wrap_succ (Nat.le_trans hcS (by decide))
            have hbb : b0 + cS + cT ≤ 1000 := few_sum hb0l hln hcS hcT
            generalize hv : b0 + cS + cT = v0 at *
            obtain ⟨o3, o4⟩ := wrap_succ hbb
            clear hbb
            have HV := Lib.hid hv
            have HK6 : Hid ((wr.alloc (.cells #[.int .i64 (k : Int), .bool false, .int .i64 s2, .int .i64 s3, .int .i64 s4] 39)).cell? ⟨wr.heap.size, 2, none⟩ = some (.int .i64 s2) ∧ (wr.alloc (.cells #[.int .i64 (k : Int), .bool false, .int .i64 s2, .int .i64 s3, .int .i64 s4] 39)).cell? ⟨wr.heap.size, 3, none⟩ = some (.int .i64 s3) ∧ (wr.alloc (.cells #[.int .i64 (k : Int), .bool false, .int .i64 s2, .int .i64 s3, .int .i64 s4] 39)).cell? ⟨wr.heap.size, 4, none⟩ = some (.int .i64 s4) ∧ (wr.alloc (.cells #[.int .i64 (k : Int), .bool false, .int .i64 s2, .int .i64 s3, .int .i64 s4] 39)).cell? (ga.add (cS * 3)) = some (.int .i64 s2) ∧ (wr.alloc (.cells #[.int .i64 (k : Int), .bool false, .int .i64 s2, .int .i64 s3, .int .i64 s4] 39)).cell? ⟨(ga.add (cS * 3)).block, (ga.add (cS * 3)).off + 1, none⟩ = some (.int .i64 s3) ∧ (wr.alloc (.cells #[.int .i64 (k : Int), .bool false, .int .i64 s2, .int .i64 s3, .int .i64 s4] 39)).cell? ⟨(ga.add (cS * 3)).block, (ga.add (cS * 3)).off + 2, none⟩ = some (.int .i64 s4)) := Lib.hid ⟨World.news_of_block (cs := #[.int .i64 (k : Int), .bool false, .int .i64 s2, .int .i64 s3, .int .i64 s4]) (t := 39) (fr := (0, 0)) (heap_alloc_new wr _) 2 _ rfl, World.news_of_block (cs := #[.int .i64 (k : Int), .bool false, .int .i64 s2, .int .i64 s3, .int .i64 s4]) (t := 39) (fr := (0, 0)) (heap_alloc_new wr _) 3 _ rfl, World.news_of_block (cs := #[.int .i64 (k : Int), .bool false, .int .i64 s2, .int .i64 s3, .int .i64 s4]) (t := 39) (fr := (0, 0)) (heap_alloc_new wr _) 4 _ rfl, hd0, hd1, hd2⟩
            clear e1 e2 hS hTw hfs hft hfs2 hcv hcS hcT hv
            go_wp2
            go_region_held3 (fun w' => w'.cell? ⟨wr.heap.size, 2, none⟩ = some (.int .i64 s2) ∧ w'.cell? ⟨wr.heap.size, 3, none⟩ = some (.int .i64 s3) ∧ w'.cell? ⟨wr.heap.size, 4, none⟩ = some (.int .i64 s4) ∧ w'.cell? (ga.add (cS * 3)) = some (.int .i64 s2) ∧ w'.cell? ⟨(ga.add (cS * 3)).block, (ga.add (cS * 3)).off + 1, none⟩ = some (.int .i64 s3) ∧ w'.cell? ⟨(ga.add (cS * 3)).block, (ga.add (cS * 3)).off + 2, none⟩ = some (.int .i64 s4)) (first | exact HK6.out | go_keep) (fail)
            go_wp2
            go_roundw
            case rel => exact ⟨i + 1, by omega, by go_num, by rw [HS2.out]; push_cast; rfl, by rw [HT2.out], by rw [HS2.out, HT2.out, (few_succ HV.out).1]; push_cast; rfl, Lib.hid (below_drewN HBA.out 1)⟩
            case measure => simp [intOf]; omega
          · have e1 : isS k ((k : Int), true, s2, s3, s4) = false := by simp [isS]
            have e2 : isT k ((k : Int), true, s2, s3, s4) = true := by simp [isT]
            rw [e1] at hS
            rw [e2] at hTw
            have hft2 := hft rfl rfl
            simp only [Prod.mk.injEq] at hft2
            obtain ⟨rfl, rfl, rfl⟩ := hft2
            have HS2 : Hid (ctF (isS k) l (i + 1) = cS) := Lib.hid (by simpa using hS)
            have HT2 : Hid (ctF (isT k) l (i + 1) = cT + 1) := Lib.hid (by simpa using hTw)
            obtain ⟨o1, o2⟩ := wrap_succ (Nat.le_trans hcT (by decide))
            have hbb : b0 + cS + cT ≤ 1000 := few_sum hb0l hln hcS hcT
            generalize hv : b0 + cS + cT = v0 at *
            obtain ⟨o3, o4⟩ := wrap_succ hbb
            clear hbb
            have HV := Lib.hid hv
            clear e1 e2 hS hTw hfs hft hcS hcT hv
            go_wp2
            go_roundw
            case rel => exact ⟨i + 1, by omega, by go_num, by rw [HS2.out], by rw [HT2.out]; push_cast; rfl, by rw [HS2.out, HT2.out, (few_succ HV.out).2]; push_cast; rfl, HBA⟩
            case measure => simp [intOf]; omega
        · have hie : i = L := by omega
          subst hie
          have hS : ctF (isS k) l i = m := HES2.out
          have hTw : ctF (isT k) l i = if inv || neg then 1 else 0 := HET2.out
          have hk1 := HKX.out _ HBI.out
          have HBE := Lib.hid (blT HB5.out HBI.out)
          rw [← HFK.out, hS]
          generalize hb1 : (l.filter (isB (k + 1))).length = b1 at *
          have HB1L := Lib.hid hb1
          clear hb1 hS hit
          cases inv <;> cases neg
          case' false.false => have hT2 : ctF (isT k) l i = 0 := by simpa using hTw
          case' false.true => have hT2 : ctF (isT k) l i = 1 := by simpa using hTw
          case' true.false => have hT2 : ctF (isT k) l i = 1 := by simpa using hTw
          case' true.true => have hT2 : ctF (isT k) l i = 1 := by simpa using hTw
          all_goals
            rw [hT2]
            clear hT2 hTw
            go_wp2
            subst hQ
            go_wp2
            go_roundw
            case rel => exact ⟨k + 1, by omega, by go_num, by rw [HB1L.out], HBE⟩
            case measure => simp [intOf]; omega
    · have hke : k = n := by omega
      subst hke
      rw [HZN.out]
      have HBE := Lib.hid (blT HB3.out HBR.out)
      clear hlt
      go_wp2
      go_ret
      exact ⟨by first | rfl | (simp; done), HBE.out⟩
end Go.Proofs.YtohcoidbncbijaaDoor.P
