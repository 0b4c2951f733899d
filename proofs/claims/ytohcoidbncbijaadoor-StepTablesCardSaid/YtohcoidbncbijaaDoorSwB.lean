
/- The law StepTables, walked. Conditions: words of their kinds; slices read as lists; the library's table lies as it was laid. -/
import Derived.Test.YtohcoidbncbijaaDoorStL
import Derived.Test.YtohcoidbncbijaaDoorStU
import Derived.Test.YtohcoidbncbijaaDoorGrF
import Derived.Test.YtohcoidbncbijaaDoorRound3
namespace Go.Proofs.YtohcoidbncbijaaDoor.P
open Go.RowKit
set_option linter.unusedVariables false
set_option linter.unusedSimpArgs false
set_option maxRecDepth 100000 in
set_option maxHeartbeats 500000 in
theorem stepTables_walk (p : Int) (A : Option Addr) (ca : Nat) (ax : List (Int × Bool)) (s : Stp) (w : World) (hp : U64 p) (hr : Row w A (axR ax)) (hla : ax.length * 16 ≤ 140737488351232) (hcap : ax.length ≤ ca) (hwa : ∀ a ∈ ax, (Lit.int .i64 a.1).wf = true) (hs0 : i64 s.1) (hs2 : i64 s.2.2.1) (hs3 : i64 s.2.2.2.1) (hs4 : i64 s.2.2.2.2) (hT : Tab w) :
    Calls Tryd.prog 10 #[.int .u64 p, .slice A ax.length ca, .agg #[.int .i64 s.1, .bool s.2.1, .int .i64 s.2.2.1, .int .i64 s.2.2.2.1, .int .i64 s.2.2.2.2]] w fun e w' => e = .returned (.bool true) ∧ Below w.heap.size w w' := by
  obtain ⟨s0, s1, s2, s3, s4⟩ := s
  dsimp only at *
  have HP := Lib.hid hp
  have HR := Lib.hid hr
  have HT := Lib.hid hT
  have HW : Hid (∀ a ∈ ax, i64 a.1) := Lib.hid fun a ha => i64_wf (hwa a ha)
  clear hp hr hT hwa
  generalize hn : ax.length = n at *
  have HN := Lib.hid hn
  have HL : Hid (n ≤ 8796093022208) := Lib.hid (by omega)
  clear hn hla hcap
  have hbA : Below w.heap.size w (w.alloc (.cells #[.int .i64 s0, .bool s1, .int .i64 s2, .int .i64 s3, .int .i64 s4] 39)) := (Below.refl _ _).alloc (Nat.le_refl _) _
  have HBX : Hid (Row (w.alloc (.cells #[.int .i64 s0, .bool s1, .int .i64 s2, .int .i64 s3, .int .i64 s4] 39)) (some ⟨w.heap.size, 0, none⟩) [.int .i64 s0, .bool s1, .int .i64 s2, .int .i64 s3, .int .i64 s4]) := Lib.hid (row_new w [.int .i64 s0, .bool s1, .int .i64 s2, .int .i64 s3, .int .i64 s4] _)
  have HBA := Lib.hid hbA
  have HTA := Lib.hid (HT.out.below hbA)
  clear hbA
  go_enter Tryd.func10, Tryd.ntmps10
  go_wp2_with fail
  generalize (w.alloc (.cells #[.int .i64 s0, .bool s1, .int .i64 s2, .int .i64 s3, .int .i64 s4] 39)) = V at *
  refine (live16_calls V HTA.out).mono ?_
  rintro e w1 ⟨rfl, hb1⟩
  have HB1 := Lib.hid (blT HBA.out hb1)
  have HBX1 := Lib.hid (HBX.out.below hb1)
  clear hb1 HBX HBA HTA
  go_wp2_with fail
  refine (few7_calls _ _ _ ax _ _ HN.out (HR.out.below HB1.out) HL.out HW.out).mono ?_
  rintro e w2 ⟨r, rfl, hb⟩
  have HB2 := Lib.hid (blT HB1.out hb)
  have HBX2 := Lib.hid (HBX1.out.below hb)
  clear hb HB1 HBX1
  cases r
  case false =>
    go_wp2
    go_ret
    exact ⟨rfl, HB2.out⟩
  have b0 : w2.cell? ⟨w.heap.size, 0, none⟩ = some (.int .i64 s0) := HBX2.out.cell (i := 0) rfl
  have b1 : w2.cell? ⟨w.heap.size, 1, none⟩ = some (.bool s1) := HBX2.out.cell (i := 1) rfl
  have b2 : w2.cell? ⟨w.heap.size, 2, none⟩ = some (.int .i64 s2) := HBX2.out.cell (i := 2) rfl
  have b3 : w2.cell? ⟨w.heap.size, 3, none⟩ = some (.int .i64 s3) := HBX2.out.cell (i := 3) rfl
  have b4 : w2.cell? ⟨w.heap.size, 4, none⟩ = some (.int .i64 s4) := HBX2.out.cell (i := 4) rfl
  by_cases hc : chk16 p ax (s0, s1, s2, s3, s4) = 0
  case neg =>
    have HF : Hid (∀ inv, tabS p ax inv (s0, s1, s2, s3, s4) = ([], chk16 p ax (s0, s1, s2, s3, s4))) := Lib.hid fun inv => by rw [tabS, if_neg hc]
    have t0 : (chk16 p ax (s0, s1, s2, s3, s4) != 0) = true := by simpa using hc
    clear hc
    go_wp2_with fail
    refine (stab_calls p A _ n ax false s0 s1 s2 s3 s4 w2 HN.out HP.out (HR.out.below HB2.out) HL.out HW.out (HT.out.below HB2.out)).mono ?_
    rw [HF.out]
    rintro e w3 ⟨B, b, rfl, ho, hb⟩
    have HB3 := Lib.hid (blT HB2.out hb)
    have HBX3 := Lib.hid (HBX2.out.below hb)
    clear ho hb b0 b1 b2 b3 b4
    dsimp only
    have b0 : w3.cell? ⟨w.heap.size, 0, none⟩ = some (.int .i64 s0) := HBX3.out.cell (i := 0) rfl
    have b1 : w3.cell? ⟨w.heap.size, 1, none⟩ = some (.bool s1) := HBX3.out.cell (i := 1) rfl
    have b2 : w3.cell? ⟨w.heap.size, 2, none⟩ = some (.int .i64 s2) := HBX3.out.cell (i := 2) rfl
    have b3 : w3.cell? ⟨w.heap.size, 3, none⟩ = some (.int .i64 s3) := HBX3.out.cell (i := 3) rfl
    have b4 : w3.cell? ⟨w.heap.size, 4, none⟩ = some (.int .i64 s4) := HBX3.out.cell (i := 4) rfl
    go_wp2_with fail
    refine (stab_calls p A _ n ax true s0 s1 s2 s3 s4 w3 HN.out HP.out (HR.out.below HB3.out) HL.out HW.out (HT.out.below HB3.out)).mono ?_
    rw [HF.out]
    rintro e w4 ⟨C, c, rfl, ho, hb⟩
    have HB4 := Lib.hid (blT HB3.out hb)
    clear ho hb b0 b1 b2 b3 b4
    dsimp only
    go_wp2
    go_ret
    exact ⟨by first | rfl | (simp; done), HB4.out⟩
  obtain ⟨k, N, neg, hK⟩ := chk16_ok hc
  have hsk := hK.axis
  dsimp only at hsk
  subst hsk
  have HF : Hid (∀ inv, tabS p ax inv ((k : Int), s1, s2, s3, s4) = (tabL p N neg inv ((k : Int), s1, s2, s3, s4), 0)) := Lib.hid fun inv => by
    rw [tabS, if_pos hc]
    dsimp only
    rw [Int.toNat_natCast, hK.get, hK.dim, Int.toNat_natCast]
  have HUN : Hid (∀ i, i < (tabL p N neg false ((k : Int), s1, s2, s3, s4)).length → mulS p (mulS p ((tabL p N neg false ((k : Int), s1, s2, s3, s4)).getD i 0) ((tabL p N neg true ((k : Int), s1, s2, s3, s4)).getD i 0)) (undoN N s1) = 1) := Lib.hid fun i hi => tab_undo hK hi
  have hlE := tab_len_eq p N neg ((k : Int), s1, s2, s3, s4)
  have hlN := tabL_len hK false
  have HUA := Lib.hid (tabL_u64 p N neg false ((k : Int), s1, s2, s3, s4))
  have HUB := Lib.hid (tabL_u64 p N neg true ((k : Int), s1, s2, s3, s4))
  have hka := hK.lt
  have hkn : k < n := by have := HN.out; omega
  have hN1 := hK.c6.n1
  have hN4 := hK.c6.n2
  have hge : ax[k] = ((N : Int), neg) := by
    have h1 := hK.get
    rw [List.getD_eq_getElem?_getD, List.getElem?_eq_getElem hka] at h1
    exact h1
  obtain ⟨xa, rfl⟩ := HR.out.some_of (by intro h0; have h1 := axR_length ax; rw [h0] at h1; simp at h1; omega)
  have HAC : Hid (∀ ws, Row ws (some xa) (axR ax) → ws.cell? (xa.add (k * 2)) = some (.int .i64 (N : Int)) ∧ ws.cell? ⟨(xa.add (k * 2)).block, (xa.add (k * 2)).off + 1, none⟩ = some (.bool neg)) := Lib.hid fun ws h => by
    have h1 := ax_cells h hka
    rw [hge] at h1
    exact h1
  have g1 : decide ((k : Int) < 0) = false := by simp
  have g2 : decide ((n : Int) ≤ (k : Int)) = false := by simp; omega
  have g3 : decide (n ≤ k) = false := by simp; omega
  have hkind := hK.kind
  have hmx : Tryd.prog.follows .mixedOrders = true := by kernel_rfl
  have HMX := Lib.hid hmx
  clear hmx
  have hsm := hK.c6.smooth
  have hN9 : Hid (N ≤ 4096) := Lib.hid (by omega)
  have HAL : Hid (∀ h : s1 = true, (tabL p N neg false ((k : Int), s1, s2, s3, s4)).length = N) := Lib.hid (by intro h; subst h; rw [tabL_twist]; simp)
  have HPW : Hid (∀ R L M : Nat, s1 = false → s2 = (R : Int) → s3 = (L : Int) → s4 = (M : Int) → StageK N R L M → (tabL p N neg false ((k : Int), s1, s2, s3, s4)).length = M * R ∧ ∀ i, i < M * R → (tabL p N neg false ((k : Int), s1, s2, s3, s4)).getD i 0 = powS p ((tabL p N neg false ((k : Int), s1, s2, s3, s4)).getD (i / R * R + 1) 0) (i % R)) := Lib.hid (by
    intro R L M h1 h2 h3 h4 hS
    subst h1 h2 h3 h4
    refine ⟨by rw [tabL_stage p N neg false _ hS, tabR_length], fun i hi => tab_pow hS hN9.out _ hi⟩)
  obtain ⟨tl, htl⟩ : ∃ tl, (tabL p N neg false ((k : Int), s1, s2, s3, s4)).length = tl := ⟨_, rfl⟩
  have HTL := Lib.hid htl
  have HTF : Hid (((tabL p N neg false ((k : Int), s1, s2, s3, s4), (0 : Int)).1).length = tl) := Lib.hid htl
  have HTT : Hid (((tabL p N neg true ((k : Int), s1, s2, s3, s4), (0 : Int)).1).length = tl) := Lib.hid (by dsimp only; rw [← hlE]; exact htl)
  have HTT2 : Hid ((tabL p N neg true ((k : Int), s1, s2, s3, s4)).length = tl) := Lib.hid (by rw [← hlE]; exact htl)
  have htl4 : tl ≤ 4096 := by have := hN9.out; omega
  have HFA := Lib.hid (HF.out false)
  have HFB := Lib.hid (HF.out true)
  clear hc hK hge hN4 hka hlE hlN htl HF
  generalize tabL p N neg false ((k : Int), s1, s2, s3, s4) = ta at *
  generalize tabL p N neg true ((k : Int), s1, s2, s3, s4) = tb at *
  go_wp2_with fail
  refine (stab_calls p (some xa) _ n ax false (k : Int) s1 s2 s3 s4 w2 HN.out HP.out (HR.out.below HB2.out) HL.out HW.out (HT.out.below HB2.out)).mono ?_
  rw [HFA.out, HTF.out]
  rintro e w3 ⟨B, cb, rfl, ho, hb⟩
  have HB3 := Lib.hid (blT HB2.out hb)
  have HBX3 := Lib.hid (HBX2.out.below hb)
  have HRA := Lib.hid ho.row
  clear ho hb b0 b1 b2 b3 b4
  dsimp only
  have b0 : w3.cell? ⟨w.heap.size, 0, none⟩ = some (.int .i64 (k : Int)) := HBX3.out.cell (i := 0) rfl
  have b1 : w3.cell? ⟨w.heap.size, 1, none⟩ = some (.bool s1) := HBX3.out.cell (i := 1) rfl
  have b2 : w3.cell? ⟨w.heap.size, 2, none⟩ = some (.int .i64 s2) := HBX3.out.cell (i := 2) rfl
  have b3 : w3.cell? ⟨w.heap.size, 3, none⟩ = some (.int .i64 s3) := HBX3.out.cell (i := 3) rfl
  have b4 : w3.cell? ⟨w.heap.size, 4, none⟩ = some (.int .i64 s4) := HBX3.out.cell (i := 4) rfl
  go_wp2_with fail
  refine (stab_calls p (some xa) _ n ax true (k : Int) s1 s2 s3 s4 w3 HN.out HP.out (HR.out.below HB3.out) HL.out HW.out (HT.out.below HB3.out)).mono ?_
  rw [HFB.out, HTT.out]
  rintro e w4 ⟨C, cc, rfl, ho, hb⟩
  have HB4 := Lib.hid (blT HB3.out hb)
  have HBX4 := Lib.hid (HBX3.out.below hb)
  have HRA4 := Lib.hid (HRA.out.below hb)
  have HRB4 := Lib.hid ho.row
  have HR4 := Lib.hid (HR.out.below HB4.out)
  clear ho hb b0 b1 b2 b3 b4
  dsimp only
  have b0 : w4.cell? ⟨w.heap.size, 0, none⟩ = some (.int .i64 (k : Int)) := HBX4.out.cell (i := 0) rfl
  have b1 : w4.cell? ⟨w.heap.size, 1, none⟩ = some (.bool s1) := HBX4.out.cell (i := 1) rfl
  have b2 : w4.cell? ⟨w.heap.size, 2, none⟩ = some (.int .i64 s2) := HBX4.out.cell (i := 2) rfl
  have b3 : w4.cell? ⟨w.heap.size, 3, none⟩ = some (.int .i64 s3) := HBX4.out.cell (i := 3) rfl
  have b4 : w4.cell? ⟨w.heap.size, 4, none⟩ = some (.int .i64 s4) := HBX4.out.cell (i := 4) rfl
  obtain ⟨c0, c1⟩ := HAC.out _ HR4.out
  rcases hkind with ⟨ht, hz⟩ | ⟨ht, hz⟩
  · try dsimp only at ht hz
    subst ht
    have htN : tl = N := by rw [← HTL.out]; exact HAL.out rfl
    subst htN
    have hcv : IntKind.u64.wrap (tl : Int) = (tl : Int) := by rw [IntKind.wrap_u64]; omega
    have HU9 : Hid (U64 (tl : Int)) := Lib.hid ⟨by omega, by omega⟩
    have HUQ : Hid (∀ i, i < ta.length → mulS p (mulS p (ta.getD i 0) (tb.getD i 0)) (tl : Int) = 1) := HUN
    clear hz hsm
    go_wp2
    clear b0 b1 b2 b3 b4 c0 c1 g1 g2 g3
    go_loopw [103] (fun q wr => ∃ i : Nat, i ≤ tl ∧ q = .int .i64 i ∧ Hid (Below w4.heap.size w4 wr)) (fun q _ => tl - (intOf q).toNat)
    case atStart => exact ⟨0, Nat.zero_le _, rfl, Lib.hid (Below.refl _ _)⟩
    case round =>
      obtain ⟨i, hi, rfl, HB5⟩ := hrel
      by_cases hlt : i < tl
      · have hia : i < ta.length := by have := HTL.out; omega
        have hib : i < tb.length := by have := HTT2.out; omega
        have HBX5 := Lib.hid (HBX4.out.below HB5.out)
        have b1 : wr.cell? ⟨w.heap.size, 1, none⟩ = some (.bool true) := HBX5.out.cell (i := 1) rfl
        obtain ⟨ba, rfl⟩ := HRA4.out.some_of (nums_ne (by omega))
        obtain ⟨bb, rfl⟩ := HRB4.out.some_of (nums_ne (by omega))
        have hca := (HRA4.out.below HB5.out).num hia
        have hcb := (HRB4.out.below HB5.out).num hib
        have he := HUQ.out i hia
        rw [getD_of hia, getD_of hib] at he
        have HU1 := Lib.hid (HUA.out _ (List.getElem_mem hia))
        have HU2 := Lib.hid (HUB.out _ (List.getElem_mem hib))
        generalize ta[i] = u at *
        generalize tb[i] = v at *
        obtain ⟨q, hq⟩ : ∃ q, mulS p u v = q := ⟨_, rfl⟩
        rw [hq] at he
        have HM1 : Hid (∀ w0, Calls Tryd.prog 41 #[.int .u64 p, .int .u64 u, .int .u64 v] w0 fun e w' => e = .returned (.int .u64 q) ∧ ∃ n, w' = w0.drewN n) := Lib.hid fun w0 => by
          have h1 := mul_calls p u v w0 HP.out HU1.out HU2.out
          rw [hq] at h1
          exact h1
        have HUQ1 : Hid (U64 q) := Lib.hid (by rw [← hq]; exact u64_mulS _ _ _)
        have HM2 : Hid (∀ w0, Calls Tryd.prog 41 #[.int .u64 p, .int .u64 q, .int .u64 (tl : Int)] w0 fun e w' => e = .returned (.int .u64 1) ∧ ∃ n, w' = w0.drewN n) := Lib.hid fun w0 => by
          have h1 := mul_calls p q (tl : Int) w0 HP.out HUQ1.out HU9.out
          rw [he] at h1
          exact h1
        clear he hq
        go_wp2
        go_quiet (first
          | (go_at_call_of 41 u; exact Calls.quiet_of (HM1.out _))
          | (go_at_call_of 41 q; exact Calls.quiet_of (HM2.out _)))
        go_wp2
        go_quiet (fail)
        go_wp2
        go_roundw
        case rel => exact ⟨i + 1, by omega, by go_num, Lib.hid (below_drewN HB5.out _)⟩
        case measure => simp [intOf]; omega
      · go_wp2
        go_ret
        exact ⟨by first | rfl | (simp; done), blT HB4.out HB5.out⟩
  · try dsimp only at ht hz
    subst ht
    obtain ⟨R, L, M, hs, hS⟩ := stg_mem hsm hz
    simp only [Prod.mk.injEq] at hs
    obtain ⟨rfl, rfl, rfl⟩ := hs
    obtain ⟨hl, hpw⟩ := HPW.out R L M rfl rfl rfl rfl hS
    have htl : tl = M * R := by rw [← HTL.out]; exact hl
    have HTLM := Lib.hid htl
    have HPW2 := Lib.hid hpw
    have hR2 := hS.r2
    have hR5 := hS.r5
    have hrm : IntKind.i64.wrap ((R : Int) * (M : Int)) = (tl : Int) := by
      rw [wrapM (by rw [Nat.mul_comm, ← htl]; omega), Nat.mul_comm, ← htl]
    have g4 : decide ((R : Int) < 2) = false := by simp; omega
    have g5 : decide (R < 2) = false := by simp; omega
    have HUQ : Hid (∀ i, i < ta.length → mulS p (mulS p (ta.getD i 0) (tb.getD i 0)) 1 = 1) := HUN
    have HU9 : Hid (U64 (1 : Int)) := Lib.hid ⟨by omega, by omega⟩
    have hR0 : ¬ (R : Int) = 0 := by omega
    have hR0n : ¬ R = 0 := by omega
    clear hz hsm hS hl hpw htl
    go_wp2
    clear b0 b1 b2 b3 b4 c0 c1 g1 g2 g3 g4 g5 hrm
    go_loopw [103] (fun q wr => ∃ i : Nat, i ≤ tl ∧ q = .int .i64 i ∧ Hid (Below w4.heap.size w4 wr)) (fun q _ => tl - (intOf q).toNat)
    case atStart => exact ⟨0, Nat.zero_le _, rfl, Lib.hid (Below.refl _ _)⟩
    case round =>
      obtain ⟨i, hi, rfl, HB5⟩ := hrel
      by_cases hlt : i < tl
      · have hia : i < ta.length := by have := HTL.out; omega
        have hib : i < tb.length := by have := HTT2.out; omega
        have HBX5 := Lib.hid (HBX4.out.below HB5.out)
        have b1 : wr.cell? ⟨w.heap.size, 1, none⟩ = some (.bool false) := HBX5.out.cell (i := 1) rfl
        have b2 : wr.cell? ⟨w.heap.size, 2, none⟩ = some (.int .i64 (R : Int)) := HBX5.out.cell (i := 2) rfl
        obtain ⟨ba, rfl⟩ := HRA4.out.some_of (nums_ne (by omega))
        obtain ⟨bb, rfl⟩ := HRB4.out.some_of (nums_ne (by omega))
        have hca := (HRA4.out.below HB5.out).num hia
        have hcb := (HRB4.out.below HB5.out).num hib
        have he := HUQ.out i hia
        have hp2 := HPW2.out i (by rw [← HTLM.out]; exact hlt)
        have hqi : i / R * R + 1 < tl := by
          have h1 : i / R < M := by rw [Nat.div_lt_iff_lt_mul (by omega), ← HTLM.out]; exact hlt
          have h2 := digit_lt2 h1 (show 1 < R by omega)
          rw [← HTLM.out] at h2
          exact h2
        have hiq : i / R * R + 1 < ta.length := by have := HTL.out; omega
        have hcq := (HRA4.out.below HB5.out).num hiq
        rw [getD_of hia, getD_of hib] at he
        rw [getD_of hia, getD_of hiq] at hp2
        have HU1 := Lib.hid (HUA.out _ (List.getElem_mem hia))
        have HU2 := Lib.hid (HUB.out _ (List.getElem_mem hib))
        have HU3 := Lib.hid (HUA.out _ (List.getElem_mem hiq))
        have hdt : (i : Int).tdiv (R : Int) = ((i / R : Nat) : Int) := by rw [Int.tdiv_eq_ediv_of_nonneg (by omega)]; push_cast; rfl
        have hmt : (i : Int).tmod (R : Int) = ((i % R : Nat) : Int) := by rw [Int.tmod_eq_emod_of_nonneg (by omega)]; push_cast; rfl
        have hdd : (i : Int) / (R : Int) = ((i / R : Nat) : Int) := by push_cast; rfl
        have hmm : (i : Int) % (R : Int) = ((i % R : Nat) : Int) := by push_cast; rfl
        have hr5 : i % R < 5 := Nat.lt_of_lt_of_le (Nat.mod_lt i (by omega)) hR5
        have hq4 : i / R ≤ 4096 := by have := Nat.div_le_self i R; omega
        have hqr : i / R * R ≤ 4096 := by omega
        generalize ta[i] = u at *
        generalize tb[i] = v at *
        generalize hcc : ta[i / R * R + 1] = c at *
        clear hcc hia hib hiq
        have hp3 : u = powS p c ((i % R : Nat) : Int).toNat := by rw [Int.toNat_natCast]; exact hp2
        generalize i % R = r9 at *
        generalize i / R = q9 at *
        have o1 : IntKind.i64.wrap (q9 : Int) = (q9 : Int) := wrapI (by omega) (by omega)
        have o2 := wrapM (x := q9) (y := R) (by omega)
        generalize q9 * R = qr at *
        have o3 : IntKind.i64.wrap ((qr : Int) + 1) = ((qr + 1 : Nat) : Int) := wrapP (x := qr) (y := 1) (by omega)
        have o4 : IntKind.i64.wrap (r9 : Int) = (r9 : Int) := wrapI (by omega) (by omega)
        have o5 : IntKind.u64.wrap (r9 : Int) = (r9 : Int) := by rw [IntKind.wrap_u64]; omega
        have HU4 : Hid (U64 (r9 : Int)) := Lib.hid ⟨by omega, by omega⟩
        generalize hj : qr + 1 = j at *
        have hjl : j < tl := hqi
        obtain ⟨q, hq⟩ : ∃ q, mulS p u v = q := ⟨_, rfl⟩
        rw [hq] at he
        have HM1 : Hid (∀ w0, Calls Tryd.prog 41 #[.int .u64 p, .int .u64 u, .int .u64 v] w0 fun e w' => e = .returned (.int .u64 q) ∧ ∃ n, w' = w0.drewN n) := Lib.hid fun w0 => by
          have h1 := mul_calls p u v w0 HP.out HU1.out HU2.out
          rw [hq] at h1
          exact h1
        have HUQ1 : Hid (U64 q) := Lib.hid (by rw [← hq]; exact u64_mulS _ _ _)
        have HM2 : Hid (∀ w0, Calls Tryd.prog 41 #[.int .u64 p, .int .u64 q, .int .u64 1] w0 fun e w' => e = .returned (.int .u64 1) ∧ ∃ n, w' = w0.drewN n) := Lib.hid fun w0 => by
          have h1 := mul_calls p q 1 w0 HP.out HUQ1.out HU9.out
          rw [he] at h1
          exact h1
        have HM3 : Hid (∀ w0, Calls Tryd.prog 42 #[.int .u64 p, .int .u64 c, .int .u64 (r9 : Int)] w0 fun e w' => e = .returned (.int .u64 u) ∧ ∃ n, w' = w0.drewN n) := Lib.hid fun w0 => by
          have h1 := pow_calls p c (r9 : Int) w0 HP.out HU3.out HU4.out
          rw [← hp3] at h1
          exact h1
        clear he hp2 hj hp3 hqi hq
        go_wp2
        go_quiet (first
          | (go_at_call_of 41 u; exact Calls.quiet_of (HM1.out _))
          | (go_at_call_of 41 q; exact Calls.quiet_of (HM2.out _)))
        go_wp2
        generalize hwD : wr.drewN nq = wD at *
        refine region_marks2 (k := 31) (S := (fun w' => w'.cell? ⟨w.heap.size, 1, none⟩ = some (.bool false) ∧ w'.cell? ⟨w.heap.size, 2, none⟩ = some (.int .i64 (R : Int)) ∧ w'.cell? (ba.add i) = some (.int .u64 u) ∧ w'.cell? (ba.add j) = some (.int .u64 c))) (T := fun _ => true) HMX.out rfl (by rw [← hwD]; exact ⟨b1, b2, hca, hcq⟩) (fun hS => ?_)
        refine wpAnyT_take3 (i := 0) (v := ?_) rfl (by kernel_rfl) (by kernel_rfl) (by kernel_rfl) (by kernel_rfl) (by kernel_rfl) (fun _ _ _ h => h) hS (Or.inl ⟨by rfl, ?_⟩) ?_
        rotate_left
        · (intro w' hSw; (try dsimp only at hSw); go_simp; (try with_reducible rfl))
        (try simp only [Act.put, List.setIfInBounds_toArray, List.set_cons_zero, List.set_cons_succ])
        refine wpAnyT_take3 (i := 1) (v := ?_) rfl (by kernel_rfl) (by kernel_rfl) (by kernel_rfl) (by kernel_rfl) (by kernel_rfl) (fun _ _ _ h => h) hS (Or.inl ⟨by rfl, ?_⟩) ?_
        rotate_left
        · (intro w' hSw; (try dsimp only at hSw); go_simp; (try with_reducible rfl))
        (try simp only [Act.put, List.setIfInBounds_toArray, List.set_cons_zero, List.set_cons_succ])
        refine wpAnyT_take3 (i := 2) (v := ?_) rfl (by kernel_rfl) (by kernel_rfl) (by kernel_rfl) (by kernel_rfl) (by kernel_rfl) (fun _ _ _ h => h) hS (Or.inl ⟨by rfl, ?_⟩) ?_
        rotate_left
        · (intro w' hSw; (try dsimp only at hSw); go_simp; (try with_reducible rfl))
        (try simp only [Act.put, List.setIfInBounds_toArray, List.set_cons_zero, List.set_cons_succ])
        refine wpAnyT_take3 (i := 3) (v := ?_) rfl (by kernel_rfl) (by kernel_rfl) (by kernel_rfl) (by kernel_rfl) (by kernel_rfl) (fun _ _ _ h => h) hS (Or.inl ⟨by rfl, ?_⟩) ?_
        rotate_left
        · (intro w' hSw; (try dsimp only at hSw); go_simp; (try with_reducible rfl))
        (try simp only [Act.put, List.setIfInBounds_toArray, List.set_cons_zero, List.set_cons_succ])
        refine wpAnyT_take3 (i := 4) (v := ?_) rfl (by kernel_rfl) (by kernel_rfl) (by kernel_rfl) (by kernel_rfl) (by kernel_rfl) (fun _ _ _ h => h) hS (Or.inl ⟨by rfl, ?_⟩) ?_
        rotate_left
        · (intro w' hSw; (try dsimp only at hSw); go_simp; (try with_reducible rfl))
        (try simp only [Act.put, List.setIfInBounds_toArray, List.set_cons_zero, List.set_cons_succ])
        refine wpAnyT_take3 (i := 5) (v := ?_) rfl (by kernel_rfl) (by kernel_rfl) (by kernel_rfl) (by kernel_rfl) (by kernel_rfl) (fun _ _ _ h => h) hS (Or.inl ⟨by rfl, ?_⟩) ?_
        rotate_left
        · (intro w' hSw; (try dsimp only at hSw); go_simp; (try with_reducible rfl))
        (try simp only [Act.put, List.setIfInBounds_toArray, List.set_cons_zero, List.set_cons_succ])
        refine wpAnyT_take3 (i := 6) (v := ?_) rfl (by kernel_rfl) (by kernel_rfl) (by kernel_rfl) (by kernel_rfl) (by kernel_rfl) (fun _ _ _ h => h) hS (Or.inl ⟨by rfl, ?_⟩) ?_
        rotate_left
        · (intro w' hSw; (try dsimp only at hSw); go_simp; (try with_reducible rfl))
        (try simp only [Act.put, List.setIfInBounds_toArray, List.set_cons_zero, List.set_cons_succ])
        refine wpAnyT_take3 (i := 7) (v := ?_) rfl (by kernel_rfl) (by kernel_rfl) (by kernel_rfl) (by kernel_rfl) (by kernel_rfl) (fun _ _ _ h => h) hS (Or.inl ⟨by rfl, ?_⟩) ?_
        rotate_left
        · (intro w' hSw; (try dsimp only at hSw); go_simp; (try with_reducible rfl))
        (try simp only [Act.put, List.setIfInBounds_toArray, List.set_cons_zero, List.set_cons_succ])
        refine wpAnyT_take3 (i := 8) (v := ?_) rfl (by kernel_rfl) (by kernel_rfl) (by kernel_rfl) (by kernel_rfl) (by kernel_rfl) (fun _ _ _ h => h) hS (Or.inl ⟨by rfl, ?_⟩) ?_
        rotate_left
        · (intro w' hSw; (try dsimp only at hSw); go_simp; (try with_reducible rfl))
        (try simp only [Act.put, List.setIfInBounds_toArray, List.set_cons_zero, List.set_cons_succ])
        refine wpAnyT_take3 (i := 9) (v := ?_) rfl (by kernel_rfl) (by kernel_rfl) (by kernel_rfl) (by kernel_rfl) (by kernel_rfl) (fun _ _ _ h => h) hS (Or.inl ⟨by rfl, ?_⟩) ?_
        rotate_left
        · (intro w' hSw; (try dsimp only at hSw); go_simp; (try with_reducible rfl))
        (try simp only [Act.put, List.setIfInBounds_toArray, List.set_cons_zero, List.set_cons_succ])
        refine wpAnyT_take3 (i := 10) (v := ?_) rfl (by kernel_rfl) (by kernel_rfl) (by kernel_rfl) (by kernel_rfl) (by kernel_rfl) (fun _ _ _ h => h) hS (Or.inl ⟨by rfl, ?_⟩) ?_
        rotate_left
        · (intro w' hSw; (try dsimp only at hSw); go_simp; (try with_reducible rfl))
        (try simp only [Act.put, List.setIfInBounds_toArray, List.set_cons_zero, List.set_cons_succ])
        refine wpAnyT_take3 (i := 11) (v := ?_) rfl (by kernel_rfl) (by kernel_rfl) (by kernel_rfl) (by kernel_rfl) (by kernel_rfl) (fun _ _ _ h => h) hS (Or.inl ⟨by rfl, ?_⟩) ?_
        rotate_left
        · (intro w' hSw; (try dsimp only at hSw); go_simp; (try with_reducible rfl))
        (try simp only [Act.put, List.setIfInBounds_toArray, List.set_cons_zero, List.set_cons_succ])
        refine wpAnyT_take3 (i := 12) (v := ?_) rfl (by kernel_rfl) (by kernel_rfl) (by kernel_rfl) (by kernel_rfl) (by kernel_rfl) (fun _ _ _ h => h) hS (Or.inl ⟨by rfl, ?_⟩) ?_
        rotate_left
        · (intro w' hSw; (try dsimp only at hSw); go_simp; (try with_reducible rfl))
        (try simp only [Act.put, List.setIfInBounds_toArray, List.set_cons_zero, List.set_cons_succ])
        refine wpAnyT_take3 (i := 13) (v := ?_) rfl (by kernel_rfl) (by kernel_rfl) (by kernel_rfl) (by kernel_rfl) (by kernel_rfl) (fun _ _ _ h => h) hS (Or.inl ⟨by rfl, ?_⟩) ?_
        rotate_left
        · (intro w' hSw; (try dsimp only at hSw); go_simp; (try with_reducible rfl))
        (try simp only [Act.put, List.setIfInBounds_toArray, List.set_cons_zero, List.set_cons_succ])
        refine wpAnyT_take3 (i := 14) (v := ?_) rfl (by kernel_rfl) (by kernel_rfl) (by kernel_rfl) (by kernel_rfl) (by kernel_rfl) (fun _ _ _ h => h) hS (Or.inl ⟨by rfl, ?_⟩) ?_
        rotate_left
        · (intro w' hSw; (try dsimp only at hSw); go_simp; (try with_reducible rfl))
        (try simp only [Act.put, List.setIfInBounds_toArray, List.set_cons_zero, List.set_cons_succ])
        refine wpAnyT_take3 (i := 15) (v := ?_) rfl (by kernel_rfl) (by kernel_rfl) (by kernel_rfl) (by kernel_rfl) (by kernel_rfl) (fun _ _ _ h => h) hS (Or.inl ⟨by rfl, ?_⟩) ?_
        rotate_left
        · (intro w' hSw; (try dsimp only at hSw); go_simp; (try with_reducible rfl))
        (try simp only [Act.put, List.setIfInBounds_toArray, List.set_cons_zero, List.set_cons_succ])
        refine wpAnyT_take3 (i := 16) (v := ?_) rfl (by kernel_rfl) (by kernel_rfl) (by kernel_rfl) (by kernel_rfl) (by kernel_rfl) (fun _ _ _ h => h) hS (Or.inl ⟨by rfl, ?_⟩) ?_
        rotate_left
        · (intro w' hSw; (try dsimp only at hSw); go_simp; (try with_reducible rfl))
        (try simp only [Act.put, List.setIfInBounds_toArray, List.set_cons_zero, List.set_cons_succ])
        refine wpAnyT_take3 (i := 17) (v := ?_) rfl (by kernel_rfl) (by kernel_rfl) (by kernel_rfl) (by kernel_rfl) (by kernel_rfl) (fun _ _ _ h => h) hS (Or.inl ⟨by rfl, ?_⟩) ?_
        rotate_left
        · (intro w' hSw; (try dsimp only at hSw); go_simp; (try with_reducible rfl))
        (try simp only [Act.put, List.setIfInBounds_toArray, List.set_cons_zero, List.set_cons_succ])
        refine wpAnyT_take3 (i := 18) (v := ?_) rfl (by kernel_rfl) (by kernel_rfl) (by kernel_rfl) (by kernel_rfl) (by kernel_rfl) (fun _ _ _ h => h) hS (Or.inl ⟨by rfl, ?_⟩) ?_
        rotate_left
        · (intro w' hSw; (try dsimp only at hSw); go_simp; (try with_reducible rfl))
        (try simp only [Act.put, List.setIfInBounds_toArray, List.set_cons_zero, List.set_cons_succ])
        refine wpAnyT_take3 (i := 19) (v := ?_) rfl (by kernel_rfl) (by kernel_rfl) (by kernel_rfl) (by kernel_rfl) (by kernel_rfl) (fun _ _ _ h => h) hS (Or.inl ⟨by rfl, ?_⟩) ?_
        rotate_left
        · (intro w' hSw; (try dsimp only at hSw); go_simp; (try with_reducible rfl))
        (try simp only [Act.put, List.setIfInBounds_toArray, List.set_cons_zero, List.set_cons_succ])
        refine wpAnyT_take3 (i := 20) (v := ?_) rfl (by kernel_rfl) (by kernel_rfl) (by kernel_rfl) (by kernel_rfl) (by kernel_rfl) (fun _ _ _ h => h) hS (Or.inl ⟨by rfl, ?_⟩) ?_
        rotate_left
        · (intro w' hSw; (try dsimp only at hSw); go_simp; (try with_reducible rfl))
        (try simp only [Act.put, List.setIfInBounds_toArray, List.set_cons_zero, List.set_cons_succ])
        refine wpAnyT_take3 (i := 21) (v := ?_) rfl (by kernel_rfl) (by kernel_rfl) (by kernel_rfl) (by kernel_rfl) (by kernel_rfl) (fun _ _ _ h => h) hS (Or.inl ⟨by rfl, ?_⟩) ?_
        rotate_left
        · (intro w' hSw; (try dsimp only at hSw); go_simp; (try with_reducible rfl))
        (try simp only [Act.put, List.setIfInBounds_toArray, List.set_cons_zero, List.set_cons_succ])
        refine wpAnyT_take3 (i := 22) (v := ?_) rfl (by kernel_rfl) (by kernel_rfl) (by kernel_rfl) (by kernel_rfl) (by kernel_rfl) (fun _ _ _ h => h) hS (Or.inl ⟨by rfl, ?_⟩) ?_
        rotate_left
        · (intro w' hSw; (try dsimp only at hSw); go_simp; (try with_reducible rfl))
        (try simp only [Act.put, List.setIfInBounds_toArray, List.set_cons_zero, List.set_cons_succ])
        refine wpAnyT_take3 (i := 23) (v := ?_) rfl (by kernel_rfl) (by kernel_rfl) (by kernel_rfl) (by kernel_rfl) (by kernel_rfl) (fun _ _ _ h => h) hS (Or.inl ⟨by rfl, ?_⟩) ?_
        rotate_left
        · (intro w' hSw; (try dsimp only at hSw); go_simp; (try with_reducible rfl))
        (try simp only [Act.put, List.setIfInBounds_toArray, List.set_cons_zero, List.set_cons_succ])
        refine wpAnyT_take3 (i := 24) (v := ?_) rfl (by kernel_rfl) (by kernel_rfl) (by kernel_rfl) (by kernel_rfl) (by kernel_rfl) (fun _ _ _ h => h) hS (Or.inl ⟨by rfl, ?_⟩) ?_
        rotate_left
        · (intro w' hSw; (try dsimp only at hSw); go_simp; (try with_reducible rfl))
        (try simp only [Act.put, List.setIfInBounds_toArray, List.set_cons_zero, List.set_cons_succ])
        refine wpAnyT_take3 (i := 25) (v := ?_) rfl (by kernel_rfl) (by kernel_rfl) (by kernel_rfl) (by kernel_rfl) (by kernel_rfl) (fun _ _ _ h => h) hS (Or.inl ⟨by rfl, ?_⟩) ?_
        rotate_left
        · (intro w' hSw; (try dsimp only at hSw); go_simp; (try with_reducible rfl))
        (try simp only [Act.put, List.setIfInBounds_toArray, List.set_cons_zero, List.set_cons_succ])
        refine wpAnyT_take3 (i := 26) (v := ?_) rfl (by kernel_rfl) (by kernel_rfl) (by kernel_rfl) (by kernel_rfl) (by kernel_rfl) (fun _ _ _ h => h) hS (Or.inl ⟨by rfl, ?_⟩) ?_
        rotate_left
        · (intro w' hSw; (try dsimp only at hSw); go_simp; (try with_reducible rfl))
        (try simp only [Act.put, List.setIfInBounds_toArray, List.set_cons_zero, List.set_cons_succ])
        refine wpAnyT_take3 (i := 27) (v := ?_) rfl (by kernel_rfl) (by kernel_rfl) (by kernel_rfl) (by kernel_rfl) (by kernel_rfl) (fun _ _ _ h => h) hS (Or.inl ⟨by rfl, ?_⟩) ?_
        rotate_left
        · (intro w' hSw; (try dsimp only at hSw); go_simp; (try with_reducible rfl))
        (try simp only [Act.put, List.setIfInBounds_toArray, List.set_cons_zero, List.set_cons_succ])
        refine wpAnyT_one (i := 28) (by kernel_rfl) rfl (fun K hK => ?_)
        go_simp
        refine (HM3.out _).mono ?_
        rintro e w2 ⟨rfl, ⟨n2, rfl⟩⟩
        refine hK _ _ (fun _ => hS) ?_
        clear hK K
        (try simp only [Act.put, List.setIfInBounds_toArray, List.set_cons_zero, List.set_cons_succ])
        refine wpAnyT_take3 (i := 29) (v := ?_) rfl (by kernel_rfl) (by kernel_rfl) (by kernel_rfl) (by kernel_rfl) (by kernel_rfl) (fun _ _ _ h => h) hS (Or.inl ⟨by rfl, ?_⟩) ?_
        rotate_left
        · (intro w' hSw; (try dsimp only at hSw); go_simp; (try with_reducible rfl))
        (try simp only [Act.put, List.setIfInBounds_toArray, List.set_cons_zero, List.set_cons_succ])
        refine wpAnyT_take3 (i := 30) (v := ?_) rfl (by kernel_rfl) (by kernel_rfl) (by kernel_rfl) (by kernel_rfl) (by kernel_rfl) (fun _ _ _ h => h) hS (Or.inl ⟨by rfl, ?_⟩) ?_
        rotate_left
        · (intro w' hSw; (try dsimp only at hSw); go_simp; (try with_reducible rfl))
        (try simp only [Act.put, List.setIfInBounds_toArray, List.set_cons_zero, List.set_cons_succ])
        refine wpAnyT_done (by kernel_rfl) ?_ _
        refine NoPanic.normal ?_
        subst hwD
        go_wp2
        go_roundw
        case rel => exact ⟨i + 1, by omega, by go_num, Lib.hid (below_drewN HB5.out _)⟩
        case measure => simp [intOf]; omega
      · go_wp2
        go_ret
        exact ⟨by first | rfl | (simp; done), blT HB4.out HB5.out⟩
end Go.Proofs.YtohcoidbncbijaaDoor.P
