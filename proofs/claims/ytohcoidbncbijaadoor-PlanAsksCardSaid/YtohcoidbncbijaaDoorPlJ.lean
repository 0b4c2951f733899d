
/- The contracts of brackenref17's Check and Item. Conditions: words of their kinds; slices read as lists. -/
import Derived.Test.YtohcoidbncbijaaDoorPlE
namespace Go.Proofs.YtohcoidbncbijaaDoor.P
open Go.RowKit
set_option linter.unusedVariables false
set_option linter.unusedSimpArgs false
theorem mul_wrap {N b : Int} (h0 : 0 ≤ N) (h1 : N ≤ 4096) (hb1 : 1 ≤ b) (hb2 : b ≤ 16) : IntKind.i64.wrap (N * b) = N * b := by
  have hbo : 0 ≤ N * b ∧ N * b ≤ 65536 := ⟨Int.mul_nonneg h0 (by omega), Int.le_trans (Int.mul_le_mul h1 hb2 (by omega) (by decide)) (by decide)⟩
  exact wrapI (by omega) (by omega)
set_option maxRecDepth 100000 in
set_option maxHeartbeats 4000000 in
theorem r17chk_calls (p : Int) (A : Option Addr) (ca n : Nat) (inv : Bool) (b : Int) (X : Option Addr) (cx m : Nat) (S : Option Addr) (cs s : Nat) (rt ag : Int) (ax : List (Int × Bool)) (x sd : List Int) (w : World) (hn : ax.length = n) (hm : x.length = m) (hs : sd.length = s) (hp : U64 p) (hr : Row w A (axR ax)) (hl : n ≤ 8796093022208) (hw : ∀ a ∈ ax, i64 a.1)
    (hrx : Row w X (nums .u64 x)) (hlm : m ≤ 9223372036854775807) :
    Calls Tryd.prog 30 #[.agg #[.int .u64 p, .slice A n ca, .bool inv, .int .i64 b, .slice X m cx, .slice S s cs, .int .i64 rt, .int .i64 ag]] w fun e w' => e = .returned (.int .i64 (chk17 p ax b rt ag x sd)) ∧ Below w.heap.size w w' := by
  have HP := Lib.hid hp
  have HR := Lib.hid hr
  have HRX := Lib.hid hrx
  have HN := Lib.hid hn
  have HM := Lib.hid hm
  have HS := Lib.hid hs
  have HW := Lib.hid hw
  clear hp hr hrx hn hm hs hw
  obtain ⟨KB, hKB⟩ : ∃ KB : World → Prop, KB = fun ws => Below w.heap.size w ws ∧ w.heap.size < ws.heap.size ∧ ws.cell? ⟨w.heap.size, 0, none⟩ = some (.int .u64 p) ∧ ws.cell? ⟨w.heap.size, 1, none⟩ = some (.slice A n ca) ∧ ws.cell? ⟨w.heap.size, 2, none⟩ = some (.bool inv) ∧ ws.cell? ⟨w.heap.size, 3, none⟩ = some (.int .i64 b) ∧ ws.cell? ⟨w.heap.size, 4, none⟩ = some (.slice X m cx) ∧ ws.cell? ⟨w.heap.size, 5, none⟩ = some (.slice S s cs) ∧ ws.cell? ⟨w.heap.size, 6, none⟩ = some (.int .i64 rt) ∧ ws.cell? ⟨w.heap.size, 7, none⟩ = some (.int .i64 ag) := ⟨_, rfl⟩
  have HK0 : Hid (KB (w.alloc (.cells #[.int .u64 p, .slice A n ca, .bool inv, .int .i64 b, .slice X m cx, .slice S s cs, .int .i64 rt, .int .i64 ag] 43))) := Lib.hid (by rw [hKB]; exact ⟨(Below.refl _ _).alloc (Nat.le_refl _) _, by simp, World.news_of_block (cs := #[.int .u64 p, .slice A n ca, .bool inv, .int .i64 b, .slice X m cx, .slice S s cs, .int .i64 rt, .int .i64 ag]) (t := 43) (fr := (0, 0)) (heap_alloc_new w _) 0 _ rfl, World.news_of_block (cs := #[.int .u64 p, .slice A n ca, .bool inv, .int .i64 b, .slice X m cx, .slice S s cs, .int .i64 rt, .int .i64 ag]) (t := 43) (fr := (0, 0)) (heap_alloc_new w _) 1 _ rfl, World.news_of_block (cs := #[.int .u64 p, .slice A n ca, .bool inv, .int .i64 b, .slice X m cx, .slice S s cs, .int .i64 rt, .int .i64 ag]) (t := 43) (fr := (0, 0)) (heap_alloc_new w _) 2 _ rfl, World.news_of_block (cs := #[.int .u64 p, .slice A n ca, .bool inv, .int .i64 b, .slice X m cx, .slice S s cs, .int .i64 rt, .int .i64 ag]) (t := 43) (fr := (0, 0)) (heap_alloc_new w _) 3 _ rfl, World.news_of_block (cs := #[.int .u64 p, .slice A n ca, .bool inv, .int .i64 b, .slice X m cx, .slice S s cs, .int .i64 rt, .int .i64 ag]) (t := 43) (fr := (0, 0)) (heap_alloc_new w _) 4 _ rfl, World.news_of_block (cs := #[.int .u64 p, .slice A n ca, .bool inv, .int .i64 b, .slice X m cx, .slice S s cs, .int .i64 rt, .int .i64 ag]) (t := 43) (fr := (0, 0)) (heap_alloc_new w _) 5 _ rfl, World.news_of_block (cs := #[.int .u64 p, .slice A n ca, .bool inv, .int .i64 b, .slice X m cx, .slice S s cs, .int .i64 rt, .int .i64 ag]) (t := 43) (fr := (0, 0)) (heap_alloc_new w _) 6 _ rfl, World.news_of_block (cs := #[.int .u64 p, .slice A n ca, .bool inv, .int .i64 b, .slice X m cx, .slice S s cs, .int .i64 rt, .int .i64 ag]) (t := 43) (fr := (0, 0)) (heap_alloc_new w _) 7 _ rfl⟩)
  have HKW : Hid (∀ ws, KB ws → Below w.heap.size w ws) := Lib.hid fun ws h => by rw [hKB] at h; exact h.1
  have HKN : Hid (∀ ws ws', KB ws → Below ws.heap.size ws ws' → KB ws') := Lib.hid fun ws ws' h hb => by
    rw [hKB] at h ⊢
    obtain ⟨h1, h4, c0, c1, c2, c3, c4, c5, c6, c7⟩ := h
    exact ⟨h1.trans (hb.mono (Nat.le_of_lt h4)), Nat.lt_of_lt_of_le h4 hb.size, (hb.cell h4).trans c0, (hb.cell h4).trans c1, (hb.cell h4).trans c2, (hb.cell h4).trans c3, (hb.cell h4).trans c4, (hb.cell h4).trans c5, (hb.cell h4).trans c6, (hb.cell h4).trans c7⟩
  have HKS : Hid (∀ ws, KB ws → w.heap.size < ws.heap.size) := Lib.hid fun ws h => by rw [hKB] at h; exact h.2.1
  have HKC : Hid (∀ ws, KB ws → ws.cell? ⟨w.heap.size, 0, none⟩ = some (.int .u64 p) ∧ ws.cell? ⟨w.heap.size, 1, none⟩ = some (.slice A n ca) ∧ ws.cell? ⟨w.heap.size, 2, none⟩ = some (.bool inv) ∧ ws.cell? ⟨w.heap.size, 3, none⟩ = some (.int .i64 b) ∧ ws.cell? ⟨w.heap.size, 4, none⟩ = some (.slice X m cx) ∧ ws.cell? ⟨w.heap.size, 5, none⟩ = some (.slice S s cs) ∧ ws.cell? ⟨w.heap.size, 6, none⟩ = some (.int .i64 rt) ∧ ws.cell? ⟨w.heap.size, 7, none⟩ = some (.int .i64 ag)) := Lib.hid fun ws h => by rw [hKB] at h; exact h.2.2
  clear hKB
  have HCK : Hid (chk17 p ax b rt ag x sd = if (btw b 1 16 && btw rt 0 8 && btw ag 0 8) = true then (if chk7 p ax = 0 then (if (m : Int) = prodL (dimsA ax) * b then (if inS p x = true then (if btw s 1 4 = true then 0 else 8) else 7) else 6) else chk7 p ax) else 1) := Lib.hid (by rw [chk17, HM.out, HS.out])
  by_cases hg : (btw b 1 16 && btw rt 0 8 && btw ag 0 8) = true
  case neg =>
    have HF : Hid (chk17 p ax b rt ag x sd = 1) := Lib.hid (by rw [HCK.out, if_neg hg])
    rw [HF.out]
    have hd : b < 1 ∨ (¬ b < 1 ∧ 16 < b) ∨ (¬ b < 1 ∧ ¬ 16 < b ∧ rt < 0) ∨ (¬ b < 1 ∧ ¬ 16 < b ∧ ¬ rt < 0 ∧ 8 < rt) ∨ (¬ b < 1 ∧ ¬ 16 < b ∧ ¬ rt < 0 ∧ ¬ 8 < rt ∧ ag < 0) ∨ (¬ b < 1 ∧ ¬ 16 < b ∧ ¬ rt < 0 ∧ ¬ 8 < rt ∧ ¬ ag < 0 ∧ 8 < ag) := by
      unfold btw at hg
      simp only [Bool.and_eq_true, decide_eq_true_eq] at hg
      omega
    clear hg HCK HF
    rcases hd with h1 | ⟨h1, h2⟩ | ⟨h1, h2, h3⟩ | ⟨h1, h2, h3, h4⟩ | ⟨h1, h2, h3, h4, h5⟩ | ⟨h1, h2, h3, h4, h5, h6⟩
    case' inl => have f1 : decide (b < 1) = true := by simp; omega
    case' inr.inl =>
      have f1 : decide (b < 1) = false := by simp; omega
      have f2 : decide (16 < b) = true := by simp; omega
    case' inr.inr.inl =>
      have f1 : decide (b < 1) = false := by simp; omega
      have f2 : decide (16 < b) = false := by simp; omega
      have f3 : decide (rt < 0) = true := by simp; omega
    case' inr.inr.inr.inl =>
      have f1 : decide (b < 1) = false := by simp; omega
      have f2 : decide (16 < b) = false := by simp; omega
      have f3 : decide (rt < 0) = false := by simp; omega
      have f4 : decide (8 < rt) = true := by simp; omega
    case' inr.inr.inr.inr.inl =>
      have f1 : decide (b < 1) = false := by simp; omega
      have f2 : decide (16 < b) = false := by simp; omega
      have f3 : decide (rt < 0) = false := by simp; omega
      have f4 : decide (8 < rt) = false := by simp; omega
      have f5 : decide (ag < 0) = true := by simp; omega
    case' inr.inr.inr.inr.inr =>
      have f1 : decide (b < 1) = false := by simp; omega
      have f2 : decide (16 < b) = false := by simp; omega
      have f3 : decide (rt < 0) = false := by simp; omega
      have f4 : decide (8 < rt) = false := by simp; omega
      have f5 : decide (ag < 0) = false := by simp; omega
      have f6 : decide (8 < ag) = true := by simp; omega
    all_goals
      (try clear h1); (try clear h2); (try clear h3); (try clear h4); (try clear h5); (try clear h6)
      obtain ⟨hk0, hk1, hk2, hk3, hk4, hk5, hk6, hk7⟩ := HKC.out _ HK0.out
      go_enter Tryd.func30, Tryd.ntmps30
      go_wp2
      go_ret
      exact ⟨rfl, HKW.out _ HK0.out⟩
  have hg2 : 1 ≤ b ∧ b ≤ 16 ∧ 0 ≤ rt ∧ rt ≤ 8 ∧ 0 ≤ ag ∧ ag ≤ 8 := by
    unfold btw at hg
    simp only [Bool.and_eq_true, decide_eq_true_eq] at hg
    omega
  obtain ⟨g1, g2, g3, g4, g5, g6⟩ := hg2
  have f1 : decide (b < 1) = false := by simp; omega
  have f2 : decide (16 < b) = false := by simp; omega
  have f3 : decide (rt < 0) = false := by simp; omega
  have f4 : decide (8 < rt) = false := by simp; omega
  have f5 : decide (ag < 0) = false := by simp; omega
  have f6 : decide (8 < ag) = false := by simp; omega
  have HBB : Hid (1 ≤ b ∧ b ≤ 16) := Lib.hid ⟨g1, g2⟩
  rw [if_pos hg] at HCK
  clear hg g1 g2 g3 g4 g5 g6
  by_cases hc : chk7 p ax = 0
  case neg =>
    have HF : Hid (chk17 p ax b rt ag x sd = chk7 p ax) := Lib.hid (by rw [HCK.out, if_neg hc])
    have t0 : (chk7 p ax != 0) = true := by simpa using hc
    rw [HF.out]
    clear hc
    obtain ⟨hk0, hk1, hk2, hk3, hk4, hk5, hk6, hk7⟩ := HKC.out _ HK0.out
    go_enter Tryd.func30, Tryd.ntmps30
    go_wp2_with fail
    refine (rchk7_calls p _ _ _ ax _ HN.out HP.out (HR.out.below (HKW.out _ HK0.out)) hl HW.out).mono ?_
    rintro e w2 ⟨rfl, hb⟩
    have HK2 := Lib.hid (HKN.out _ _ HK0.out hb)
    clear hb
    go_wp2
    go_ret
    exact ⟨rfl, HKW.out _ HK2.out⟩
  have HC := Lib.hid hc
  have hk7 := chk7_ok hc
  have HDN : Hid ((dimsA ax).length = n) := Lib.hid (by rw [dimsA_length]; exact HN.out)
  have HDW := Lib.hid (dimsA_i64 HW.out)
  have HAL := Lib.hid (allS_yes hk7.dims)
  have o1 := mul_wrap (N := prodL (dimsA ax)) (by have := hk7.dims.pos.prod; omega) hk7.dims.all HBB.out.1 HBB.out.2
  have hl2 : n ≤ 9223372036854775807 := by omega
  have t0 : (chk7 p ax != 0) = false := by rw [hc]; rfl
  rw [if_pos hc] at HCK
  clear hc hk7
  generalize prodL (dimsA ax) = N at *
  by_cases h6 : (m : Int) = N * b
  case neg =>
    have HF : Hid (chk17 p ax b rt ag x sd = 6) := Lib.hid (by rw [HCK.out, if_neg h6])
    have t6 : (N * b != (m : Int)) = true := by simpa using fun h => h6 h.symm
    rw [HF.out]
    clear h6
    obtain ⟨hk0, hk1, hk2, hk3, hk4, hk5, hk6, hk7⟩ := HKC.out _ HK0.out
    go_enter Tryd.func30, Tryd.ntmps30
    go_wp2_with fail
    refine (rchk7_calls p _ _ _ ax _ HN.out HP.out (HR.out.below (HKW.out _ HK0.out)) hl HW.out).mono ?_
    rw [HC.out]
    rintro e w2 ⟨rfl, hb⟩
    have HK2 := Lib.hid (HKN.out _ _ HK0.out hb)
    clear hb hk0 hk1 hk2 hk3 hk4 hk5 hk6 hk7
    obtain ⟨hk0, hk1, hk2, hk3, hk4, hk5, hk6, hk7⟩ := HKC.out _ HK2.out
    go_wp2_with fail
    refine (rdims7_calls _ _ _ ax _ HN.out (HR.out.below (HKW.out _ HK2.out)) hl).mono ?_
    rintro e w3 ⟨D, d, rfl, ho, hb⟩
    have HK3 := Lib.hid (HKN.out _ _ HK2.out hb)
    have HRD := Lib.hid ho.row
    clear hb ho hk0 hk1 hk2 hk3 hk4 hk5 hk6 hk7
    obtain ⟨hk0, hk1, hk2, hk3, hk4, hk5, hk6, hk7⟩ := HKC.out _ HK3.out
    go_wp2_with fail
    refine (r05_all_n D d n (dimsA ax) w3 HDN.out HRD.out hl2 HDW.out).mono ?_
    rw [HAL.out]
    rintro e w4 ⟨rfl, rfl⟩
    go_wp2
    go_ret
    exact ⟨rfl, HKW.out _ HK3.out⟩
  have t6 : (N * b != (m : Int)) = false := by simpa using h6.symm
  rw [if_pos h6] at HCK
  clear h6
  cases hi : inS p x
  case false =>
    have HF : Hid (chk17 p ax b rt ag x sd = 7) := Lib.hid (by rw [HCK.out, hi]; rfl)
    have HI := Lib.hid hi
    rw [HF.out]
    clear hi
    obtain ⟨hk0, hk1, hk2, hk3, hk4, hk5, hk6, hk7⟩ := HKC.out _ HK0.out
    go_enter Tryd.func30, Tryd.ntmps30
    go_wp2_with fail
    refine (rchk7_calls p _ _ _ ax _ HN.out HP.out (HR.out.below (HKW.out _ HK0.out)) hl HW.out).mono ?_
    rw [HC.out]
    rintro e w2 ⟨rfl, hb⟩
    have HK2 := Lib.hid (HKN.out _ _ HK0.out hb)
    clear hb hk0 hk1 hk2 hk3 hk4 hk5 hk6 hk7
    obtain ⟨hk0, hk1, hk2, hk3, hk4, hk5, hk6, hk7⟩ := HKC.out _ HK2.out
    go_wp2_with fail
    refine (rdims7_calls _ _ _ ax _ HN.out (HR.out.below (HKW.out _ HK2.out)) hl).mono ?_
    rintro e w3 ⟨D, d, rfl, ho, hb⟩
    have HK3 := Lib.hid (HKN.out _ _ HK2.out hb)
    have HRD := Lib.hid ho.row
    clear hb ho hk0 hk1 hk2 hk3 hk4 hk5 hk6 hk7
    obtain ⟨hk0, hk1, hk2, hk3, hk4, hk5, hk6, hk7⟩ := HKC.out _ HK3.out
    go_wp2_with fail
    refine (r05_all_n D d n (dimsA ax) w3 HDN.out HRD.out hl2 HDW.out).mono ?_
    rw [HAL.out]
    rintro e w4 ⟨rfl, rfl⟩
    go_wp2_with fail
    refine (r01_in_n p X cx m x _ HM.out (HRX.out.below (HKW.out _ HK3.out)) hlm).mono ?_
    rw [HI.out]
    rintro e w5 ⟨rfl, rfl⟩
    go_wp2
    go_ret
    exact ⟨rfl, HKW.out _ HK3.out⟩
  have HI := Lib.hid hi
  rw [if_pos hi] at HCK
  clear hi
  by_cases h8 : 1 ≤ (s : Int) ∧ (s : Int) ≤ 4
  case neg =>
    have HF : Hid (chk17 p ax b rt ag x sd = 8) := Lib.hid (by rw [HCK.out, if_neg (by unfold btw; simp; omega)])
    rw [HF.out]
    by_cases h1 : (s : Int) < 1
    case' pos => have t8 : decide ((s : Int) < 1) = true := by simp; omega
    case' neg =>
      have t8 : decide ((s : Int) < 1) = false := by simp; omega
      have t9 : decide (4 < (s : Int)) = true := by simp; omega
    all_goals
      clear h8 h1
      obtain ⟨hk0, hk1, hk2, hk3, hk4, hk5, hk6, hk7⟩ := HKC.out _ HK0.out
      go_enter Tryd.func30, Tryd.ntmps30
      go_wp2_with fail
      refine (rchk7_calls p _ _ _ ax _ HN.out HP.out (HR.out.below (HKW.out _ HK0.out)) hl HW.out).mono ?_
      rw [HC.out]
      rintro e w2 ⟨rfl, hb⟩
      have HK2 := Lib.hid (HKN.out _ _ HK0.out hb)
      clear hb hk0 hk1 hk2 hk3 hk4 hk5 hk6 hk7
      obtain ⟨hk0, hk1, hk2, hk3, hk4, hk5, hk6, hk7⟩ := HKC.out _ HK2.out
      go_wp2_with fail
      refine (rdims7_calls _ _ _ ax _ HN.out (HR.out.below (HKW.out _ HK2.out)) hl).mono ?_
      rintro e w3 ⟨D, d, rfl, ho, hb⟩
      have HK3 := Lib.hid (HKN.out _ _ HK2.out hb)
      have HRD := Lib.hid ho.row
      clear hb ho hk0 hk1 hk2 hk3 hk4 hk5 hk6 hk7
      obtain ⟨hk0, hk1, hk2, hk3, hk4, hk5, hk6, hk7⟩ := HKC.out _ HK3.out
      go_wp2_with fail
      refine (r05_all_n D d n (dimsA ax) w3 HDN.out HRD.out hl2 HDW.out).mono ?_
      rw [HAL.out]
      rintro e w4 ⟨rfl, rfl⟩
      go_wp2_with fail
      refine (r01_in_n p X cx m x _ HM.out (HRX.out.below (HKW.out _ HK3.out)) hlm).mono ?_
      rw [HI.out]
      rintro e w5 ⟨rfl, rfl⟩
      go_wp2
      go_ret
      exact ⟨rfl, HKW.out _ HK3.out⟩
  have HF : Hid (chk17 p ax b rt ag x sd = 0) := Lib.hid (by rw [HCK.out, if_pos (by unfold btw; simp; omega)])
  have t8 : decide ((s : Int) < 1) = false := by simp; omega
  have t9 : decide (4 < (s : Int)) = false := by simp; omega
  rw [HF.out]
  clear h8
  obtain ⟨hk0, hk1, hk2, hk3, hk4, hk5, hk6, hk7⟩ := HKC.out _ HK0.out
  go_enter Tryd.func30, Tryd.ntmps30
  go_wp2_with fail
  refine (rchk7_calls p _ _ _ ax _ HN.out HP.out (HR.out.below (HKW.out _ HK0.out)) hl HW.out).mono ?_
  rw [HC.out]
  rintro e w2 ⟨rfl, hb⟩
  have HK2 := Lib.hid (HKN.out _ _ HK0.out hb)
  clear hb hk0 hk1 hk2 hk3 hk4 hk5 hk6 hk7
  obtain ⟨hk0, hk1, hk2, hk3, hk4, hk5, hk6, hk7⟩ := HKC.out _ HK2.out
  go_wp2_with fail
  refine (rdims7_calls _ _ _ ax _ HN.out (HR.out.below (HKW.out _ HK2.out)) hl).mono ?_
  rintro e w3 ⟨D, d, rfl, ho, hb⟩
  have HK3 := Lib.hid (HKN.out _ _ HK2.out hb)
  have HRD := Lib.hid ho.row
  clear hb ho hk0 hk1 hk2 hk3 hk4 hk5 hk6 hk7
  obtain ⟨hk0, hk1, hk2, hk3, hk4, hk5, hk6, hk7⟩ := HKC.out _ HK3.out
  go_wp2_with fail
  refine (r05_all_n D d n (dimsA ax) w3 HDN.out HRD.out hl2 HDW.out).mono ?_
  rw [HAL.out]
  rintro e w4 ⟨rfl, rfl⟩
  go_wp2_with fail
  refine (r01_in_n p X cx m x _ HM.out (HRX.out.below (HKW.out _ HK3.out)) hlm).mono ?_
  rw [HI.out]
  rintro e w5 ⟨rfl, rfl⟩
  go_wp2
  go_ret
  exact ⟨rfl, HKW.out _ HK3.out⟩
structure ItemR (N b i q q2 : Nat) : Prop where
  e1 : IntKind.i64.wrap ((i : Int) + 1) = (i : Int) + 1
  e2 : IntKind.i64.wrap (((i : Int) + 1) * (N : Int)) = (q2 : Int)
  q3 : q2 - q = N
  q4 : q ≤ q2
theorem item_ref {N b i q q2 : Nat} (hN4 : N ≤ 4096) (hb : b ≤ 16) (hi : i < b) (hq : q = i * N) (hq2 : q2 = (i + 1) * N) : ItemR N b i q q2 := by
  have hc : ((i : Int) + 1) * (N : Int) = (q2 : Int) := by rw [hq2]; push_cast; rfl
  have hs : q2 = q + N := by rw [hq2, hq, Nat.succ_mul]
  have hm6 : q2 ≤ 65536 := by rw [hq2]; exact Nat.le_trans (Nat.mul_le_mul (show i + 1 ≤ 16 by omega) hN4) (by decide)
  clear hq hq2
  exact ⟨wrapI (by omega) (by omega), by rw [hc]; exact wrapI (by omega) (by omega), by omega, by omega⟩
set_option maxRecDepth 100000 in
set_option maxHeartbeats 4000000 in
theorem r17item_calls (p : Int) (A : Option Addr) (ca n : Nat) (inv : Bool) (b : Int) (X : Option Addr) (cx m : Nat) (S : Option Addr) (cs s : Nat) (rt ag : Int) (ax : List (Int × Bool)) (x sd : List Int) (i : Int) (w : World) (hn : ax.length = n) (hm : x.length = m) (hs : sd.length = s) (hp : U64 p) (hr : Row w A (axR ax)) (hl : n ≤ 8796093022208) (hw : ∀ a ∈ ax, i64 a.1)
    (hrx : Row w X (nums .u64 x)) (hlm : m ≤ 9223372036854775807) (hcx : m ≤ cx) (hi : i64 i) :
    Calls Tryd.prog 27 #[.agg #[.int .u64 p, .slice A n ca, .bool inv, .int .i64 b, .slice X m cx, .slice S s cs, .int .i64 rt, .int .i64 ag], .int .i64 i] w fun e w' => ∃ B c,
      e = .returned (.tuple #[.slice B (itmS p ax b rt ag x sd i).1.length c, .int .i64 (itmS p ax b rt ag x sd i).2]) ∧ Own w' w.heap.size 22 1 B (itmS p ax b rt ag x sd i).1.length c (nums .u64 (itmS p ax b rt ag x sd i).1) ∧ Below w.heap.size w w' := by
  have HP := Lib.hid hp
  have HR := Lib.hid hr
  have HRX := Lib.hid hrx
  have HN := Lib.hid hn
  have HM := Lib.hid hm
  have HS := Lib.hid hs
  have HW := Lib.hid hw
  clear hp hr hrx hn hm hs hw
  obtain ⟨KB, hKB⟩ : ∃ KB : World → Prop, KB = fun ws => Below w.heap.size w ws ∧ w.heap.size < ws.heap.size ∧ ws.cell? ⟨w.heap.size, 0, none⟩ = some (.int .u64 p) ∧ ws.cell? ⟨w.heap.size, 1, none⟩ = some (.slice A n ca) ∧ ws.cell? ⟨w.heap.size, 2, none⟩ = some (.bool inv) ∧ ws.cell? ⟨w.heap.size, 3, none⟩ = some (.int .i64 b) ∧ ws.cell? ⟨w.heap.size, 4, none⟩ = some (.slice X m cx) ∧ ws.cell? ⟨w.heap.size, 5, none⟩ = some (.slice S s cs) ∧ ws.cell? ⟨w.heap.size, 6, none⟩ = some (.int .i64 rt) ∧ ws.cell? ⟨w.heap.size, 7, none⟩ = some (.int .i64 ag) := ⟨_, rfl⟩
  have HK0 : Hid (KB (w.alloc (.cells #[.int .u64 p, .slice A n ca, .bool inv, .int .i64 b, .slice X m cx, .slice S s cs, .int .i64 rt, .int .i64 ag] 43))) := Lib.hid (by rw [hKB]; exact ⟨(Below.refl _ _).alloc (Nat.le_refl _) _, by simp, World.news_of_block (cs := #[.int .u64 p, .slice A n ca, .bool inv, .int .i64 b, .slice X m cx, .slice S s cs, .int .i64 rt, .int .i64 ag]) (t := 43) (fr := (0, 0)) (heap_alloc_new w _) 0 _ rfl, World.news_of_block (cs := #[.int .u64 p, .slice A n ca, .bool inv, .int .i64 b, .slice X m cx, .slice S s cs, .int .i64 rt, .int .i64 ag]) (t := 43) (fr := (0, 0)) (heap_alloc_new w _) 1 _ rfl, World.news_of_block (cs := #[.int .u64 p, .slice A n ca, .bool inv, .int .i64 b, .slice X m cx, .slice S s cs, .int .i64 rt, .int .i64 ag]) (t := 43) (fr := (0, 0)) (heap_alloc_new w _) 2 _ rfl, World.news_of_block (cs := #[.int .u64 p, .slice A n ca, .bool inv, .int .i64 b, .slice X m cx, .slice S s cs, .int .i64 rt, .int .i64 ag]) (t := 43) (fr := (0, 0)) (heap_alloc_new w _) 3 _ rfl, World.news_of_block (cs := #[.int .u64 p, .slice A n ca, .bool inv, .int .i64 b, .slice X m cx, .slice S s cs, .int .i64 rt, .int .i64 ag]) (t := 43) (fr := (0, 0)) (heap_alloc_new w _) 4 _ rfl, World.news_of_block (cs := #[.int .u64 p, .slice A n ca, .bool inv, .int .i64 b, .slice X m cx, .slice S s cs, .int .i64 rt, .int .i64 ag]) (t := 43) (fr := (0, 0)) (heap_alloc_new w _) 5 _ rfl, World.news_of_block (cs := #[.int .u64 p, .slice A n ca, .bool inv, .int .i64 b, .slice X m cx, .slice S s cs, .int .i64 rt, .int .i64 ag]) (t := 43) (fr := (0, 0)) (heap_alloc_new w _) 6 _ rfl, World.news_of_block (cs := #[.int .u64 p, .slice A n ca, .bool inv, .int .i64 b, .slice X m cx, .slice S s cs, .int .i64 rt, .int .i64 ag]) (t := 43) (fr := (0, 0)) (heap_alloc_new w _) 7 _ rfl⟩)
  have HKW : Hid (∀ ws, KB ws → Below w.heap.size w ws) := Lib.hid fun ws h => by rw [hKB] at h; exact h.1
  have HKN : Hid (∀ ws ws', KB ws → Below ws.heap.size ws ws' → KB ws') := Lib.hid fun ws ws' h hb => by
    rw [hKB] at h ⊢
    obtain ⟨h1, h4, c0, c1, c2, c3, c4, c5, c6, c7⟩ := h
    exact ⟨h1.trans (hb.mono (Nat.le_of_lt h4)), Nat.lt_of_lt_of_le h4 hb.size, (hb.cell h4).trans c0, (hb.cell h4).trans c1, (hb.cell h4).trans c2, (hb.cell h4).trans c3, (hb.cell h4).trans c4, (hb.cell h4).trans c5, (hb.cell h4).trans c6, (hb.cell h4).trans c7⟩
  have HKS : Hid (∀ ws, KB ws → w.heap.size < ws.heap.size) := Lib.hid fun ws h => by rw [hKB] at h; exact h.2.1
  have HKC : Hid (∀ ws, KB ws → ws.cell? ⟨w.heap.size, 0, none⟩ = some (.int .u64 p) ∧ ws.cell? ⟨w.heap.size, 1, none⟩ = some (.slice A n ca) ∧ ws.cell? ⟨w.heap.size, 2, none⟩ = some (.bool inv) ∧ ws.cell? ⟨w.heap.size, 3, none⟩ = some (.int .i64 b) ∧ ws.cell? ⟨w.heap.size, 4, none⟩ = some (.slice X m cx) ∧ ws.cell? ⟨w.heap.size, 5, none⟩ = some (.slice S s cs) ∧ ws.cell? ⟨w.heap.size, 6, none⟩ = some (.int .i64 rt) ∧ ws.cell? ⟨w.heap.size, 7, none⟩ = some (.int .i64 ag)) := Lib.hid fun ws h => by rw [hKB] at h; exact h.2.2
  clear hKB
  by_cases hc : chk17 p ax b rt ag x sd = 0
  case neg =>
    have HF : Hid (itmS p ax b rt ag x sd i = ([], chk17 p ax b rt ag x sd)) := Lib.hid (by rw [itmS, if_neg hc])
    have t0 : (chk17 p ax b rt ag x sd != 0) = true := by simpa using hc
    rw [HF.out]
    clear hc
    go_enter Tryd.func27, Tryd.ntmps27
    go_wp2_with fail
    generalize (w.alloc (.cells #[.int .u64 p, .slice A n ca, .bool inv, .int .i64 b, .slice X m cx, .slice S s cs, .int .i64 rt, .int .i64 ag] 43)) = V0 at *
    refine (r17chk_calls p A ca n inv b X cx m S cs s rt ag ax x sd _ HN.out HM.out HS.out HP.out (HR.out.below (HKW.out _ HK0.out)) hl HW.out (HRX.out.below (HKW.out _ HK0.out)) hlm).mono ?_
    rintro e w1 ⟨rfl, hb⟩
    have HK1 := Lib.hid (HKN.out _ _ HK0.out hb)
    clear hb
    obtain ⟨hk0, hk1, hk2, hk3, hk4, hk5, hk6, hk7⟩ := HKC.out _ HK1.out
    clear hk0 hk1 hk2 hk3 hk4 hk5 hk6 hk7
    go_wp2
    go_ret2
    exact ⟨none, 0, rfl, Own.nil _ _ _ _, HKW.out _ HK1.out⟩
  have HC := Lib.hid hc
  have h17 := chk17_ok hc
  have hb1 := h17.b1
  have hb2 := h17.b2
  by_cases hin : 0 ≤ i ∧ i < b
  case neg =>
    have HF : Hid (itmS p ax b rt ag x sd i = ([], 1)) := Lib.hid (by rw [itmS, if_pos hc, if_neg hin])
    rw [HF.out]
    by_cases h0 : i < 0
    case' pos => have f0 : decide (i < 0) = true := by simp; omega
    case' neg =>
      have f0 : decide (i < 0) = false := by simp; omega
      have f1 : decide (b ≤ i) = true := by simp; omega
    all_goals
      clear hc hin h17 h0
      go_enter Tryd.func27, Tryd.ntmps27
      go_wp2_with fail
      generalize (w.alloc (.cells #[.int .u64 p, .slice A n ca, .bool inv, .int .i64 b, .slice X m cx, .slice S s cs, .int .i64 rt, .int .i64 ag] 43)) = V0 at *
      refine (r17chk_calls p A ca n inv b X cx m S cs s rt ag ax x sd _ HN.out HM.out HS.out HP.out (HR.out.below (HKW.out _ HK0.out)) hl HW.out (HRX.out.below (HKW.out _ HK0.out)) hlm).mono ?_
      rw [HC.out]
      rintro e w1 ⟨rfl, hb⟩
      have HK1 := Lib.hid (HKN.out _ _ HK0.out hb)
      clear hb
      obtain ⟨hk0, hk1, hk2, hk3, hk4, hk5, hk6, hk7⟩ := HKC.out _ HK1.out
      go_wp2
      go_ret2
      exact ⟨none, 0, rfl, Own.nil _ _ _ _, HKW.out _ HK1.out⟩
  have hk7 := chk7_ok h17.chk
  have hlen := h17.len
  have hN1 := hk7.dims.pos.prod
  have hN4 := hk7.dims.all
  have HF : Hid (itmS p ax b rt ag x sd i = ((x.drop (i.toNat * (prodL (dimsA ax)).toNat)).take (prodL (dimsA ax)).toNat, 0)) := Lib.hid (by rw [itmS, if_pos hc, if_pos hin])
  obtain ⟨hi0, hi1⟩ := hin
  obtain ⟨N, hN⟩ := Int.eq_ofNat_of_zero_le (show 0 ≤ prodL (dimsA ax) by omega)
  rw [hN] at hlen hN1 hN4 HF
  obtain ⟨i, rfl⟩ := Int.eq_ofNat_of_zero_le hi0
  obtain ⟨b, rfl⟩ := Int.eq_ofNat_of_zero_le (show 0 ≤ b by omega)
  rw [Int.toNat_natCast, Int.toNat_natCast] at HF
  have hmb : m = N * b := by have h1 := HM.out; rw [h1] at hlen; exact_mod_cast hlen
  obtain ⟨q, hq⟩ : ∃ q, q = i * N := ⟨_, rfl⟩
  have hit := item_facts (N := N) (b := b) (i := i) (by omega) (by omega) (by omega) (by omega) hmb hq
  have hq1 := hit.q1
  have hq2 := hit.q2
  have hm1 := hit.m1
  rw [← hq] at HF
  obtain ⟨xa, rfl⟩ := HRX.out.some_of (by intro h0; have h1 := nums_length .u64 x; have h2 := HM.out; rw [h0] at h1; simp at h1; omega)
  have HLL0 : Hid (((x.drop q).take N).length = N) := Lib.hid (by rw [List.length_take, List.length_drop, HM.out]; omega)
  have hN6 : N ≤ 1000000 := by omega
  obtain ⟨q2, hq2e⟩ : ∃ q2, q2 = (i + 1) * N := ⟨_, rfl⟩
  have hir := item_ref (N := N) (b := b) (i := i) (q := q) (q2 := q2) (by omega) (by omega) (by omega) hq hq2e
  have hq3 := hir.q3
  have hq4 := hir.q4
  have hqx : q2 ≤ m := by omega
  have hqx2 : q2 ≤ cx := by omega
  have f0 : decide ((i : Int) < 0) = false := by simp
  have f1 : decide ((b : Int) ≤ (i : Int)) = false := by simp; omega
  have f2 : decide (b ≤ i) = false := by simp; omega
  have hqc : q < cx := by omega
  have hqc1 : ¬ cx = q := by omega
  have hqc2 : ¬ q = cx := by omega
  have hqc3 : ¬ cx - q = 0 := by omega
  have hqc4 : (cx - q == 0) = false := by simp; omega
  have hqc5 : (cx == q) = false := by simp; omega
  have hqc6 : (q == cx) = false := by simp; omega
  have HLL := HLL0
  rw [HF.out, show (((x.drop q).take N, (0 : Int)).1).length = N from HLL.out]
  clear hc h17 hk7 hlen hN1 hN4 hN hb1 hb2 hi0 hi1 hq hmb hq2e hq3

  obtain ⟨-, -, hm6, -, d1, d2, d3, -, e1, -, a1, -⟩ := hit
  obtain ⟨r1, r2, hq3, -⟩ := hir
  clear hm6 hm1
  go_enter Tryd.func27, Tryd.ntmps27
  go_wp2_with fail
  generalize (w.alloc (.cells #[.int .u64 p, .slice A n ca, .bool inv, .int .i64 (b : Int), .slice (some xa) m cx, .slice S s cs, .int .i64 rt, .int .i64 ag] 43)) = V0 at *
  refine (r17chk_calls p A ca n inv b (some xa) cx m S cs s rt ag ax x sd _ HN.out HM.out HS.out HP.out (HR.out.below (HKW.out _ HK0.out)) hl HW.out (HRX.out.below (HKW.out _ HK0.out)) hlm).mono ?_
  rw [HC.out]
  rintro e w1 ⟨rfl, hb⟩
  have HK1 := Lib.hid (HKN.out _ _ HK0.out hb)
  clear hb
  obtain ⟨hk0, hk1, hk2, hk3, hk4, hk5, hk6, hk7⟩ := HKC.out _ HK1.out
  have HRS := Lib.hid (((HRX.out.below (HKW.out _ HK1.out)).drop q).take N)
  go_wp2_with (at_builtin; go_loud (refine append_any _ Tryd.underlying41 info_u64 rfl _ _ rfl w1.heap.size 0 0 N (cx - q) none (some (xa.add q)) [] ((x.drop q).take N) rfl rfl (Own.nil _ _ _ _) HRS.out HLL.out (Nat.le_refl _) (by omega) (by omega) ?_); intro B c w3 hown hbel hgrow)
  have HK3 : Hid (Below w.heap.size w w3) := Lib.hid ((HKW.out _ HK1.out).trans (hbel.mono (HKW.out _ HK1.out).size))
  have HO : Hid (Own w3 w.heap.size 22 1 B N c (nums .u64 ((x.drop q).take N))) := Lib.hid (by
    have h1 := hown.mono (HKW.out _ HK1.out).size
    rw [Nat.zero_add, List.nil_append] at h1
    exact h1)
  clear hown hbel hgrow
  try simp only [Nat.zero_add]
  go_wp2
  go_ret2
  exact ⟨_, _, rfl, HO.out, HK3.out⟩
end Go.Proofs.YtohcoidbncbijaaDoor.P
