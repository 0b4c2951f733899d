
/- The law SeedDoes, walked. Conditions: words of their kinds; the slices read as lists; the library's table lies as it was laid. -/
import Derived.Test.YtnlmmgcjhedjkaaDoorR9b
import Derived.Test.YtnlmmgcjhedjkaaDoorGrF
namespace Go.Proofs.YtnlmmgcjhedjkaaDoor.P
open Go.RowKit
set_option linter.unusedVariables false
set_option linter.unusedSimpArgs false
set_option maxRecDepth 100000 in
set_option maxHeartbeats 4000000 in
theorem seedDoes_walk (p : Int) (A : Option Addr) (ca : Nat) (ax : List (Int × Bool)) (inv : Bool) (B : Option Addr) (cb : Nat) (x : List Int) (Y : Option Addr) (cy : Nat) (y : List Int) (C : Option Addr) (cc : Nat) (sd : List Int) (a0 : Int) (a1 : Bool) (i z : Int) (w : World) (hp : U64 p)
    (hr : Row w A (axR ax)) (hla : ax.length * 16 ≤ 140737488351232) (hcap : ax.length ≤ ca) (hwa : ∀ a ∈ ax, (Lit.int .i64 a.1).wf = true)
    (hrx : Row w B (nums .u64 x)) (hlx : x.length * 8 ≤ 140737488351232) (hwx : ∀ d ∈ x, (Lit.int .u64 d).wf = true)
    (hry : Row w Y (nums .u64 y)) (hly : y.length * 8 ≤ 140737488351232) (hwy : ∀ d ∈ y, (Lit.int .u64 d).wf = true)
    (hrs : Row w C (nums .u64 sd)) (hls : sd.length * 8 ≤ 140737488351232) (hws : ∀ d ∈ sd, (Lit.int .u64 d).wf = true) (ha0 : i64 a0) (hi : i64 i) (hz : U64 z) (hT : Tab w) :
    Calls Tryd.prog 16 #[.int .u64 p, .slice A ax.length ca, .bool inv, .slice B x.length cb, .slice Y y.length cy, .slice C sd.length cc, .agg #[.int .i64 a0, .bool a1], .int .i64 i, .int .u64 z] w fun e w' => e = .returned (.bool true) ∧ Below w.heap.size w w' := by
  have HP := Lib.hid hp
  have HR := Lib.hid hr
  have HRX := Lib.hid hrx
  have HRY := Lib.hid hry
  have HRS := Lib.hid hrs
  have HT := Lib.hid hT
  have HA0 := Lib.hid ha0
  have HII := Lib.hid hi
  have HZZ := Lib.hid hz
  have HW : Hid (∀ a ∈ ax, i64 a.1) := Lib.hid fun a ha => i64_wf (hwa a ha)
  have HU : Hid (∀ d ∈ x, U64 d) := Lib.hid fun d hd => u64_wf (hwx d hd)
  have HUY : Hid (∀ d ∈ y, U64 d) := Lib.hid fun d hd => u64_wf (hwy d hd)
  have HUS : Hid (∀ d ∈ sd, U64 d) := Lib.hid fun d hd => u64_wf (hws d hd)
  clear hp hr hrx hry hrs hT hwa hwx hwy hws hi hz
  generalize hn : ax.length = n at *
  generalize hm : x.length = m at *
  generalize hmy : y.length = my at *
  generalize hs : sd.length = s at *
  have HN := Lib.hid hn
  have HM := Lib.hid hm
  have HMY := Lib.hid hmy
  have HS := Lib.hid hs
  have HL : Hid (n ≤ 8796093022208) := Lib.hid (by omega)
  have HLM : Hid (m ≤ 9223372036854775807) := Lib.hid (by omega)
  have HLY : Hid (my ≤ 9223372036854775807) := Lib.hid (by omega)
  have HLS : Hid (s ≤ 9223372036854775807) := Lib.hid (by omega)
  clear hn hm hs hmy hla hcap
  have hb0 : Below w.heap.size w (w.alloc (.cells #[.int .i64 a0, .bool a1] 64)) := (Below.refl _ _).alloc (Nat.le_refl _) _
  have hc0 : (w.alloc (.cells #[.int .i64 a0, .bool a1] 64)).cell? ⟨w.heap.size, 0, none⟩ = some (.int .i64 a0) := World.news_of_block (cs := #[.int .i64 a0, .bool a1]) (t := 64) (fr := (0, 0)) (heap_alloc_new w _) 0 _ rfl
  have hc1 : (w.alloc (.cells #[.int .i64 a0, .bool a1] 64)).cell? ⟨w.heap.size, 1, none⟩ = some (.bool a1) := World.news_of_block (cs := #[.int .i64 a0, .bool a1]) (t := 64) (fr := (0, 0)) (heap_alloc_new w _) 1 _ rfl
  have hlt : w.heap.size < (w.alloc (.cells #[.int .i64 a0, .bool a1] 64)).heap.size := by simp
  obtain ⟨KB, hKB⟩ : ∃ KB : World → Prop, KB = fun ws => Below w.heap.size w ws ∧ ws.cell? ⟨w.heap.size, 0, none⟩ = some (.int .i64 a0) ∧ ws.cell? ⟨w.heap.size, 1, none⟩ = some (.bool a1) ∧ w.heap.size < ws.heap.size := ⟨_, rfl⟩
  have HK0 : Hid (KB (w.alloc (.cells #[.int .i64 a0, .bool a1] 64))) := Lib.hid (by rw [hKB]; exact ⟨hb0, hc0, hc1, hlt⟩)
  have HKW : Hid (∀ ws, KB ws → Below w.heap.size w ws) := Lib.hid fun ws h => by rw [hKB] at h; exact h.1
  have HKC : Hid (∀ ws, KB ws → ws.cell? ⟨w.heap.size, 0, none⟩ = some (.int .i64 a0)) := Lib.hid fun ws h => by rw [hKB] at h; exact h.2.1
  have HKD : Hid (∀ ws, KB ws → ws.cell? ⟨w.heap.size, 1, none⟩ = some (.bool a1)) := Lib.hid fun ws h => by rw [hKB] at h; exact h.2.2.1
  have HKN : Hid (∀ ws ws', KB ws → Below ws.heap.size ws ws' → KB ws') := Lib.hid fun ws ws' h hb => by
    rw [hKB] at h ⊢
    obtain ⟨h1, h2, h3, h4⟩ := h
    exact ⟨h1.trans (hb.mono (Nat.le_of_lt h4)), (hb.cell h4).trans h2, (hb.cell h4).trans h3, Nat.lt_of_lt_of_le h4 hb.size⟩
  clear hb0 hc0 hc1 hlt hKB
  obtain ⟨n1, e1, h1⟩ : ∃ a e, wgtS p (a0, a1) inv i z = (a, e) := ⟨_, _, rfl⟩
  obtain ⟨b1, g1, h2⟩ : ∃ a e, expS p ax inv x z = (a, e) := ⟨_, _, rfl⟩
  obtain ⟨s1, j1, h3⟩ : ∃ a e, chk9 p ax inv x y sd = (a, e) := ⟨_, _, rfl⟩
  have H1 := Lib.hid h1
  have H2 := Lib.hid h2
  have H3 := Lib.hid h3
  clear h1 h2 h3
  go_enter Tryd.func16, Tryd.ntmps16
  go_wp2_with fail
  generalize (w.alloc (.cells #[.int .i64 a0, .bool a1] 64)) = V at *
  refine (live09_calls _ (HT.out.below (HKW.out _ HK0.out))).mono ?_
  rintro e w1 ⟨rfl, hb1⟩
  have HK1 := Lib.hid (HKN.out _ _ HK0.out hb1)
  clear hb1 HK0
  go_wp2_with fail
  refine (few7_calls _ _ _ ax _ _ HN.out (HR.out.below (HKW.out _ HK1.out)) HL.out HW.out).mono ?_
  rintro e w2 ⟨r, rfl, hb⟩
  have HK2 := Lib.hid (HKN.out _ _ HK1.out hb)
  clear hb HK1
  have hk0 := HKC.out _ HK2.out
  have hk1 := HKD.out _ HK2.out
  by_cases gg : r = true ∧ ¬ 40 < m ∧ ¬ 40 < my ∧ ¬ 10 < s ∧ ¬ (32 < a0 ∧ a0 ≤ 4096)
  case neg =>
    cases r
    case' true =>
      by_cases g0 : 40 < m
      case' pos => have f0 : decide (40 < (m : Int)) = true := by simp; omega
      case' neg =>
        have f0 : decide (40 < (m : Int)) = false := by simp; omega
        by_cases g1 : 40 < my
        case' pos => have f1 : decide (40 < (my : Int)) = true := by simp; omega
        case' neg =>
          have f1 : decide (40 < (my : Int)) = false := by simp; omega
          by_cases g2 : 10 < s
          case' pos => have f2 : decide (10 < (s : Int)) = true := by simp; omega
          case' neg =>
            have f2 : decide (10 < (s : Int)) = false := by simp; omega
            by_cases g3 : 32 < a0 ∧ a0 ≤ 4096
            case neg => exact absurd ⟨rfl, g0, g1, g2, g3⟩ gg
            have f3 : decide (32 < a0) = true := by simp; omega
            have f4 : decide (a0 ≤ 4096) = true := by simp; omega
            clear g3
    all_goals
      clear gg
      go_wp2
      go_ret
      exact ⟨rfl, HKW.out _ HK2.out⟩
  obtain ⟨rfl, g0, g1, g2, g3⟩ := gg
  have f0 : decide (40 < (m : Int)) = false := by simp; omega
  have f1 : decide (40 < (my : Int)) = false := by simp; omega
  have f2 : decide (10 < (s : Int)) = false := by simp; omega
  by_cases g4 : 32 < a0
  case' pos =>
    have f3 : decide (32 < a0) = true := by simp; omega
    have f4 : decide (a0 ≤ 4096) = false := by simp; omega
  case' neg =>
    have f3 : decide (32 < a0) = false := by simp; omega
  all_goals
    clear g0 g1 g2 g3 g4
    go_wp2_with fail
    refine (wgt_calls p a0 a1 inv i z _ HP.out HA0.out HII.out HZZ.out (HT.out.below (HKW.out _ HK2.out))).mono ?_
    rw [H1.out]
    rintro e w3 ⟨rfl, hb⟩
    have HK3 := Lib.hid (HKN.out _ _ HK2.out hb)
    clear hb hk0 hk1 HK2
    have hk0 := HKC.out _ HK3.out
    have hk1 := HKD.out _ HK3.out
    go_wp2_with fail
    refine (rwgt9_calls p a0 a1 inv i z _ HP.out HA0.out HII.out HZZ.out).mono ?_
    rw [H1.out]
    rintro e w4 ⟨rfl, hb⟩
    have HK4 := Lib.hid (HKN.out _ _ HK3.out hb)
    clear hb hk0 hk1 HK3
    have hk0 := HKC.out _ HK4.out
    have hk1 := HKD.out _ HK4.out
    go_wp2_with fail
    refine (exp_calls p _ _ _ ax inv _ _ _ x z _ HN.out HM.out HP.out (HR.out.below (HKW.out _ HK4.out)) HL.out HW.out (HRX.out.below (HKW.out _ HK4.out)) HLM.out HU.out HZZ.out (HT.out.below (HKW.out _ HK4.out))).mono ?_
    rw [H2.out]
    rintro e w5 ⟨rfl, hb⟩
    have HK5 := Lib.hid (HKN.out _ _ HK4.out hb)
    clear hb hk0 hk1 HK4
    have hk0 := HKC.out _ HK5.out
    have hk1 := HKD.out _ HK5.out
    go_wp2_with fail
    refine (rexp9_calls p _ _ _ ax inv _ _ _ x z _ HN.out HM.out HP.out (HR.out.below (HKW.out _ HK5.out)) HL.out HW.out (HRX.out.below (HKW.out _ HK5.out)) HLM.out HU.out HZZ.out).mono ?_
    rw [H2.out]
    rintro e w6 ⟨rfl, hb⟩
    have HK6 := Lib.hid (HKN.out _ _ HK5.out hb)
    clear hb hk0 hk1 HK5
    have hk0 := HKC.out _ HK6.out
    have hk1 := HKD.out _ HK6.out
    go_wp2_with fail
    refine (chk9_calls p _ _ _ ax inv _ _ _ x _ _ _ y _ _ _ sd _ HN.out HM.out HMY.out HS.out HP.out (HR.out.below (HKW.out _ HK6.out)) HL.out HW.out (HRX.out.below (HKW.out _ HK6.out)) HLM.out HU.out (HRY.out.below (HKW.out _ HK6.out)) HLY.out HUY.out (HRS.out.below (HKW.out _ HK6.out)) HLS.out HUS.out (HT.out.below (HKW.out _ HK6.out))).mono ?_
    rw [H3.out]
    rintro e w7 ⟨rfl, hb⟩
    have HK7 := Lib.hid (HKN.out _ _ HK6.out hb)
    clear hb hk0 hk1 HK6
    have hk0 := HKC.out _ HK7.out
    have hk1 := HKD.out _ HK7.out
    go_wp2_with fail
    refine (rchk9_calls p _ _ _ ax inv _ _ _ x _ _ _ y _ _ _ sd _ HN.out HM.out HMY.out HS.out HP.out (HR.out.below (HKW.out _ HK7.out)) HL.out HW.out (HRX.out.below (HKW.out _ HK7.out)) HLM.out HU.out (HRY.out.below (HKW.out _ HK7.out)) HLY.out HUY.out (HRS.out.below (HKW.out _ HK7.out)) HLS.out HUS.out).mono ?_
    rw [H3.out]
    rintro e w8 ⟨rfl, hb⟩
    have HK8 := Lib.hid (HKN.out _ _ HK7.out hb)
    clear hb hk0 hk1 HK7
    have hk0 := HKC.out _ HK8.out
    have hk1 := HKD.out _ HK8.out
    go_wp2
    go_ret
    exact ⟨by first | rfl | (simp; done), HKW.out _ HK8.out⟩
end Go.Proofs.YtnlmmgcjhedjkaaDoor.P
