
/- The contract of step.words. Conditions: words of their kinds; slices read as lists; the library's table lies as it was laid. -/
import Derived.Test.YtohcoidbncbijaaDoorStE
import Derived.Test.YtohcoidbncbijaaDoorDftL
namespace Go.Proofs.YtohcoidbncbijaaDoor.P
open Go.RowKit
set_option linter.unusedVariables false
set_option linter.unusedSimpArgs false
set_option maxRecDepth 100000 in
set_option maxHeartbeats 2000000 in
theorem swrd_calls (p : Int) (A : Option Addr) (c n : Nat) (ax : List (Int × Bool)) (s0 : Int) (s1 : Bool) (s2 s3 s4 : Int) (X : Option Addr) (cx m : Nat) (x : List Int) (w : World) (hn : ax.length = n) (hm : x.length = m) (hp : U64 p) (hr : Row w A (axR ax)) (hl : n ≤ 8796093022208) (hw : ∀ a ∈ ax, i64 a.1)
    (hrx : Row w X (nums .u64 x)) (hlm : m ≤ 9223372036854775807) (hT : Tab w) :
    Calls Tryd.prog 75 #[.int .u64 p, .slice A n c, .agg #[.int .i64 s0, .bool s1, .int .i64 s2, .int .i64 s3, .int .i64 s4], .slice X m cx] w fun e w' => e = .returned (.int .i64 (wrd16 p ax (s0, s1, s2, s3, s4) x)) ∧ Below w.heap.size w w' := by
  have HP := Lib.hid hp
  have HR := Lib.hid hr
  have HRX := Lib.hid hrx
  have HN := Lib.hid hn
  have HM := Lib.hid hm
  have HW := Lib.hid hw
  have HT := Lib.hid hT
  clear hp hr hrx hn hm hw hT
  obtain ⟨KB, hKB⟩ : ∃ KB : World → Prop, KB = fun ws => Below w.heap.size w ws ∧ w.heap.size < ws.heap.size ∧ ws.cell? ⟨w.heap.size, 0, none⟩ = some (.int .i64 s0) ∧ ws.cell? ⟨w.heap.size, 1, none⟩ = some (.bool s1) ∧ ws.cell? ⟨w.heap.size, 2, none⟩ = some (.int .i64 s2) ∧ ws.cell? ⟨w.heap.size, 3, none⟩ = some (.int .i64 s3) ∧ ws.cell? ⟨w.heap.size, 4, none⟩ = some (.int .i64 s4) := ⟨_, rfl⟩
  have HK0 : Hid (KB (w.alloc (.cells #[.int .i64 s0, .bool s1, .int .i64 s2, .int .i64 s3, .int .i64 s4] 39))) := Lib.hid (by rw [hKB]; exact ⟨(Below.refl _ _).alloc (Nat.le_refl _) _, by simp, World.news_of_block (cs := #[.int .i64 s0, .bool s1, .int .i64 s2, .int .i64 s3, .int .i64 s4]) (t := 39) (fr := (0, 0)) (heap_alloc_new w _) 0 _ rfl, World.news_of_block (cs := #[.int .i64 s0, .bool s1, .int .i64 s2, .int .i64 s3, .int .i64 s4]) (t := 39) (fr := (0, 0)) (heap_alloc_new w _) 1 _ rfl, World.news_of_block (cs := #[.int .i64 s0, .bool s1, .int .i64 s2, .int .i64 s3, .int .i64 s4]) (t := 39) (fr := (0, 0)) (heap_alloc_new w _) 2 _ rfl, World.news_of_block (cs := #[.int .i64 s0, .bool s1, .int .i64 s2, .int .i64 s3, .int .i64 s4]) (t := 39) (fr := (0, 0)) (heap_alloc_new w _) 3 _ rfl, World.news_of_block (cs := #[.int .i64 s0, .bool s1, .int .i64 s2, .int .i64 s3, .int .i64 s4]) (t := 39) (fr := (0, 0)) (heap_alloc_new w _) 4 _ rfl⟩)
  have HKW : Hid (∀ ws, KB ws → Below w.heap.size w ws) := Lib.hid fun ws h => by rw [hKB] at h; exact h.1
  have HKN : Hid (∀ ws ws', KB ws → Below ws.heap.size ws ws' → KB ws') := Lib.hid fun ws ws' h hb => by
    rw [hKB] at h ⊢
    obtain ⟨h1, h4, c0, c1, c2, c3, c4⟩ := h
    exact ⟨h1.trans (hb.mono (Nat.le_of_lt h4)), Nat.lt_of_lt_of_le h4 hb.size, (hb.cell h4).trans c0, (hb.cell h4).trans c1, (hb.cell h4).trans c2, (hb.cell h4).trans c3, (hb.cell h4).trans c4⟩
  have HKC : Hid (∀ ws, KB ws → ws.cell? ⟨w.heap.size, 0, none⟩ = some (.int .i64 s0) ∧ ws.cell? ⟨w.heap.size, 1, none⟩ = some (.bool s1) ∧ ws.cell? ⟨w.heap.size, 2, none⟩ = some (.int .i64 s2) ∧ ws.cell? ⟨w.heap.size, 3, none⟩ = some (.int .i64 s3) ∧ ws.cell? ⟨w.heap.size, 4, none⟩ = some (.int .i64 s4)) := Lib.hid fun ws h => by rw [hKB] at h; exact h.2.2
  clear hKB
  by_cases hc : chk16 p ax (s0, s1, s2, s3, s4) = 0
  case neg =>
    have HF : Hid (wrd16 p ax (s0, s1, s2, s3, s4) x = chk16 p ax (s0, s1, s2, s3, s4)) := Lib.hid (by rw [wrd16, if_neg hc])
    have t0 : (chk16 p ax (s0, s1, s2, s3, s4) != 0) = true := by simpa using hc
    rw [HF.out]
    clear hc
    go_enter Tryd.func75, Tryd.ntmps75
    go_wp2_with fail
    generalize (w.alloc (.cells #[.int .i64 s0, .bool s1, .int .i64 s2, .int .i64 s3, .int .i64 s4] 39)) = V0 at *
    refine (schk_calls p _ _ _ ax s0 s1 s2 s3 s4 _ HN.out HP.out (HR.out.below (HKW.out _ HK0.out)) hl HW.out (HT.out.below (HKW.out _ HK0.out))).mono ?_
    rintro e w2 ⟨rfl, hb⟩
    have HK2 := Lib.hid (HKN.out _ _ HK0.out hb)
    clear hb
    go_wp2
    go_ret
    exact ⟨rfl, HKW.out _ HK2.out⟩
  have HC := Lib.hid hc
  obtain ⟨k, N, neg, hK⟩ := chk16_ok hc
  have hd7 := hK.chk.dims
  have HDN : Hid ((dimsA ax).length = n) := Lib.hid (by rw [dimsA_length]; exact HN.out)
  have HDW := Lib.hid (dimsA_i64 HW.out)
  have HAL := Lib.hid (allS_yes hd7)
  have hl2 : n ≤ 9223372036854775807 := by omega
  have HX : Hid (wrd16 p ax (s0, s1, s2, s3, s4) x = if prodL (dimsA ax) = (m : Int) then (if inS p x then 0 else 7) else 6) := Lib.hid (by rw [wrd16, if_pos hc, HM.out])
  clear hc hK hd7
  generalize prodL (dimsA ax) = P0 at *
  by_cases h6 : P0 = (m : Int)
  case neg =>
    have HF : Hid (wrd16 p ax (s0, s1, s2, s3, s4) x = 6) := Lib.hid (by rw [HX.out, if_neg h6])
    have t6 : (P0 != (m : Int)) = true := by simpa using h6
    rw [HF.out]
    clear h6
    go_enter Tryd.func75, Tryd.ntmps75
    go_wp2_with fail
    generalize (w.alloc (.cells #[.int .i64 s0, .bool s1, .int .i64 s2, .int .i64 s3, .int .i64 s4] 39)) = V0 at *
    refine (schk_calls p _ _ _ ax s0 s1 s2 s3 s4 _ HN.out HP.out (HR.out.below (HKW.out _ HK0.out)) hl HW.out (HT.out.below (HKW.out _ HK0.out))).mono ?_
    rw [HC.out]
    rintro e w2 ⟨rfl, hb⟩
    have HK2 := Lib.hid (HKN.out _ _ HK0.out hb)
    clear hb
    go_wp2_with fail
    refine (dims7_calls _ _ _ ax _ HN.out (HR.out.below (HKW.out _ HK2.out)) hl).mono ?_
    rintro e w3 ⟨D, rfl, ho, hb⟩
    have HK3 := Lib.hid (HKN.out _ _ HK2.out hb)
    have HRD := Lib.hid ho.row
    clear hb ho
    go_wp2_with fail
    refine (all_n D n n (dimsA ax) w3 HDN.out HRD.out hl2 HDW.out).mono ?_
    rw [HAL.out]
    rintro e w4 ⟨rfl, rfl⟩
    go_wp2
    go_ret
    exact ⟨rfl, HKW.out _ HK3.out⟩
  subst h6
  have t6 : ((m : Int) != (m : Int)) = false := by simp
  cases hi : inS p x
  · have HF : Hid (wrd16 p ax (s0, s1, s2, s3, s4) x = 7) := Lib.hid (by rw [HX.out, if_pos rfl, hi]; rfl)
    have HI := Lib.hid hi
    rw [HF.out]
    clear hi
    go_enter Tryd.func75, Tryd.ntmps75
    go_wp2_with fail
    generalize (w.alloc (.cells #[.int .i64 s0, .bool s1, .int .i64 s2, .int .i64 s3, .int .i64 s4] 39)) = V0 at *
    refine (schk_calls p _ _ _ ax s0 s1 s2 s3 s4 _ HN.out HP.out (HR.out.below (HKW.out _ HK0.out)) hl HW.out (HT.out.below (HKW.out _ HK0.out))).mono ?_
    rw [HC.out]
    rintro e w2 ⟨rfl, hb⟩
    have HK2 := Lib.hid (HKN.out _ _ HK0.out hb)
    clear hb
    go_wp2_with fail
    refine (dims7_calls _ _ _ ax _ HN.out (HR.out.below (HKW.out _ HK2.out)) hl).mono ?_
    rintro e w3 ⟨D, rfl, ho, hb⟩
    have HK3 := Lib.hid (HKN.out _ _ HK2.out hb)
    have HRD := Lib.hid ho.row
    clear hb ho
    go_wp2_with fail
    refine (all_n D n n (dimsA ax) w3 HDN.out HRD.out hl2 HDW.out).mono ?_
    rw [HAL.out]
    rintro e w4 ⟨rfl, rfl⟩
    go_wp2_with fail
    refine (in_n p X cx m x _ HM.out (HRX.out.below (HKW.out _ HK3.out)) hlm).mono ?_
    rw [HI.out]
    rintro e w5 ⟨rfl, rfl⟩
    go_wp2
    go_ret
    exact ⟨rfl, HKW.out _ HK3.out⟩
  · have HF : Hid (wrd16 p ax (s0, s1, s2, s3, s4) x = 0) := Lib.hid (by rw [HX.out, if_pos rfl, hi]; rfl)
    have HI := Lib.hid hi
    rw [HF.out]
    clear hi
    go_enter Tryd.func75, Tryd.ntmps75
    go_wp2_with fail
    generalize (w.alloc (.cells #[.int .i64 s0, .bool s1, .int .i64 s2, .int .i64 s3, .int .i64 s4] 39)) = V0 at *
    refine (schk_calls p _ _ _ ax s0 s1 s2 s3 s4 _ HN.out HP.out (HR.out.below (HKW.out _ HK0.out)) hl HW.out (HT.out.below (HKW.out _ HK0.out))).mono ?_
    rw [HC.out]
    rintro e w2 ⟨rfl, hb⟩
    have HK2 := Lib.hid (HKN.out _ _ HK0.out hb)
    clear hb
    go_wp2_with fail
    refine (dims7_calls _ _ _ ax _ HN.out (HR.out.below (HKW.out _ HK2.out)) hl).mono ?_
    rintro e w3 ⟨D, rfl, ho, hb⟩
    have HK3 := Lib.hid (HKN.out _ _ HK2.out hb)
    have HRD := Lib.hid ho.row
    clear hb ho
    go_wp2_with fail
    refine (all_n D n n (dimsA ax) w3 HDN.out HRD.out hl2 HDW.out).mono ?_
    rw [HAL.out]
    rintro e w4 ⟨rfl, rfl⟩
    go_wp2_with fail
    refine (in_n p X cx m x _ HM.out (HRX.out.below (HKW.out _ HK3.out)) hlm).mono ?_
    rw [HI.out]
    rintro e w5 ⟨rfl, rfl⟩
    go_wp2
    go_ret
    exact ⟨rfl, HKW.out _ HK3.out⟩
end Go.Proofs.YtohcoidbncbijaaDoor.P
