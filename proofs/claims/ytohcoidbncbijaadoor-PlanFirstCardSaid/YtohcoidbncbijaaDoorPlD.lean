
/- The contract of plan.Check. Conditions: words of their kinds; slices read as lists; the library's table lies as it was laid. -/
import Derived.Test.YtohcoidbncbijaaDoorPlC
namespace Go.Proofs.YtohcoidbncbijaaDoor.P
open Go.RowKit
set_option linter.unusedVariables false
set_option linter.unusedSimpArgs false
theorem look_at0 (f0 : Array Value) (w : World) : (Instr.index 99 (.agg #[.func (.func 66) #[] f0, .int .i64 6, .func (.func 67) #[] #[], .int .i64 7, .func (.func 68) #[] #[], .int .i64 8]) (.int .i64 0)).run Tryd.prog w = .ok (.agg #[.func (.func 66) #[] f0, .int .i64 6]) w := by kernel_rfl
theorem look_at1 (f0 : Array Value) (w : World) : (Instr.index 99 (.agg #[.func (.func 66) #[] f0, .int .i64 6, .func (.func 67) #[] #[], .int .i64 7, .func (.func 68) #[] #[], .int .i64 8]) (.int .i64 1)).run Tryd.prog w = .ok (.agg #[.func (.func 67) #[] #[], .int .i64 7]) w := by kernel_rfl
theorem look_at2 (f0 : Array Value) (w : World) : (Instr.index 99 (.agg #[.func (.func 66) #[] f0, .int .i64 6, .func (.func 67) #[] #[], .int .i64 7, .func (.func 68) #[] #[], .int .i64 8]) (.int .i64 2)).run Tryd.prog w = .ok (.agg #[.func (.func 68) #[] #[], .int .i64 8]) w := by kernel_rfl
set_option maxRecDepth 100000 in
set_option maxHeartbeats 4000000 in
theorem chk17_calls (p : Int) (A : Option Addr) (ca n : Nat) (inv : Bool) (b : Int) (X : Option Addr) (cx m : Nat) (S : Option Addr) (cs s : Nat) (rt ag : Int) (ax : List (Int × Bool)) (x sd : List Int) (w : World) (hn : ax.length = n) (hm : x.length = m) (hs : sd.length = s) (hp : U64 p) (hr : Row w A (axR ax)) (hl : n ≤ 8796093022208) (hw : ∀ a ∈ ax, i64 a.1)
    (hrx : Row w X (nums .u64 x)) (hlm : m ≤ 9223372036854775807) (hT : Tab w) :
    Calls Tryd.prog 29 #[.agg #[.int .u64 p, .slice A n ca, .bool inv, .int .i64 b, .slice X m cx, .slice S s cs, .int .i64 rt, .int .i64 ag]] w fun e w' => e = .returned (.int .i64 (chk17 p ax b rt ag x sd)) ∧ Below w.heap.size w w' := by
  have HP := Lib.hid hp
  have HR := Lib.hid hr
  have HRX := Lib.hid hrx
  have HN := Lib.hid hn
  have HM := Lib.hid hm
  have HS := Lib.hid hs
  have HW := Lib.hid hw
  have HT := Lib.hid hT
  clear hp hr hrx hn hm hs hw hT
  obtain ⟨KB, hKB⟩ : ∃ KB : World → Prop, KB = fun ws => Below w.heap.size w ws ∧ w.heap.size < ws.heap.size ∧ ws.cell? ⟨w.heap.size, 0, none⟩ = some (.int .u64 p) ∧ ws.cell? ⟨w.heap.size, 1, none⟩ = some (.slice A n ca) ∧ ws.cell? ⟨w.heap.size, 2, none⟩ = some (.bool inv) ∧ ws.cell? ⟨w.heap.size, 3, none⟩ = some (.int .i64 b) ∧ ws.cell? ⟨w.heap.size, 4, none⟩ = some (.slice X m cx) ∧ ws.cell? ⟨w.heap.size, 5, none⟩ = some (.slice S s cs) ∧ ws.cell? ⟨w.heap.size, 6, none⟩ = some (.int .i64 rt) ∧ ws.cell? ⟨w.heap.size, 7, none⟩ = some (.int .i64 ag) := ⟨_, rfl⟩
  have HK0 : Hid (KB (w.alloc (.cells #[.int .u64 p, .slice A n ca, .bool inv, .int .i64 b, .slice X m cx, .slice S s cs, .int .i64 rt, .int .i64 ag] 43))) := Lib.hid (by rw [hKB]; exact ⟨(Below.refl _ _).alloc (Nat.le_refl _) _, by simp, World.news_of_block (cs := #[.int .u64 p, .slice A n ca, .bool inv, .int .i64 b, .slice X m cx, .slice S s cs, .int .i64 rt, .int .i64 ag]) (t := 43) (fr := (0, 0)) (heap_alloc_new w _) 0 _ rfl, World.news_of_block (cs := #[.int .u64 p, .slice A n ca, .bool inv, .int .i64 b, .slice X m cx, .slice S s cs, .int .i64 rt, .int .i64 ag]) (t := 43) (fr := (0, 0)) (heap_alloc_new w _) 1 _ rfl, World.news_of_block (cs := #[.int .u64 p, .slice A n ca, .bool inv, .int .i64 b, .slice X m cx, .slice S s cs, .int .i64 rt, .int .i64 ag]) (t := 43) (fr := (0, 0)) (heap_alloc_new w _) 2 _ rfl, World.news_of_block (cs := #[.int .u64 p, .slice A n ca, .bool inv, .int .i64 b, .slice X m cx, .slice S s cs, .int .i64 rt, .int .i64 ag]) (t := 43) (fr := (0, 0)) (heap_alloc_new w _) 3 _ rfl, World.news_of_block (cs := #[.int .u64 p, .slice A n ca, .bool inv, .int .i64 b, .slice X m cx, .slice S s cs, .int .i64 rt, .int .i64 ag]) (t := 43) (fr := (0, 0)) (heap_alloc_new w _) 4 _ rfl, World.news_of_block (cs := #[.int .u64 p, .slice A n ca, .bool inv, .int .i64 b, .slice X m cx, .slice S s cs, .int .i64 rt, .int .i64 ag]) (t := 43) (fr := (0, 0)) (heap_alloc_new w _) 5 _ rfl, World.news_of_block (cs := #[.int .u64 p, .slice A n ca, .bool inv, .int .i64 b, .slice X m cx, .slice S s cs, .int .i64 rt, .int .i64 ag]) (t := 43) (fr := (0, 0)) (heap_alloc_new w _) 6 _ rfl, World.news_of_block (cs := #[.int .u64 p, .slice A n ca, .bool inv, .int .i64 b, .slice X m cx, .slice S s cs, .int .i64 rt, .int .i64 ag]) (t := 43) (fr := (0, 0)) (heap_alloc_new w _) 7 _ rfl⟩)
  have HKW : Hid (∀ ws, KB ws → Below w.heap.size w ws) := Lib.hid fun ws h => by rw [hKB] at h; exact h.1
  have HKN : Hid (∀ ws ws', KB ws → Below ws.heap.size ws ws' → KB ws') := Lib.hid fun ws ws' h hb => by
    rw [hKB] at h ⊢
    obtain ⟨h1, h4, c0, c1, c2, c3, c4, c5, c6, c7⟩ := h
    exact ⟨h1.trans (hb.mono (Nat.le_of_lt h4)), Nat.lt_of_lt_of_le h4 hb.size, (hb.cell h4).trans c0, (hb.cell h4).trans c1, (hb.cell h4).trans c2, (hb.cell h4).trans c3, (hb.cell h4).trans c4, (hb.cell h4).trans c5, (hb.cell h4).trans c6, (hb.cell h4).trans c7⟩
  have HKS : Hid (∀ ws, KB ws → w.heap.size < ws.heap.size) := Lib.hid fun ws h => by rw [hKB] at h; exact h.2.1
  have HKC : Hid (∀ ws, KB ws → ws.cell? ⟨w.heap.size, 0, none⟩ = some (.int .u64 p) ∧ ws.cell? ⟨w.heap.size, 1, none⟩ = some (.slice A n ca) ∧ ws.cell? ⟨w.heap.size, 2, none⟩ = some (.bool inv) ∧ ws.cell? ⟨w.heap.size, 3, none⟩ = some (.int .i64 b) ∧ ws.cell? ⟨w.heap.size, 4, none⟩ = some (.slice X m cx) ∧ ws.cell? ⟨w.heap.size, 5, none⟩ = some (.slice S s cs) ∧ ws.cell? ⟨w.heap.size, 6, none⟩ = some (.int .i64 rt) ∧ ws.cell? ⟨w.heap.size, 7, none⟩ = some (.int .i64 ag)) := Lib.hid fun ws h => by rw [hKB] at h; exact h.2.2
  clear hKB
  have HCK : Hid (chk17 p ax b rt ag x sd = if (btw b 1 16 && btw rt 0 8 && btw ag 0 8) = true then (if chk7 p ax = 0 then (if (m : Int) = prodL (dimsA ax) * b then (if inS p x = true then (if btw s 1 4 = true then 0 else 8) else 7) else 6) else chk7 p ax) else 1) := Lib.hid (by rw [chk17, HM.out, HS.out])
  obtain ⟨b1, hb1⟩ : ∃ b1, btw b 1 16 = b1 := ⟨_, rfl⟩
  obtain ⟨b2, hb2⟩ : ∃ b2, btw rt 0 8 = b2 := ⟨_, rfl⟩
  obtain ⟨b3, hb3⟩ : ∃ b3, btw ag 0 8 = b3 := ⟨_, rfl⟩
  rw [hb1, hb2, hb3] at HCK
  have HB1 := Lib.hid hb1
  have HB2 := Lib.hid hb2
  have HB3 := Lib.hid hb3
  clear hb1 hb2 hb3
  cases b1
  case false =>
    have HF : Hid (chk17 p ax b rt ag x sd = 1) := Lib.hid (by rw [HCK.out]; rfl)
    rw [HF.out]
    go_enter Tryd.func29, Tryd.ntmps29
    go_wp2_with fail
    generalize (w.alloc (.cells #[.int .u64 p, .slice A n ca, .bool inv, .int .i64 b, .slice X m cx, .slice S s cs, .int .i64 rt, .int .i64 ag] 43)) = V0 at *
    obtain ⟨hk0, hk1, hk2, hk3, hk4, hk5, hk6, hk7⟩ := HKC.out _ HK0.out
    refine (between_calls b 1 16 _).mono ?_
    rw [HB1.out]
    rintro e w1 ⟨rfl, rfl⟩
    go_wp2
    go_ret
    exact ⟨rfl, HKW.out _ HK0.out⟩
  cases b2
  case false =>
    have HF : Hid (chk17 p ax b rt ag x sd = 1) := Lib.hid (by rw [HCK.out]; simp)
    rw [HF.out]
    go_enter Tryd.func29, Tryd.ntmps29
    go_wp2_with fail
    generalize (w.alloc (.cells #[.int .u64 p, .slice A n ca, .bool inv, .int .i64 b, .slice X m cx, .slice S s cs, .int .i64 rt, .int .i64 ag] 43)) = V0 at *
    obtain ⟨hk0, hk1, hk2, hk3, hk4, hk5, hk6, hk7⟩ := HKC.out _ HK0.out
    refine (between_calls b 1 16 _).mono ?_
    rw [HB1.out]
    rintro e w1 ⟨rfl, rfl⟩
    go_wp2_with fail
    refine (between_calls rt 0 8 _).mono ?_
    rw [HB2.out]
    rintro e w1 ⟨rfl, rfl⟩
    go_wp2
    go_ret
    exact ⟨rfl, HKW.out _ HK0.out⟩
  cases b3
  case false =>
    have HF : Hid (chk17 p ax b rt ag x sd = 1) := Lib.hid (by rw [HCK.out]; simp)
    rw [HF.out]
    go_enter Tryd.func29, Tryd.ntmps29
    go_wp2_with fail
    generalize (w.alloc (.cells #[.int .u64 p, .slice A n ca, .bool inv, .int .i64 b, .slice X m cx, .slice S s cs, .int .i64 rt, .int .i64 ag] 43)) = V0 at *
    obtain ⟨hk0, hk1, hk2, hk3, hk4, hk5, hk6, hk7⟩ := HKC.out _ HK0.out
    refine (between_calls b 1 16 _).mono ?_
    rw [HB1.out]
    rintro e w1 ⟨rfl, rfl⟩
    go_wp2_with fail
    refine (between_calls rt 0 8 _).mono ?_
    rw [HB2.out]
    rintro e w1 ⟨rfl, rfl⟩
    go_wp2_with fail
    refine (between_calls ag 0 8 _).mono ?_
    rw [HB3.out]
    rintro e w1 ⟨rfl, rfl⟩
    go_wp2
    go_ret
    exact ⟨rfl, HKW.out _ HK0.out⟩
  by_cases hc : chk7 p ax = 0
  case neg =>
    have HF : Hid (chk17 p ax b rt ag x sd = chk7 p ax) := Lib.hid (by rw [HCK.out, if_pos (show (true && true && true) = true from rfl), if_neg hc])
    have t0 : (chk7 p ax != 0) = true := by simpa using hc
    rw [HF.out]
    clear hc
    go_enter Tryd.func29, Tryd.ntmps29
    go_wp2_with fail
    generalize (w.alloc (.cells #[.int .u64 p, .slice A n ca, .bool inv, .int .i64 b, .slice X m cx, .slice S s cs, .int .i64 rt, .int .i64 ag] 43)) = V0 at *
    obtain ⟨hk0, hk1, hk2, hk3, hk4, hk5, hk6, hk7⟩ := HKC.out _ HK0.out
    refine (between_calls b 1 16 _).mono ?_
    rw [HB1.out]
    rintro e w1 ⟨rfl, rfl⟩
    go_wp2_with fail
    refine (between_calls rt 0 8 _).mono ?_
    rw [HB2.out]
    rintro e w1 ⟨rfl, rfl⟩
    go_wp2_with fail
    refine (between_calls ag 0 8 _).mono ?_
    rw [HB3.out]
    rintro e w1 ⟨rfl, rfl⟩
    go_wp2_with fail
    refine (chk7_calls p _ _ _ ax _ HN.out HP.out (HR.out.below (HKW.out _ HK0.out)) hl HW.out (HT.out.below (HKW.out _ HK0.out))).mono ?_
    rintro e w2 ⟨rfl, hb⟩
    have HK2 := Lib.hid (HKN.out _ _ HK0.out hb)
    clear hb
    go_wp2
    go_ret
    exact ⟨rfl, HKW.out _ HK2.out⟩
  have HC := Lib.hid hc
  have hk7 := chk7_ok hc
  have HDN : Hid ((dimsA ax).length = n) := Lib.hid (by rw [dimsA_length]; exact HN.out)
  have HDW := Lib.hid (dimsA_i64 HW.out)
  have HAL := Lib.hid (allS_yes hk7.dims)
  have HN1 : Hid (0 ≤ prodL (dimsA ax)) := Lib.hid (by have := hk7.dims.pos.prod; omega)
  have HN4 : Hid (prodL (dimsA ax) ≤ 4096) := Lib.hid hk7.dims.all
  have HBB : Hid (1 ≤ b ∧ b ≤ 16) := Lib.hid (by have h := HB1.out; unfold btw at h; simp at h; exact h)
  have hl2 : n ≤ 9223372036854775807 := by omega
  have t0 : (chk7 p ax != 0) = false := by rw [hc]; rfl
  rw [if_pos (show (true && true && true) = true from rfl), if_pos hc] at HCK
  clear hc hk7
  generalize prodL (dimsA ax) = N at *
  by_cases h6 : (m : Int) = N * b
  case neg =>
    have HF : Hid (chk17 p ax b rt ag x sd = 6) := Lib.hid (by rw [HCK.out, if_neg h6])
    have t6 : ((m : Int) != N * b) = true := by simpa using h6
    rw [HF.out]
    clear h6
    go_enter Tryd.func29, Tryd.ntmps29
    go_wp2_with fail
    generalize (w.alloc (.cells #[.int .u64 p, .slice A n ca, .bool inv, .int .i64 b, .slice X m cx, .slice S s cs, .int .i64 rt, .int .i64 ag] 43)) = V0 at *
    obtain ⟨hk0, hk1, hk2, hk3, hk4, hk5, hk6, hk7⟩ := HKC.out _ HK0.out
    refine (between_calls b 1 16 _).mono ?_
    rw [HB1.out]
    rintro e w1 ⟨rfl, rfl⟩
    go_wp2_with fail
    refine (between_calls rt 0 8 _).mono ?_
    rw [HB2.out]
    rintro e w1 ⟨rfl, rfl⟩
    go_wp2_with fail
    refine (between_calls ag 0 8 _).mono ?_
    rw [HB3.out]
    rintro e w1 ⟨rfl, rfl⟩
    go_wp2_with fail
    refine (chk7_calls p _ _ _ ax _ HN.out HP.out (HR.out.below (HKW.out _ HK0.out)) hl HW.out (HT.out.below (HKW.out _ HK0.out))).mono ?_
    rw [HC.out]
    rintro e w2 ⟨rfl, hb⟩
    have HK2 := Lib.hid (HKN.out _ _ HK0.out hb)
    clear hb hk0 hk1 hk2 hk3 hk4 hk5 hk6 hk7
    obtain ⟨hk0, hk1, hk2, hk3, hk4, hk5, hk6, hk7⟩ := HKC.out _ HK2.out
    go_wp2_with fail
    refine (dims7_calls _ _ _ ax _ HN.out (HR.out.below (HKW.out _ HK2.out)) hl).mono ?_
    rintro e w3 ⟨D, rfl, ho, hb⟩
    have HK3 := Lib.hid (HKN.out _ _ HK2.out hb)
    have HRD := Lib.hid ho.row
    clear hb ho hk0 hk1 hk2 hk3 hk4 hk5 hk6 hk7
    obtain ⟨hk0, hk1, hk2, hk3, hk4, hk5, hk6, hk7⟩ := HKC.out _ HK3.out
    go_wp2_with fail
    refine (all_n D n n (dimsA ax) w3 HDN.out HRD.out hl2 HDW.out).mono ?_
    rw [HAL.out]
    rintro e w4 ⟨rfl, rfl⟩
    have HK4 := Lib.hid (HKN.out _ _ HK3.out ((Below.refl _ _).alloc (Nat.le_refl _) (.cells #[.int .i64 N] 3)))
    have hnc : (w4.alloc (.cells #[.int .i64 N] 3)).cell? ⟨w4.heap.size, 0, none⟩ = some (.int .i64 N) := World.news_of_block (cs := #[.int .i64 N]) (t := 3) (fr := (0, 0)) (heap_alloc_new w4 _) 0 _ rfl
    have HSZ : Hid (w4.heap.size < (w4.alloc (.cells #[.int .i64 N] 3)).heap.size) := Lib.hid (by simp)
    have HNC := Lib.hid hnc
    clear hnc hk0 hk1 hk2 hk3 hk4 hk5 hk6 hk7
    obtain ⟨hk0, hk1, hk2, hk3, hk4, hk5, hk6, hk7⟩ := HKC.out _ HK4.out
    go_wp2
    refine wp_loop_rounds 4 ?_
    have HNW : Hid (∀ ws, Below (w4.alloc (.cells #[.int .i64 N] 3)).heap.size (w4.alloc (.cells #[.int .i64 N] 3)) ws → ws.cell? ⟨w4.heap.size, 0, none⟩ = some (.int .i64 N)) := Lib.hid fun ws h => (h.cell (p := ⟨w4.heap.size, 0, none⟩) HSZ.out).trans HNC.out
    have HBW4 : Hid (Below (w4.alloc (.cells #[.int .i64 N] 3)).heap.size (w4.alloc (.cells #[.int .i64 N] 3)) (w4.alloc (.cells #[.int .i64 N] 3))) := Lib.hid (Below.refl _ _)
    clear HNC HSZ hk0 hk1 hk2 hk3 hk4 hk5 hk6 hk7
    generalize hWW : (w4.alloc (.cells #[.int .i64 N] 3)) = u0 at *
    clear hWW
    generalize w4.heap.size = nb at *
    rw [rounds_succ]
    have hbv0 : Below u0.heap.size u0 (u0.alloc (.cells #[.func (.func 66) #[] #[.pointer (some ⟨nb, 0, none⟩)], .int .i64 6] 98)) := (Below.refl _ _).alloc (Nat.le_refl _) _
    have HV0 := Lib.hid (HKN.out _ _ HK4.out hbv0)
    have HBV0 := Lib.hid (blT HBW4.out hbv0)
    have HE0 : Hid ((u0.alloc (.cells #[.func (.func 66) #[] #[.pointer (some ⟨nb, 0, none⟩)], .int .i64 6] 98)).cell? ⟨u0.heap.size, 1, none⟩ = some (.int .i64 6)) := Lib.hid (World.news_of_block (cs := #[.func (.func 66) #[] #[.pointer (some ⟨nb, 0, none⟩)], .int .i64 6]) (t := 98) (fr := (0, 0)) (heap_alloc_new u0 _) 1 _ rfl)
    obtain ⟨hk0, hk1, hk2, hk3, hk4, hk5, hk6, hk7⟩ := HKC.out _ HV0.out
    have hix := look_at0 #[.pointer (some ⟨nb, 0, none⟩)] u0
    go_wp2_with fail
    clear hix
    refine (c17a_calls p A ca n inv b X cx m S cs s rt ag N ⟨nb, 0, none⟩ _ (HNW.out _ HBV0.out) HN1.out HN4.out HBB.out.1 HBB.out.2).mono ?_
    rw [t6]
    rintro e u1 ⟨rfl, hb⟩
    have HKU1 := Lib.hid (HKN.out _ _ HV0.out hb)
    have HBU1 := Lib.hid (blT HBV0.out hb)
    have he0 : u1.cell? ⟨u0.heap.size, 1, none⟩ = some (.int .i64 6) := (hb.cell (p := ⟨u0.heap.size, 1, none⟩) (by simp)).trans HE0.out
    clear hb hbv0 HE0 hk0 hk1 hk2 hk3 hk4 hk5 hk6 hk7
    go_wp2
    go_ret
    exact ⟨rfl, HKW.out _ HKU1.out⟩
  have t6 : ((m : Int) != N * b) = false := by simpa using h6
  rw [if_pos h6] at HCK
  clear h6
  cases hi : inS p x
  case false =>
    have HF : Hid (chk17 p ax b rt ag x sd = 7) := Lib.hid (by rw [HCK.out, hi]; rfl)
    have t7 : (!inS p x) = true := by rw [hi]; rfl
    rw [HF.out]
    clear hi
    go_enter Tryd.func29, Tryd.ntmps29
    go_wp2_with fail
    generalize (w.alloc (.cells #[.int .u64 p, .slice A n ca, .bool inv, .int .i64 b, .slice X m cx, .slice S s cs, .int .i64 rt, .int .i64 ag] 43)) = V0 at *
    obtain ⟨hk0, hk1, hk2, hk3, hk4, hk5, hk6, hk7⟩ := HKC.out _ HK0.out
    refine (between_calls b 1 16 _).mono ?_
    rw [HB1.out]
    rintro e w1 ⟨rfl, rfl⟩
    go_wp2_with fail
    refine (between_calls rt 0 8 _).mono ?_
    rw [HB2.out]
    rintro e w1 ⟨rfl, rfl⟩
    go_wp2_with fail
    refine (between_calls ag 0 8 _).mono ?_
    rw [HB3.out]
    rintro e w1 ⟨rfl, rfl⟩
    go_wp2_with fail
    refine (chk7_calls p _ _ _ ax _ HN.out HP.out (HR.out.below (HKW.out _ HK0.out)) hl HW.out (HT.out.below (HKW.out _ HK0.out))).mono ?_
    rw [HC.out]
    rintro e w2 ⟨rfl, hb⟩
    have HK2 := Lib.hid (HKN.out _ _ HK0.out hb)
    clear hb hk0 hk1 hk2 hk3 hk4 hk5 hk6 hk7
    obtain ⟨hk0, hk1, hk2, hk3, hk4, hk5, hk6, hk7⟩ := HKC.out _ HK2.out
    go_wp2_with fail
    refine (dims7_calls _ _ _ ax _ HN.out (HR.out.below (HKW.out _ HK2.out)) hl).mono ?_
    rintro e w3 ⟨D, rfl, ho, hb⟩
    have HK3 := Lib.hid (HKN.out _ _ HK2.out hb)
    have HRD := Lib.hid ho.row
    clear hb ho hk0 hk1 hk2 hk3 hk4 hk5 hk6 hk7
    obtain ⟨hk0, hk1, hk2, hk3, hk4, hk5, hk6, hk7⟩ := HKC.out _ HK3.out
    go_wp2_with fail
    refine (all_n D n n (dimsA ax) w3 HDN.out HRD.out hl2 HDW.out).mono ?_
    rw [HAL.out]
    rintro e w4 ⟨rfl, rfl⟩
    have HK4 := Lib.hid (HKN.out _ _ HK3.out ((Below.refl _ _).alloc (Nat.le_refl _) (.cells #[.int .i64 N] 3)))
    have hnc : (w4.alloc (.cells #[.int .i64 N] 3)).cell? ⟨w4.heap.size, 0, none⟩ = some (.int .i64 N) := World.news_of_block (cs := #[.int .i64 N]) (t := 3) (fr := (0, 0)) (heap_alloc_new w4 _) 0 _ rfl
    have HSZ : Hid (w4.heap.size < (w4.alloc (.cells #[.int .i64 N] 3)).heap.size) := Lib.hid (by simp)
    have HNC := Lib.hid hnc
    clear hnc hk0 hk1 hk2 hk3 hk4 hk5 hk6 hk7
    obtain ⟨hk0, hk1, hk2, hk3, hk4, hk5, hk6, hk7⟩ := HKC.out _ HK4.out
    go_wp2
    refine wp_loop_rounds 4 ?_
    have HNW : Hid (∀ ws, Below (w4.alloc (.cells #[.int .i64 N] 3)).heap.size (w4.alloc (.cells #[.int .i64 N] 3)) ws → ws.cell? ⟨w4.heap.size, 0, none⟩ = some (.int .i64 N)) := Lib.hid fun ws h => (h.cell (p := ⟨w4.heap.size, 0, none⟩) HSZ.out).trans HNC.out
    have HBW4 : Hid (Below (w4.alloc (.cells #[.int .i64 N] 3)).heap.size (w4.alloc (.cells #[.int .i64 N] 3)) (w4.alloc (.cells #[.int .i64 N] 3))) := Lib.hid (Below.refl _ _)
    clear HNC HSZ hk0 hk1 hk2 hk3 hk4 hk5 hk6 hk7
    generalize hWW : (w4.alloc (.cells #[.int .i64 N] 3)) = u0 at *
    clear hWW
    generalize w4.heap.size = nb at *
    rw [rounds_succ]
    have hbv0 : Below u0.heap.size u0 (u0.alloc (.cells #[.func (.func 66) #[] #[.pointer (some ⟨nb, 0, none⟩)], .int .i64 6] 98)) := (Below.refl _ _).alloc (Nat.le_refl _) _
    have HV0 := Lib.hid (HKN.out _ _ HK4.out hbv0)
    have HBV0 := Lib.hid (blT HBW4.out hbv0)
    have HE0 : Hid ((u0.alloc (.cells #[.func (.func 66) #[] #[.pointer (some ⟨nb, 0, none⟩)], .int .i64 6] 98)).cell? ⟨u0.heap.size, 1, none⟩ = some (.int .i64 6)) := Lib.hid (World.news_of_block (cs := #[.func (.func 66) #[] #[.pointer (some ⟨nb, 0, none⟩)], .int .i64 6]) (t := 98) (fr := (0, 0)) (heap_alloc_new u0 _) 1 _ rfl)
    obtain ⟨hk0, hk1, hk2, hk3, hk4, hk5, hk6, hk7⟩ := HKC.out _ HV0.out
    have hix := look_at0 #[.pointer (some ⟨nb, 0, none⟩)] u0
    go_wp2_with fail
    clear hix
    refine (c17a_calls p A ca n inv b X cx m S cs s rt ag N ⟨nb, 0, none⟩ _ (HNW.out _ HBV0.out) HN1.out HN4.out HBB.out.1 HBB.out.2).mono ?_
    rw [t6]
    rintro e u1 ⟨rfl, hb⟩
    have HKU1 := Lib.hid (HKN.out _ _ HV0.out hb)
    have HBU1 := Lib.hid (blT HBV0.out hb)
    have he0 : u1.cell? ⟨u0.heap.size, 1, none⟩ = some (.int .i64 6) := (hb.cell (p := ⟨u0.heap.size, 1, none⟩) (by simp)).trans HE0.out
    clear hb hbv0 HE0 hk0 hk1 hk2 hk3 hk4 hk5 hk6 hk7
    go_wp2
    clear he0
    rw [rounds_succ]
    have hbv1 : Below u1.heap.size u1 (u1.alloc (.cells #[.func (.func 67) #[] #[], .int .i64 7] 98)) := (Below.refl _ _).alloc (Nat.le_refl _) _
    have HV1 := Lib.hid (HKN.out _ _ HKU1.out hbv1)
    have HBV1 := Lib.hid (blT HBU1.out hbv1)
    have HE1 : Hid ((u1.alloc (.cells #[.func (.func 67) #[] #[], .int .i64 7] 98)).cell? ⟨u1.heap.size, 1, none⟩ = some (.int .i64 7)) := Lib.hid (World.news_of_block (cs := #[.func (.func 67) #[] #[], .int .i64 7]) (t := 98) (fr := (0, 0)) (heap_alloc_new u1 _) 1 _ rfl)
    obtain ⟨hk0, hk1, hk2, hk3, hk4, hk5, hk6, hk7⟩ := HKC.out _ HV1.out
    have hix := look_at1 #[.pointer (some ⟨nb, 0, none⟩)] u1
    go_wp2_with fail
    clear hix
    refine (c17b_calls p A ca n inv b X cx m S cs s rt ag x _ HM.out (HRX.out.below (HKW.out _ HV1.out)) hlm).mono ?_
    rw [t7]
    rintro e u2 ⟨rfl, hb⟩
    have HKU2 := Lib.hid (HKN.out _ _ HV1.out hb)
    have HBU2 := Lib.hid (blT HBV1.out hb)
    have he1 : u2.cell? ⟨u1.heap.size, 1, none⟩ = some (.int .i64 7) := (hb.cell (p := ⟨u1.heap.size, 1, none⟩) (by simp)).trans HE1.out
    clear hb hbv1 HE1 hk0 hk1 hk2 hk3 hk4 hk5 hk6 hk7
    go_wp2
    go_ret
    exact ⟨rfl, HKW.out _ HKU2.out⟩
  have t7 : (!inS p x) = false := by rw [hi]; rfl
  rw [if_pos hi] at HCK
  clear hi
  cases h8 : btw (s : Int) 1 4
  case false =>
    have HF : Hid (chk17 p ax b rt ag x sd = 8) := Lib.hid (by rw [HCK.out, h8]; rfl)
    have t8 : (!btw (s : Int) 1 4) = true := by rw [h8]; rfl
    rw [HF.out]
    clear h8
    go_enter Tryd.func29, Tryd.ntmps29
    go_wp2_with fail
    generalize (w.alloc (.cells #[.int .u64 p, .slice A n ca, .bool inv, .int .i64 b, .slice X m cx, .slice S s cs, .int .i64 rt, .int .i64 ag] 43)) = V0 at *
    obtain ⟨hk0, hk1, hk2, hk3, hk4, hk5, hk6, hk7⟩ := HKC.out _ HK0.out
    refine (between_calls b 1 16 _).mono ?_
    rw [HB1.out]
    rintro e w1 ⟨rfl, rfl⟩
    go_wp2_with fail
    refine (between_calls rt 0 8 _).mono ?_
    rw [HB2.out]
    rintro e w1 ⟨rfl, rfl⟩
    go_wp2_with fail
    refine (between_calls ag 0 8 _).mono ?_
    rw [HB3.out]
    rintro e w1 ⟨rfl, rfl⟩
    go_wp2_with fail
    refine (chk7_calls p _ _ _ ax _ HN.out HP.out (HR.out.below (HKW.out _ HK0.out)) hl HW.out (HT.out.below (HKW.out _ HK0.out))).mono ?_
    rw [HC.out]
    rintro e w2 ⟨rfl, hb⟩
    have HK2 := Lib.hid (HKN.out _ _ HK0.out hb)
    clear hb hk0 hk1 hk2 hk3 hk4 hk5 hk6 hk7
    obtain ⟨hk0, hk1, hk2, hk3, hk4, hk5, hk6, hk7⟩ := HKC.out _ HK2.out
    go_wp2_with fail
    refine (dims7_calls _ _ _ ax _ HN.out (HR.out.below (HKW.out _ HK2.out)) hl).mono ?_
    rintro e w3 ⟨D, rfl, ho, hb⟩
    have HK3 := Lib.hid (HKN.out _ _ HK2.out hb)
    have HRD := Lib.hid ho.row
    clear hb ho hk0 hk1 hk2 hk3 hk4 hk5 hk6 hk7
    obtain ⟨hk0, hk1, hk2, hk3, hk4, hk5, hk6, hk7⟩ := HKC.out _ HK3.out
    go_wp2_with fail
    refine (all_n D n n (dimsA ax) w3 HDN.out HRD.out hl2 HDW.out).mono ?_
    rw [HAL.out]
    rintro e w4 ⟨rfl, rfl⟩
    have HK4 := Lib.hid (HKN.out _ _ HK3.out ((Below.refl _ _).alloc (Nat.le_refl _) (.cells #[.int .i64 N] 3)))
    have hnc : (w4.alloc (.cells #[.int .i64 N] 3)).cell? ⟨w4.heap.size, 0, none⟩ = some (.int .i64 N) := World.news_of_block (cs := #[.int .i64 N]) (t := 3) (fr := (0, 0)) (heap_alloc_new w4 _) 0 _ rfl
    have HSZ : Hid (w4.heap.size < (w4.alloc (.cells #[.int .i64 N] 3)).heap.size) := Lib.hid (by simp)
    have HNC := Lib.hid hnc
    clear hnc hk0 hk1 hk2 hk3 hk4 hk5 hk6 hk7
    obtain ⟨hk0, hk1, hk2, hk3, hk4, hk5, hk6, hk7⟩ := HKC.out _ HK4.out
    go_wp2
    refine wp_loop_rounds 4 ?_
    have HNW : Hid (∀ ws, Below (w4.alloc (.cells #[.int .i64 N] 3)).heap.size (w4.alloc (.cells #[.int .i64 N] 3)) ws → ws.cell? ⟨w4.heap.size, 0, none⟩ = some (.int .i64 N)) := Lib.hid fun ws h => (h.cell (p := ⟨w4.heap.size, 0, none⟩) HSZ.out).trans HNC.out
    have HBW4 : Hid (Below (w4.alloc (.cells #[.int .i64 N] 3)).heap.size (w4.alloc (.cells #[.int .i64 N] 3)) (w4.alloc (.cells #[.int .i64 N] 3))) := Lib.hid (Below.refl _ _)
    clear HNC HSZ hk0 hk1 hk2 hk3 hk4 hk5 hk6 hk7
    generalize hWW : (w4.alloc (.cells #[.int .i64 N] 3)) = u0 at *
    clear hWW
    generalize w4.heap.size = nb at *
    rw [rounds_succ]
    have hbv0 : Below u0.heap.size u0 (u0.alloc (.cells #[.func (.func 66) #[] #[.pointer (some ⟨nb, 0, none⟩)], .int .i64 6] 98)) := (Below.refl _ _).alloc (Nat.le_refl _) _
    have HV0 := Lib.hid (HKN.out _ _ HK4.out hbv0)
    have HBV0 := Lib.hid (blT HBW4.out hbv0)
    have HE0 : Hid ((u0.alloc (.cells #[.func (.func 66) #[] #[.pointer (some ⟨nb, 0, none⟩)], .int .i64 6] 98)).cell? ⟨u0.heap.size, 1, none⟩ = some (.int .i64 6)) := Lib.hid (World.news_of_block (cs := #[.func (.func 66) #[] #[.pointer (some ⟨nb, 0, none⟩)], .int .i64 6]) (t := 98) (fr := (0, 0)) (heap_alloc_new u0 _) 1 _ rfl)
    obtain ⟨hk0, hk1, hk2, hk3, hk4, hk5, hk6, hk7⟩ := HKC.out _ HV0.out
    have hix := look_at0 #[.pointer (some ⟨nb, 0, none⟩)] u0
    go_wp2_with fail
    clear hix
    refine (c17a_calls p A ca n inv b X cx m S cs s rt ag N ⟨nb, 0, none⟩ _ (HNW.out _ HBV0.out) HN1.out HN4.out HBB.out.1 HBB.out.2).mono ?_
    rw [t6]
    rintro e u1 ⟨rfl, hb⟩
    have HKU1 := Lib.hid (HKN.out _ _ HV0.out hb)
    have HBU1 := Lib.hid (blT HBV0.out hb)
    have he0 : u1.cell? ⟨u0.heap.size, 1, none⟩ = some (.int .i64 6) := (hb.cell (p := ⟨u0.heap.size, 1, none⟩) (by simp)).trans HE0.out
    clear hb hbv0 HE0 hk0 hk1 hk2 hk3 hk4 hk5 hk6 hk7
    go_wp2
    clear he0
    rw [rounds_succ]
    have hbv1 : Below u1.heap.size u1 (u1.alloc (.cells #[.func (.func 67) #[] #[], .int .i64 7] 98)) := (Below.refl _ _).alloc (Nat.le_refl _) _
    have HV1 := Lib.hid (HKN.out _ _ HKU1.out hbv1)
    have HBV1 := Lib.hid (blT HBU1.out hbv1)
    have HE1 : Hid ((u1.alloc (.cells #[.func (.func 67) #[] #[], .int .i64 7] 98)).cell? ⟨u1.heap.size, 1, none⟩ = some (.int .i64 7)) := Lib.hid (World.news_of_block (cs := #[.func (.func 67) #[] #[], .int .i64 7]) (t := 98) (fr := (0, 0)) (heap_alloc_new u1 _) 1 _ rfl)
    obtain ⟨hk0, hk1, hk2, hk3, hk4, hk5, hk6, hk7⟩ := HKC.out _ HV1.out
    have hix := look_at1 #[.pointer (some ⟨nb, 0, none⟩)] u1
    go_wp2_with fail
    clear hix
    refine (c17b_calls p A ca n inv b X cx m S cs s rt ag x _ HM.out (HRX.out.below (HKW.out _ HV1.out)) hlm).mono ?_
    rw [t7]
    rintro e u2 ⟨rfl, hb⟩
    have HKU2 := Lib.hid (HKN.out _ _ HV1.out hb)
    have HBU2 := Lib.hid (blT HBV1.out hb)
    have he1 : u2.cell? ⟨u1.heap.size, 1, none⟩ = some (.int .i64 7) := (hb.cell (p := ⟨u1.heap.size, 1, none⟩) (by simp)).trans HE1.out
    clear hb hbv1 HE1 hk0 hk1 hk2 hk3 hk4 hk5 hk6 hk7
    go_wp2
    clear he1
    rw [rounds_succ]
    have hbv2 : Below u2.heap.size u2 (u2.alloc (.cells #[.func (.func 68) #[] #[], .int .i64 8] 98)) := (Below.refl _ _).alloc (Nat.le_refl _) _
    have HV2 := Lib.hid (HKN.out _ _ HKU2.out hbv2)
    have HBV2 := Lib.hid (blT HBU2.out hbv2)
    have HE2 : Hid ((u2.alloc (.cells #[.func (.func 68) #[] #[], .int .i64 8] 98)).cell? ⟨u2.heap.size, 1, none⟩ = some (.int .i64 8)) := Lib.hid (World.news_of_block (cs := #[.func (.func 68) #[] #[], .int .i64 8]) (t := 98) (fr := (0, 0)) (heap_alloc_new u2 _) 1 _ rfl)
    obtain ⟨hk0, hk1, hk2, hk3, hk4, hk5, hk6, hk7⟩ := HKC.out _ HV2.out
    have hix := look_at2 #[.pointer (some ⟨nb, 0, none⟩)] u2
    go_wp2_with fail
    clear hix
    refine (c17c_calls p A ca n inv b X cx m S cs s rt ag _).mono ?_
    rw [t8]
    rintro e u3 ⟨rfl, hb⟩
    have HKU3 := Lib.hid (HKN.out _ _ HV2.out hb)
    have HBU3 := Lib.hid (blT HBV2.out hb)
    have he2 : u3.cell? ⟨u2.heap.size, 1, none⟩ = some (.int .i64 8) := (hb.cell (p := ⟨u2.heap.size, 1, none⟩) (by simp)).trans HE2.out
    clear hb hbv2 HE2 hk0 hk1 hk2 hk3 hk4 hk5 hk6 hk7
    go_wp2
    go_ret
    exact ⟨rfl, HKW.out _ HKU3.out⟩
  have t8 : (!btw (s : Int) 1 4) = false := by rw [h8]; rfl
  have HF : Hid (chk17 p ax b rt ag x sd = 0) := Lib.hid (by rw [HCK.out, h8]; rfl)
  rw [HF.out]
  clear h8
  go_enter Tryd.func29, Tryd.ntmps29
  go_wp2_with fail
  generalize (w.alloc (.cells #[.int .u64 p, .slice A n ca, .bool inv, .int .i64 b, .slice X m cx, .slice S s cs, .int .i64 rt, .int .i64 ag] 43)) = V0 at *
  obtain ⟨hk0, hk1, hk2, hk3, hk4, hk5, hk6, hk7⟩ := HKC.out _ HK0.out
  refine (between_calls b 1 16 _).mono ?_
  rw [HB1.out]
  rintro e w1 ⟨rfl, rfl⟩
  go_wp2_with fail
  refine (between_calls rt 0 8 _).mono ?_
  rw [HB2.out]
  rintro e w1 ⟨rfl, rfl⟩
  go_wp2_with fail
  refine (between_calls ag 0 8 _).mono ?_
  rw [HB3.out]
  rintro e w1 ⟨rfl, rfl⟩
  go_wp2_with fail
  refine (chk7_calls p _ _ _ ax _ HN.out HP.out (HR.out.below (HKW.out _ HK0.out)) hl HW.out (HT.out.below (HKW.out _ HK0.out))).mono ?_
  rw [HC.out]
  rintro e w2 ⟨rfl, hb⟩
  have HK2 := Lib.hid (HKN.out _ _ HK0.out hb)
  clear hb hk0 hk1 hk2 hk3 hk4 hk5 hk6 hk7
  obtain ⟨hk0, hk1, hk2, hk3, hk4, hk5, hk6, hk7⟩ := HKC.out _ HK2.out
  go_wp2_with fail
  refine (dims7_calls _ _ _ ax _ HN.out (HR.out.below (HKW.out _ HK2.out)) hl).mono ?_
  rintro e w3 ⟨D, rfl, ho, hb⟩
  have HK3 := Lib.hid (HKN.out _ _ HK2.out hb)
  have HRD := Lib.hid ho.row
  clear hb ho hk0 hk1 hk2 hk3 hk4 hk5 hk6 hk7
  obtain ⟨hk0, hk1, hk2, hk3, hk4, hk5, hk6, hk7⟩ := HKC.out _ HK3.out
  go_wp2_with fail
  refine (all_n D n n (dimsA ax) w3 HDN.out HRD.out hl2 HDW.out).mono ?_
  rw [HAL.out]
  rintro e w4 ⟨rfl, rfl⟩
  have HK4 := Lib.hid (HKN.out _ _ HK3.out ((Below.refl _ _).alloc (Nat.le_refl _) (.cells #[.int .i64 N] 3)))
  have hnc : (w4.alloc (.cells #[.int .i64 N] 3)).cell? ⟨w4.heap.size, 0, none⟩ = some (.int .i64 N) := World.news_of_block (cs := #[.int .i64 N]) (t := 3) (fr := (0, 0)) (heap_alloc_new w4 _) 0 _ rfl
  have HSZ : Hid (w4.heap.size < (w4.alloc (.cells #[.int .i64 N] 3)).heap.size) := Lib.hid (by simp)
  have HNC := Lib.hid hnc
  clear hnc hk0 hk1 hk2 hk3 hk4 hk5 hk6 hk7
  obtain ⟨hk0, hk1, hk2, hk3, hk4, hk5, hk6, hk7⟩ := HKC.out _ HK4.out
  go_wp2
  refine wp_loop_rounds 4 ?_
  have HNW : Hid (∀ ws, Below (w4.alloc (.cells #[.int .i64 N] 3)).heap.size (w4.alloc (.cells #[.int .i64 N] 3)) ws → ws.cell? ⟨w4.heap.size, 0, none⟩ = some (.int .i64 N)) := Lib.hid fun ws h => (h.cell (p := ⟨w4.heap.size, 0, none⟩) HSZ.out).trans HNC.out
  have HBW4 : Hid (Below (w4.alloc (.cells #[.int .i64 N] 3)).heap.size (w4.alloc (.cells #[.int .i64 N] 3)) (w4.alloc (.cells #[.int .i64 N] 3))) := Lib.hid (Below.refl _ _)
  clear HNC HSZ hk0 hk1 hk2 hk3 hk4 hk5 hk6 hk7
  generalize hWW : (w4.alloc (.cells #[.int .i64 N] 3)) = u0 at *
  clear hWW
  generalize w4.heap.size = nb at *
  rw [rounds_succ]
  have hbv0 : Below u0.heap.size u0 (u0.alloc (.cells #[.func (.func 66) #[] #[.pointer (some ⟨nb, 0, none⟩)], .int .i64 6] 98)) := (Below.refl _ _).alloc (Nat.le_refl _) _
  have HV0 := Lib.hid (HKN.out _ _ HK4.out hbv0)
  have HBV0 := Lib.hid (blT HBW4.out hbv0)
  have HE0 : Hid ((u0.alloc (.cells #[.func (.func 66) #[] #[.pointer (some ⟨nb, 0, none⟩)], .int .i64 6] 98)).cell? ⟨u0.heap.size, 1, none⟩ = some (.int .i64 6)) := Lib.hid (World.news_of_block (cs := #[.func (.func 66) #[] #[.pointer (some ⟨nb, 0, none⟩)], .int .i64 6]) (t := 98) (fr := (0, 0)) (heap_alloc_new u0 _) 1 _ rfl)
  obtain ⟨hk0, hk1, hk2, hk3, hk4, hk5, hk6, hk7⟩ := HKC.out _ HV0.out
  have hix := look_at0 #[.pointer (some ⟨nb, 0, none⟩)] u0
  go_wp2_with fail
  clear hix
  refine (c17a_calls p A ca n inv b X cx m S cs s rt ag N ⟨nb, 0, none⟩ _ (HNW.out _ HBV0.out) HN1.out HN4.out HBB.out.1 HBB.out.2).mono ?_
  rw [t6]
  rintro e u1 ⟨rfl, hb⟩
  have HKU1 := Lib.hid (HKN.out _ _ HV0.out hb)
  have HBU1 := Lib.hid (blT HBV0.out hb)
  have he0 : u1.cell? ⟨u0.heap.size, 1, none⟩ = some (.int .i64 6) := (hb.cell (p := ⟨u0.heap.size, 1, none⟩) (by simp)).trans HE0.out
  clear hb hbv0 HE0 hk0 hk1 hk2 hk3 hk4 hk5 hk6 hk7
  go_wp2
  clear he0
  rw [rounds_succ]
  have hbv1 : Below u1.heap.size u1 (u1.alloc (.cells #[.func (.func 67) #[] #[], .int .i64 7] 98)) := (Below.refl _ _).alloc (Nat.le_refl _) _
  have HV1 := Lib.hid (HKN.out _ _ HKU1.out hbv1)
  have HBV1 := Lib.hid (blT HBU1.out hbv1)
  have HE1 : Hid ((u1.alloc (.cells #[.func (.func 67) #[] #[], .int .i64 7] 98)).cell? ⟨u1.heap.size, 1, none⟩ = some (.int .i64 7)) := Lib.hid (World.news_of_block (cs := #[.func (.func 67) #[] #[], .int .i64 7]) (t := 98) (fr := (0, 0)) (heap_alloc_new u1 _) 1 _ rfl)
  obtain ⟨hk0, hk1, hk2, hk3, hk4, hk5, hk6, hk7⟩ := HKC.out _ HV1.out
  have hix := look_at1 #[.pointer (some ⟨nb, 0, none⟩)] u1
  go_wp2_with fail
  clear hix
  refine (c17b_calls p A ca n inv b X cx m S cs s rt ag x _ HM.out (HRX.out.below (HKW.out _ HV1.out)) hlm).mono ?_
  rw [t7]
  rintro e u2 ⟨rfl, hb⟩
  have HKU2 := Lib.hid (HKN.out _ _ HV1.out hb)
  have HBU2 := Lib.hid (blT HBV1.out hb)
  have he1 : u2.cell? ⟨u1.heap.size, 1, none⟩ = some (.int .i64 7) := (hb.cell (p := ⟨u1.heap.size, 1, none⟩) (by simp)).trans HE1.out
  clear hb hbv1 HE1 hk0 hk1 hk2 hk3 hk4 hk5 hk6 hk7
  go_wp2
  clear he1
  rw [rounds_succ]
  have hbv2 : Below u2.heap.size u2 (u2.alloc (.cells #[.func (.func 68) #[] #[], .int .i64 8] 98)) := (Below.refl _ _).alloc (Nat.le_refl _) _
  have HV2 := Lib.hid (HKN.out _ _ HKU2.out hbv2)
  have HBV2 := Lib.hid (blT HBU2.out hbv2)
  have HE2 : Hid ((u2.alloc (.cells #[.func (.func 68) #[] #[], .int .i64 8] 98)).cell? ⟨u2.heap.size, 1, none⟩ = some (.int .i64 8)) := Lib.hid (World.news_of_block (cs := #[.func (.func 68) #[] #[], .int .i64 8]) (t := 98) (fr := (0, 0)) (heap_alloc_new u2 _) 1 _ rfl)
  obtain ⟨hk0, hk1, hk2, hk3, hk4, hk5, hk6, hk7⟩ := HKC.out _ HV2.out
  have hix := look_at2 #[.pointer (some ⟨nb, 0, none⟩)] u2
  go_wp2_with fail
  clear hix
  refine (c17c_calls p A ca n inv b X cx m S cs s rt ag _).mono ?_
  rw [t8]
  rintro e u3 ⟨rfl, hb⟩
  have HKU3 := Lib.hid (HKN.out _ _ HV2.out hb)
  have HBU3 := Lib.hid (blT HBV2.out hb)
  have he2 : u3.cell? ⟨u2.heap.size, 1, none⟩ = some (.int .i64 8) := (hb.cell (p := ⟨u2.heap.size, 1, none⟩) (by simp)).trans HE2.out
  clear hb hbv2 HE2 hk0 hk1 hk2 hk3 hk4 hk5 hk6 hk7
  go_wp2
  clear he2
  rw [rounds_succ]
  go_wp2
  go_ret
  exact ⟨rfl, HKW.out _ HKU3.out⟩
end Go.Proofs.YtohcoidbncbijaaDoor.P
