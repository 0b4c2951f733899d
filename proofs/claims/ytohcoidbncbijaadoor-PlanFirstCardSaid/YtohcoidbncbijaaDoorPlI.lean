
/- The contract of brackenref17.Few, and the law PlanItems, walked. Conditions: words of their kinds; slices read as lists; the library's table lies as it was laid. -/
import Derived.Test.YtohcoidbncbijaaDoorPlE
import Derived.Test.YtohcoidbncbijaaDoorPlW
namespace Go.Proofs.YtohcoidbncbijaaDoor.P
open Go.RowKit
set_option linter.unusedVariables false
set_option linter.unusedSimpArgs false
set_option maxRecDepth 100000 in
theorem r17few_calls (p : Int) (A : Option Addr) (ca n : Nat) (inv : Bool) (b : Int) (X : Option Addr) (cx m : Nat) (S : Option Addr) (cs s : Nat) (rt ag : Int) (ax : List (Int × Bool)) (w : World) (hn : ax.length = n) (hr : Row w A (axR ax)) (hl : n ≤ 8796093022208) (hw : ∀ a ∈ ax, i64 a.1) :
    Calls Tryd.prog 25 #[.agg #[.int .u64 p, .slice A n ca, .bool inv, .int .i64 b, .slice X m cx, .slice S s cs, .int .i64 rt, .int .i64 ag], .int .i64 60] w fun e w' => ∃ r, e = .returned (.bool r) ∧ Below w.heap.size w w' := by
  have HR := Lib.hid hr
  have HN := Lib.hid hn
  have HW := Lib.hid hw
  clear hr hn hw
  obtain ⟨KB, hKB⟩ : ∃ KB : World → Prop, KB = fun ws => Below w.heap.size w ws ∧ w.heap.size < ws.heap.size ∧ ws.cell? ⟨w.heap.size, 0, none⟩ = some (.int .u64 p) ∧ ws.cell? ⟨w.heap.size, 1, none⟩ = some (.slice A n ca) ∧ ws.cell? ⟨w.heap.size, 2, none⟩ = some (.bool inv) ∧ ws.cell? ⟨w.heap.size, 3, none⟩ = some (.int .i64 b) ∧ ws.cell? ⟨w.heap.size, 4, none⟩ = some (.slice X m cx) ∧ ws.cell? ⟨w.heap.size, 5, none⟩ = some (.slice S s cs) ∧ ws.cell? ⟨w.heap.size, 6, none⟩ = some (.int .i64 rt) ∧ ws.cell? ⟨w.heap.size, 7, none⟩ = some (.int .i64 ag) := ⟨_, rfl⟩
  have HK0 : Hid (KB (w.alloc (.cells #[.int .u64 p, .slice A n ca, .bool inv, .int .i64 b, .slice X m cx, .slice S s cs, .int .i64 rt, .int .i64 ag] 43))) := Lib.hid (by rw [hKB]; exact ⟨(Below.refl _ _).alloc (Nat.le_refl _) _, by simp, World.news_of_block (cs := #[.int .u64 p, .slice A n ca, .bool inv, .int .i64 b, .slice X m cx, .slice S s cs, .int .i64 rt, .int .i64 ag]) (t := 43) (fr := (0, 0)) (heap_alloc_new w _) 0 _ rfl, World.news_of_block (cs := #[.int .u64 p, .slice A n ca, .bool inv, .int .i64 b, .slice X m cx, .slice S s cs, .int .i64 rt, .int .i64 ag]) (t := 43) (fr := (0, 0)) (heap_alloc_new w _) 1 _ rfl, World.news_of_block (cs := #[.int .u64 p, .slice A n ca, .bool inv, .int .i64 b, .slice X m cx, .slice S s cs, .int .i64 rt, .int .i64 ag]) (t := 43) (fr := (0, 0)) (heap_alloc_new w _) 2 _ rfl, World.news_of_block (cs := #[.int .u64 p, .slice A n ca, .bool inv, .int .i64 b, .slice X m cx, .slice S s cs, .int .i64 rt, .int .i64 ag]) (t := 43) (fr := (0, 0)) (heap_alloc_new w _) 3 _ rfl, World.news_of_block (cs := #[.int .u64 p, .slice A n ca, .bool inv, .int .i64 b, .slice X m cx, .slice S s cs, .int .i64 rt, .int .i64 ag]) (t := 43) (fr := (0, 0)) (heap_alloc_new w _) 4 _ rfl, World.news_of_block (cs := #[.int .u64 p, .slice A n ca, .bool inv, .int .i64 b, .slice X m cx, .slice S s cs, .int .i64 rt, .int .i64 ag]) (t := 43) (fr := (0, 0)) (heap_alloc_new w _) 5 _ rfl, World.news_of_block (cs := #[.int .u64 p, .slice A n ca, .bool inv, .int .i64 b, .slice X m cx, .slice S s cs, .int .i64 rt, .int .i64 ag]) (t := 43) (fr := (0, 0)) (heap_alloc_new w _) 6 _ rfl, World.news_of_block (cs := #[.int .u64 p, .slice A n ca, .bool inv, .int .i64 b, .slice X m cx, .slice S s cs, .int .i64 rt, .int .i64 ag]) (t := 43) (fr := (0, 0)) (heap_alloc_new w _) 7 _ rfl⟩)
  have HKW : Hid (∀ ws, KB ws → Below w.heap.size w ws) := Lib.hid fun ws h => by rw [hKB] at h; exact h.1
  have HKN : Hid (∀ ws ws', KB ws → Below ws.heap.size ws ws' → KB ws') := Lib.hid fun ws ws' h hb => by
    rw [hKB] at h ⊢
    obtain ⟨h1, h4, c0, c1, c2, c3, c4, c5, c6, c7⟩ := h
    exact ⟨h1.trans (hb.mono (Nat.le_of_lt h4)), Nat.lt_of_lt_of_le h4 hb.size, (hb.cell h4).trans c0, (hb.cell h4).trans c1, (hb.cell h4).trans c2, (hb.cell h4).trans c3, (hb.cell h4).trans c4, (hb.cell h4).trans c5, (hb.cell h4).trans c6, (hb.cell h4).trans c7⟩
  have HKS : Hid (∀ ws, KB ws → w.heap.size < ws.heap.size) := Lib.hid fun ws h => by rw [hKB] at h; exact h.2.1
  have HKC : Hid (∀ ws, KB ws → ws.cell? ⟨w.heap.size, 0, none⟩ = some (.int .u64 p) ∧ ws.cell? ⟨w.heap.size, 1, none⟩ = some (.slice A n ca) ∧ ws.cell? ⟨w.heap.size, 2, none⟩ = some (.bool inv) ∧ ws.cell? ⟨w.heap.size, 3, none⟩ = some (.int .i64 b) ∧ ws.cell? ⟨w.heap.size, 4, none⟩ = some (.slice X m cx) ∧ ws.cell? ⟨w.heap.size, 5, none⟩ = some (.slice S s cs) ∧ ws.cell? ⟨w.heap.size, 6, none⟩ = some (.int .i64 rt) ∧ ws.cell? ⟨w.heap.size, 7, none⟩ = some (.int .i64 ag)) := Lib.hid fun ws h => by rw [hKB] at h; exact h.2.2
  clear hKB
  cases f1 : decide ((m : Int) ≤ 240) <;> cases f2 : decide ((s : Int) ≤ 10)
  all_goals
    go_enter Tryd.func25, Tryd.ntmps25
    go_wp2_with fail
    generalize (w.alloc (.cells #[.int .u64 p, .slice A n ca, .bool inv, .int .i64 b, .slice X m cx, .slice S s cs, .int .i64 rt, .int .i64 ag] 43)) = V0 at *
    refine (few7_calls A ca n ax 60 _ HN.out (HR.out.below (HKW.out _ HK0.out)) hl HW.out).mono ?_
    rintro e w1 ⟨r, rfl, hb⟩
    have HK1 := Lib.hid (HKN.out _ _ HK0.out hb)
    clear hb
    obtain ⟨hk0, hk1, hk2, hk3, hk4, hk5, hk6, hk7⟩ := HKC.out _ HK1.out
    cases r
    all_goals
      go_wp2
      go_ret
      exact ⟨_, rfl, HKW.out _ HK1.out⟩
theorem take_app (x : List Int) (k N : Nat) : x.take (k * N) ++ (x.drop (k * N)).take N = x.take ((k + 1) * N) := by
  rw [Nat.succ_mul, List.take_add]
set_option maxRecDepth 100000 in
set_option maxHeartbeats 4000000 in
theorem planItems_walk (p : Int) (A : Option Addr) (ca : Nat) (ax : List (Int × Bool)) (inv : Bool) (b : Int) (X : Option Addr) (cx : Nat) (x : List Int) (S : Option Addr) (cs : Nat) (sd : List Int) (rt ag : Int) (w : World) (hp : U64 p) (hib : i64 b) (hirt : i64 rt) (hiag : i64 ag)
    (gA : Row w A (axR ax) ∧ ax.length * 16 ≤ 140737488351232 ∧ ax.length ≤ ca ∧ ax.length ≤ 9223372036854775807 ∧ ∀ x ∈ ax, (Lit.int .i64 x.1).wf = true)
    (gX : Row w X (nums .u64 x) ∧ x.length * 8 ≤ 140737488351232 ∧ x.length ≤ cx ∧ x.length ≤ 9223372036854775807 ∧ ∀ y ∈ x, (Lit.int .u64 y).wf = true)
    (gS : Row w S (nums .u64 sd) ∧ sd.length * 8 ≤ 140737488351232 ∧ sd.length ≤ cs ∧ sd.length ≤ 9223372036854775807 ∧ ∀ y ∈ sd, (Lit.int .u64 y).wf = true) (hT : Tab w) :
    Calls Tryd.prog 6 #[.agg #[.int .u64 p, .slice A ax.length ca, .bool inv, .int .i64 b, .slice X x.length cx, .slice S sd.length cs, .int .i64 rt, .int .i64 ag]] w fun e w' => e = .returned (.bool true) ∧ Below w.heap.size w w' := by
  have HP := Lib.hid hp
  have HR := Lib.hid gA.1
  have HRX := Lib.hid gX.1
  have HT := Lib.hid hT
  have HIB := Lib.hid hib
  have HW : Hid (∀ a ∈ ax, i64 a.1) := Lib.hid fun a ha => i64_wf (gA.2.2.2.2 a ha)
  have hla := gA.2.1
  have hlx := gX.2.1
  have hcx := gX.2.2.1
  have hls := gS.2.1
  clear hp gA gX gS hT
  generalize hn : ax.length = n at *
  generalize hm : x.length = m at *
  generalize hs : sd.length = s at *
  have HN := Lib.hid hn
  have HM := Lib.hid hm
  have HS := Lib.hid hs
  have HL : Hid (n ≤ 8796093022208) := Lib.hid (by omega)
  have HLM : Hid (m ≤ 9223372036854775807) := Lib.hid (by omega)
  have HCX := Lib.hid hcx
  clear hn hm hs hla hlx hls hcx
  obtain ⟨KB, hKB⟩ : ∃ KB : World → Prop, KB = fun ws => Below w.heap.size w ws ∧ w.heap.size < ws.heap.size ∧ ws.cell? ⟨w.heap.size, 0, none⟩ = some (.int .u64 p) ∧ ws.cell? ⟨w.heap.size, 1, none⟩ = some (.slice A n ca) ∧ ws.cell? ⟨w.heap.size, 2, none⟩ = some (.bool inv) ∧ ws.cell? ⟨w.heap.size, 3, none⟩ = some (.int .i64 b) ∧ ws.cell? ⟨w.heap.size, 4, none⟩ = some (.slice X m cx) ∧ ws.cell? ⟨w.heap.size, 5, none⟩ = some (.slice S s cs) ∧ ws.cell? ⟨w.heap.size, 6, none⟩ = some (.int .i64 rt) ∧ ws.cell? ⟨w.heap.size, 7, none⟩ = some (.int .i64 ag) := ⟨_, rfl⟩
  have HK0 : Hid (KB (w.alloc (.cells #[.int .u64 p, .slice A n ca, .bool inv, .int .i64 b, .slice X m cx, .slice S s cs, .int .i64 rt, .int .i64 ag] 43))) := Lib.hid (by rw [hKB]; exact ⟨(Below.refl _ _).alloc (Nat.le_refl _) _, by simp, World.news_of_block (cs := #[.int .u64 p, .slice A n ca, .bool inv, .int .i64 b, .slice X m cx, .slice S s cs, .int .i64 rt, .int .i64 ag]) (t := 43) (fr := (0, 0)) (heap_alloc_new w _) 0 _ rfl, World.news_of_block (cs := #[.int .u64 p, .slice A n ca, .bool inv, .int .i64 b, .slice X m cx, .slice S s cs, .int .i64 rt, .int .i64 ag]) (t := 43) (fr := (0, 0)) (heap_alloc_new w _) 1 _ rfl, World.news_of_block (cs := #[.int .u64 p, .slice A n ca, .bool inv, .int .i64 b, .slice X m cx, .slice S s cs, .int .i64 rt, .int .i64 ag]) (t := 43) (fr := (0, 0)) (heap_alloc_new w _) 2 _ rfl, World.news_of_block (cs := #[.int .u64 p, .slice A n ca, .bool inv, .int .i64 b, .slice X m cx, .slice S s cs, .int .i64 rt, .int .i64 ag]) (t := 43) (fr := (0, 0)) (heap_alloc_new w _) 3 _ rfl, World.news_of_block (cs := #[.int .u64 p, .slice A n ca, .bool inv, .int .i64 b, .slice X m cx, .slice S s cs, .int .i64 rt, .int .i64 ag]) (t := 43) (fr := (0, 0)) (heap_alloc_new w _) 4 _ rfl, World.news_of_block (cs := #[.int .u64 p, .slice A n ca, .bool inv, .int .i64 b, .slice X m cx, .slice S s cs, .int .i64 rt, .int .i64 ag]) (t := 43) (fr := (0, 0)) (heap_alloc_new w _) 5 _ rfl, World.news_of_block (cs := #[.int .u64 p, .slice A n ca, .bool inv, .int .i64 b, .slice X m cx, .slice S s cs, .int .i64 rt, .int .i64 ag]) (t := 43) (fr := (0, 0)) (heap_alloc_new w _) 6 _ rfl, World.news_of_block (cs := #[.int .u64 p, .slice A n ca, .bool inv, .int .i64 b, .slice X m cx, .slice S s cs, .int .i64 rt, .int .i64 ag]) (t := 43) (fr := (0, 0)) (heap_alloc_new w _) 7 _ rfl⟩)
  have HKW : Hid (∀ ws, KB ws → Below w.heap.size w ws) := Lib.hid fun ws h => by rw [hKB] at h; exact h.1
  have HKN : Hid (∀ ws ws', KB ws → Below ws.heap.size ws ws' → KB ws') := Lib.hid fun ws ws' h hb => by
    rw [hKB] at h ⊢
    obtain ⟨h1, h4, c0, c1, c2, c3, c4, c5, c6, c7⟩ := h
    exact ⟨h1.trans (hb.mono (Nat.le_of_lt h4)), Nat.lt_of_lt_of_le h4 hb.size, (hb.cell h4).trans c0, (hb.cell h4).trans c1, (hb.cell h4).trans c2, (hb.cell h4).trans c3, (hb.cell h4).trans c4, (hb.cell h4).trans c5, (hb.cell h4).trans c6, (hb.cell h4).trans c7⟩
  have HKS : Hid (∀ ws, KB ws → w.heap.size < ws.heap.size) := Lib.hid fun ws h => by rw [hKB] at h; exact h.2.1
  have HKC : Hid (∀ ws, KB ws → ws.cell? ⟨w.heap.size, 0, none⟩ = some (.int .u64 p) ∧ ws.cell? ⟨w.heap.size, 1, none⟩ = some (.slice A n ca) ∧ ws.cell? ⟨w.heap.size, 2, none⟩ = some (.bool inv) ∧ ws.cell? ⟨w.heap.size, 3, none⟩ = some (.int .i64 b) ∧ ws.cell? ⟨w.heap.size, 4, none⟩ = some (.slice X m cx) ∧ ws.cell? ⟨w.heap.size, 5, none⟩ = some (.slice S s cs) ∧ ws.cell? ⟨w.heap.size, 6, none⟩ = some (.int .i64 rt) ∧ ws.cell? ⟨w.heap.size, 7, none⟩ = some (.int .i64 ag)) := Lib.hid fun ws h => by rw [hKB] at h; exact h.2.2
  have HKM : Hid (∀ B ws ws', KB ws → Below B ws ws' → w.heap.size < B → KB ws') := Lib.hid fun B ws ws' h hb hB => by
    rw [hKB] at h ⊢
    obtain ⟨h1, h4, c0, c1, c2, c3, c4, c5, c6, c7⟩ := h
    exact ⟨h1.trans (hb.mono (Nat.le_of_lt hB)), Nat.lt_of_lt_of_le h4 hb.size, (hb.cell hB).trans c0, (hb.cell hB).trans c1, (hb.cell hB).trans c2, (hb.cell hB).trans c3, (hb.cell hB).trans c4, (hb.cell hB).trans c5, (hb.cell hB).trans c6, (hb.cell hB).trans c7⟩
  clear hKB
  go_enter Tryd.func6, Tryd.ntmps6
  go_wp2_with fail
  generalize (w.alloc (.cells #[.int .u64 p, .slice A n ca, .bool inv, .int .i64 b, .slice X m cx, .slice S s cs, .int .i64 rt, .int .i64 ag] 43)) = V0 at *
  refine (live17_calls _ (HT.out.below (HKW.out _ HK0.out))).mono ?_
  rintro e w1 ⟨rfl, hb⟩
  have HK1 := Lib.hid (HKN.out _ _ HK0.out hb)
  clear hb
  obtain ⟨hk0, hk1, hk2, hk3, hk4, hk5, hk6, hk7⟩ := HKC.out _ HK1.out
  go_wp2_with fail
  refine (r17few_calls p A ca n inv b X cx m S cs s rt ag ax _ HN.out (HR.out.below (HKW.out _ HK1.out)) HL.out HW.out).mono ?_
  rintro e w2 ⟨r, rfl, hb⟩
  have HK2 := Lib.hid (HKN.out _ _ HK1.out hb)
  clear hb hk0 hk1 hk2 hk3 hk4 hk5 hk6 hk7
  obtain ⟨hk0, hk1, hk2, hk3, hk4, hk5, hk6, hk7⟩ := HKC.out _ HK2.out
  cases r
  case false =>
    go_wp2
    go_ret
    exact ⟨rfl, HKW.out _ HK2.out⟩
  go_wp2_with fail
  refine (chk17_calls p A ca n inv b X cx m S cs s rt ag ax x sd _ HN.out HM.out HS.out HP.out (HR.out.below (HKW.out _ HK2.out)) HL.out HW.out (HRX.out.below (HKW.out _ HK2.out)) HLM.out (HT.out.below (HKW.out _ HK2.out))).mono ?_
  rintro e w3 ⟨rfl, hb⟩
  have HK3 := Lib.hid (HKN.out _ _ HK2.out hb)
  clear hb hk0 hk1 hk2 hk3 hk4 hk5 hk6 hk7
  obtain ⟨hk0, hk1, hk2, hk3, hk4, hk5, hk6, hk7⟩ := HKC.out _ HK3.out
  by_cases hc : chk17 p ax b rt ag x sd = 0
  case neg =>
    have t0 : (chk17 p ax b rt ag x sd != 0) = true := by simpa using hc
    clear hc
    go_wp2
    go_ret
    exact ⟨rfl, HKW.out _ HK3.out⟩
  have h17 := chk17_ok hc
  have hb1 := h17.b1
  have hb2 := h17.b2
  have hk7 := chk7_ok h17.chk
  have hlen := h17.len
  have hN1 := hk7.dims.pos.prod
  have hN4 := hk7.dims.all
  obtain ⟨N, hN⟩ := Int.eq_ofNat_of_zero_le (show 0 ≤ prodL (dimsA ax) by omega)
  rw [hN] at hlen hN1 hN4
  obtain ⟨b, rfl⟩ := Int.eq_ofNat_of_zero_le (show 0 ≤ b by omega)
  have hmb : m = N * b := by have h1 := HM.out; rw [h1] at hlen; exact_mod_cast hlen
  have HMB := Lib.hid hmb
  have HIT : Hid (∀ k : Nat, k < b → itmS p ax (b : Int) rt ag x sd (k : Int) = ((x.drop (k * N)).take N, 0)) := Lib.hid fun k hk => by
    rw [itmS, if_pos hc, if_pos ⟨by omega, by omega⟩, hN, Int.toNat_natCast, Int.toNat_natCast]
  have HNB : Hid (itmS p ax (b : Int) rt ag x sd (b : Int) = ([], 1)) := Lib.hid (by rw [itmS, if_pos hc, if_neg (by omega)])
  have HNM : Hid (itmS p ax (b : Int) rt ag x sd (-1) = ([], 1)) := Lib.hid (by rw [itmS, if_pos hc, if_neg (by omega)])
  have HKL : Hid (∀ k : Nat, k < b → ((x.drop (k * N)).take N).length = N) := Lib.hid fun k hk => by
    have h1 := item_num (N := N) hk hmb
    rw [List.length_take, List.length_drop, HM.out]; omega
  have hm6 : m ≤ 65536 := by rw [hmb]; exact Nat.le_trans (Nat.mul_le_mul (show N ≤ 4096 by omega) (show b ≤ 16 by omega)) (by decide)
  have HKN6 : Hid (∀ k : Nat, k ≤ b → k * N ≤ 65536) := Lib.hid fun k hk => Nat.le_trans (by rw [hmb, Nat.mul_comm N b]; exact Nat.mul_le_mul hk (Nat.le_refl _)) hm6
  have hb16 : b ≤ 16 := by omega
  have hNN : N ≤ 4096 := by omega
  have t0 : (chk17 p ax (b : Int) rt ag x sd != 0) = false := by rw [hc]; rfl
  have HNBM : Hid (IntKind.i64.wrap ((N : Int) * (b : Int)) = (m : Int)) := Lib.hid (by rw [show (N : Int) * (b : Int) = (m : Int) by rw [hmb]; push_cast; rfl]; exact wrapI (by omega) (by omega))
  rw [hc]
  clear hc h17 hk7 hlen hN1 hN4 hN hb1 hb2 hmb t0
  go_wp2
  go_loopw [3, 23] (fun v q wr => ∃ (k : Nat) (Z : Option Addr) (z : Nat), k ≤ b ∧ q = .int .i64 k ∧ v = .slice Z (k * N) z ∧ Hid (Own wr w3.heap.size 22 1 Z (k * N) z (nums .u64 (x.take (k * N)))) ∧ Hid (w3.heap.size ≤ wr.heap.size) ∧ Hid (KB wr)) (fun _ q _ => b - (intOf q).toNat)
  case atStart => exact ⟨0, none, 0, Nat.zero_le _, rfl, by rw [Nat.zero_mul], Lib.hid (by rw [Nat.zero_mul, List.take_zero]; exact Own.nil _ _ _ _), Lib.hid (Nat.le_refl _), HK3⟩
  case round =>
    obtain ⟨k, Z, z, hk, rfl, rfl, HO4, HSZ4, HK4⟩ := hrel
    clear hk0 hk1 hk2 hk3 hk4 hk5 hk6 hk7
    have HW3 : Hid (w.heap.size < w3.heap.size) := Lib.hid (HKS.out _ HK3.out)
    obtain ⟨hk0, hk1, hk2, hk3, hk4, hk5, hk6, hk7⟩ := HKC.out _ HK4.out
    by_cases hlt : k < b
    · have HII := Lib.hid (HIT.out k hlt)
      have HLL : Hid ((((x.drop (k * N)).take N, (0 : Int)).1).length = N) := Lib.hid (HKL.out k hlt)
      have HLL2 := Lib.hid (HKL.out k hlt)
      have hkn1 := HKN6.out k hk
      have HTA := Lib.hid (take_app x k N)
      have HSM : Hid ((k + 1) * N = k * N + N) := Lib.hid (Nat.succ_mul k N)
      go_wp2_with fail
      refine (pitem_calls p A ca n inv (b : Int) X cx m S cs s rt ag ax x sd (k : Int) _ HN.out HM.out HS.out HP.out (HR.out.below (HKW.out _ HK4.out)) HL.out HW.out (HRX.out.below (HKW.out _ HK4.out)) HLM.out HCX.out ⟨by omega, by omega⟩ (HT.out.below (HKW.out _ HK4.out))).mono ?_
      rw [HII.out, HLL.out]
      dsimp only
      rintro e w5 ⟨Y, y, rfl, ho, hb⟩
      have HK5 := Lib.hid (HKN.out _ _ HK4.out hb)
      have HO5 := Lib.hid (HO4.out.grown hb)
      have HRY := Lib.hid ho.row
      have HSZ5 : Hid (w3.heap.size ≤ w5.heap.size) := Lib.hid (Nat.le_trans HSZ4.out hb.size)
      clear ho hb hk0 hk1 hk2 hk3 hk4 hk5 hk6 hk7
      obtain ⟨hk0, hk1, hk2, hk3, hk4, hk5, hk6, hk7⟩ := HKC.out _ HK5.out
      have o1 := HNBM.out
      have f1 : ((m : Int) != (m : Int)) = false := by simp
      generalize hkn : k * N = kn at *
      go_wp2_with (at_builtin; go_loud (refine append_any _ Tryd.underlying41 info_u64 rfl _ _ rfl w3.heap.size kn z N y Z Y (x.take kn) ((x.drop kn).take N) rfl rfl HO5.out HRY.out HLL2.out HSZ5.out (by omega) (by omega) ?_); intro V cv w6 hown hbel hgrow)
      have HO6 : Hid (Own w6 w3.heap.size 22 1 V ((k + 1) * N) cv (nums .u64 (x.take ((k + 1) * N)))) := Lib.hid (by rw [← HTA.out, HSM.out]; exact hown)
      have HK6 := Lib.hid (HKM.out _ _ _ HK5.out hbel HW3.out)
      have HSZ6 : Hid (w3.heap.size ≤ w6.heap.size) := Lib.hid (Nat.le_trans HSZ5.out hbel.size)
      clear hown hbel hgrow o1
      go_roundw
      case rel => exact ⟨k + 1, V, cv, by omega, by go_num, by rw [HSM.out], HO6, HSZ6, HK6⟩
      case measure => simp [intOf]; omega
    · have hke : k = b := by omega
      subst hke
      have HRA : Hid (Row wr Z (nums .u64 x)) := Lib.hid (by
        have h1 := HO4.out.row
        rw [Nat.mul_comm k N, ← HMB.out, List.take_of_length_le (by rw [HM.out]; exact Nat.le_refl _)] at h1
        exact h1)
      rw [show k * N = m by rw [HMB.out, Nat.mul_comm]]
      clear hlt
      go_wp2_with fail
      refine (pitem_calls p A ca n inv (k : Int) X cx m S cs s rt ag ax x sd (k : Int) _ HN.out HM.out HS.out HP.out (HR.out.below (HKW.out _ HK4.out)) HL.out HW.out (HRX.out.below (HKW.out _ HK4.out)) HLM.out HCX.out ⟨by omega, by omega⟩ (HT.out.below (HKW.out _ HK4.out))).mono ?_
      rw [HNB.out]
      rintro e w5 ⟨Y, y, rfl, ho, hb⟩
      have HK5 := Lib.hid (HKN.out _ _ HK4.out hb)
      have HR5 := Lib.hid (HRA.out.below hb)
      clear ho hb hk0 hk1 hk2 hk3 hk4 hk5 hk6 hk7
      obtain ⟨hk0, hk1, hk2, hk3, hk4, hk5, hk6, hk7⟩ := HKC.out _ HK5.out
      go_wp2_with fail
      refine (pitem_calls p A ca n inv (k : Int) X cx m S cs s rt ag ax x sd (-1) _ HN.out HM.out HS.out HP.out (HR.out.below (HKW.out _ HK5.out)) HL.out HW.out (HRX.out.below (HKW.out _ HK5.out)) HLM.out HCX.out ⟨by decide, by decide⟩ (HT.out.below (HKW.out _ HK5.out))).mono ?_
      rw [HNM.out]
      rintro e w6 ⟨Y2, y2, rfl, ho, hb⟩
      have HK6 := Lib.hid (HKN.out _ _ HK5.out hb)
      have HR6 := Lib.hid (HR5.out.below hb)
      clear ho hb hk0 hk1 hk2 hk3 hk4 hk5 hk6 hk7
      obtain ⟨hk0, hk1, hk2, hk3, hk4, hk5, hk6, hk7⟩ := HKC.out _ HK6.out
      go_wp2_with fail
      refine (same_n _ _ _ _ m m x x _ HM.out HM.out HR6.out HLM.out (HRX.out.below (HKW.out _ HK6.out))).mono ?_
      rw [show decide (x = x) = true from decide_eq_true rfl]
      rintro e w7 ⟨rfl, ⟨q7, rfl⟩⟩
      have HB7 := Lib.hid (below_drewN (HKW.out _ HK6.out) q7)
      go_wp2
      go_ret
      exact ⟨by first | rfl | (simp; done), HB7.out⟩
end Go.Proofs.YtohcoidbncbijaaDoor.P
