
/- The contracts of plan.Item and of brackenref17's Check, Item and Few. Conditions: words of their kinds; slices read as lists; the library's table lies as it was laid. -/
import Derived.Test.YtohcoidbncbijaaDoorPlD
import Derived.Test.YtohcoidbncbijaaDoorGrF
import Derived.Test.YtohcoidbncbijaaDoorR7a
namespace Go.Proofs.YtohcoidbncbijaaDoor.P
open Go.RowKit
set_option linter.unusedVariables false
set_option linter.unusedSimpArgs false
theorem Row.take {w : World} {A : Option Addr} {k : IntKind} {l : List Int} (h : Row w A (nums k l)) (n : Nat) : Row w A (nums k (l.take n)) := by
  rcases h with h1 | ⟨x, hx, hc⟩
  · left
    have e : l = [] := by
      have h2 := nums_length k l
      cases l with
      | nil => rfl
      | cons a t => first | (rw [h1] at h2; simp at h2) | (have h3 := h1.2; rw [h3] at h2; simp at h2) | (simp [nums] at h1)
    subst e
    simpa using h1
  · refine .inr ⟨x, hx, fun i u hi => hc i u ?_⟩
    have h3 : i < n := by
      rcases Nat.lt_or_ge i n with h4 | h4
      · exact h4
      · rw [List.getElem?_eq_none (by rw [nums_length, List.length_take]; omega)] at hi; cases hi
    rw [← hi]
    simp [nums, List.getElem?_take, h3]
theorem slice_nil (x : Addr) (n c : Nat) (w : World) : (binOp .eql 41 (.slice (some x) n c) (.slice none 0 0)).run Tryd.prog w = .ok (.bool false) w := by kernel_rfl
set_option maxRecDepth 100000 in
theorem clone_some (x : Addr) (n c : Nat) (l : List Int) (w : World) (hn : l.length = n) (hr : Row w (some x) (nums .u64 l)) (hl : n ≤ 1000000) :
    Calls Tryd.prog 65 #[.slice (some x) n c] w fun e w' => ∃ B b, e = .returned (.slice B n b) ∧ Own w' w.heap.size 22 1 B n b (nums .u64 l) ∧ Below w.heap.size w w' := by
  have HR := Lib.hid (hr.below ((Below.refl w.heap.size w).alloc (Nat.le_refl _) (.cells #[] 22)))
  have HN := Lib.hid hn
  have HO : Hid (Own (w.alloc (.cells #[] 22)) w.heap.size 22 1 (some ⟨w.heap.size, 0, none⟩) 0 0 (nums .u64 [])) := Lib.hid (by
    have h1 := own_made w w.heap.size 22 (.int .u64 0) 0 (Nat.le_refl _) (by decide)
    rw [show madeCells #[Value.int .u64 0] 0 = #[] by simp [madeCells]] at h1
    exact h1)
  have hsn := slice_nil x n c w
  clear hr hn
  go_enter Tryd.func65, Tryd.ntmps65
  go_wp2_with (at_builtin; go_loud (refine append_any _ Tryd.underlying41 info_u64 rfl _ _ rfl w.heap.size 0 0 n c (some ⟨w.heap.size, 0, none⟩) (some x) [] l rfl rfl HO.out HR.out HN.out (by simp) (by omega) (by omega) ?_); intro V cv w2 hown hbel hgrow)
  have HOW : Hid (Own w2 w.heap.size 22 1 V n cv (nums .u64 l)) := Lib.hid (by
    have h1 := hown
    rw [Nat.zero_add, List.nil_append] at h1
    exact h1)
  have HB : Hid (Below w.heap.size w w2) := Lib.hid (((Below.refl _ _).alloc (Nat.le_refl _) _).trans hbel)
  clear hown hbel hgrow
  try simp only [Nat.zero_add]
  go_wp2
  go_ret
  exact ⟨_, _, rfl, HOW.out, HB.out⟩
/-- An item of a request. -/
def itmS (p : Int) (ax : List (Int × Bool)) (b rt ag : Int) (x sd : List Int) (i : Int) : List Int × Int :=
  if chk17 p ax b rt ag x sd = 0 then (if 0 ≤ i ∧ i < b then ((x.drop (i.toNat * (prodL (dimsA ax)).toNat)).take (prodL (dimsA ax)).toNat, 0) else ([], 1)) else ([], chk17 p ax b rt ag x sd)
structure Chk17 (p : Int) (ax : List (Int × Bool)) (b rt ag : Int) (x sd : List Int) : Prop where
  b1 : 1 ≤ b
  b2 : b ≤ 16
  chk : chk7 p ax = 0
  len : (x.length : Int) = prodL (dimsA ax) * b
  ins : inS p x = true
theorem chk17_ok {p : Int} {ax : List (Int × Bool)} {b rt ag : Int} {x sd : List Int} (h : chk17 p ax b rt ag x sd = 0) : Chk17 p ax b rt ag x sd := by
  unfold chk17 at h
  split at h
  · rename_i h1
    split at h
    · rename_i h2
      split at h
      · rename_i h3
        split at h
        · rename_i h4
          rw [Bool.and_eq_true, Bool.and_eq_true] at h1
          have h5 := h1.1.1
          unfold btw at h5
          rw [Bool.and_eq_true, decide_eq_true_eq, decide_eq_true_eq] at h5
          exact ⟨h5.1, h5.2, h2, h3, h4⟩
        · cases h
      · cases h
    · rename_i h2; exact absurd h h2
  · cases h
structure ItemN (N b i m q : Nat) : Prop where
  q1 : q ≤ m
  q2 : N ≤ m - q
  m6 : m ≤ 65536
  m1 : 1 ≤ m
  d1 : (m : Int).tdiv (b : Int) = (N : Int)
  d2 : ¬ (b : Int) = 0
  d3 : IntKind.i64.wrap (N : Int) = (N : Int)
  d4 : wrap64 (N : Int) = (N : Int)
  e1 : IntKind.i64.wrap ((i : Int) * (N : Int)) = (q : Int)
  e2 : wrap64 ((i : Int) * (N : Int)) = (q : Int)
  a1 : IntKind.i64.wrap ((b : Int) - 1) = (b : Int) - 1
  a2 : wrap64 ((b : Int) - 1) = (b : Int) - 1
theorem item_num {N b i m : Nat} (hi : i < b) (hm : m = N * b) : i * N ≤ m ∧ N ≤ m - i * N := by
  have h1 : (i + 1) * N ≤ b * N := Nat.mul_le_mul hi (Nat.le_refl _)
  rw [Nat.succ_mul, Nat.mul_comm b N, ← hm] at h1
  omega
theorem pred_wrap {b : Int} (h1 : 1 ≤ b) (h2 : b ≤ 16) : IntKind.i64.wrap (b - 1) = b - 1 ∧ wrap64 (b - 1) = b - 1 := ⟨wrapI (by omega) (by omega), wrap64_id ⟨by omega, by omega⟩⟩
theorem item_facts {N b i m q : Nat} (hN1 : 1 ≤ N) (hN4 : N ≤ 4096) (hb : b ≤ 16) (hi : i < b) (hm : m = N * b) (hq : q = i * N) : ItemN N b i m q := by
  have h1 := item_num hi hm
  have hm6 : m ≤ 65536 := by rw [hm]; exact Nat.le_trans (Nat.mul_le_mul hN4 hb) (by decide)
  have hm1 : 1 ≤ m := by rw [hm]; exact Nat.mul_le_mul hN1 (show 1 ≤ b by omega)
  rw [← hq] at h1
  have hc : (i : Int) * (N : Int) = (q : Int) := by rw [hq]; push_cast; rfl
  have hd : (m : Int).tdiv (b : Int) = (N : Int) := by
    rw [Int.tdiv_eq_ediv_of_nonneg (by omega), hm]
    push_cast
    exact Int.mul_ediv_cancel _ (by omega)
  clear hm hq
  exact ⟨h1.1, h1.2, hm6, hm1, hd, by omega, wrapI (by omega) (by omega), wrap64_id ⟨by omega, by omega⟩, by rw [hc]; exact wrapI (by omega) (by omega), by rw [hc]; exact wrap64_id ⟨by omega, by omega⟩, wrapI (by omega) (by omega), wrap64_id ⟨by omega, by omega⟩⟩
set_option maxRecDepth 100000 in
set_option maxHeartbeats 4000000 in
theorem pitem_calls (p : Int) (A : Option Addr) (ca n : Nat) (inv : Bool) (b : Int) (X : Option Addr) (cx m : Nat) (S : Option Addr) (cs s : Nat) (rt ag : Int) (ax : List (Int × Bool)) (x sd : List Int) (i : Int) (w : World) (hn : ax.length = n) (hm : x.length = m) (hs : sd.length = s) (hp : U64 p) (hr : Row w A (axR ax)) (hl : n ≤ 8796093022208) (hw : ∀ a ∈ ax, i64 a.1)
    (hrx : Row w X (nums .u64 x)) (hlm : m ≤ 9223372036854775807) (hcx : m ≤ cx) (hi : i64 i) (hT : Tab w) :
    Calls Tryd.prog 26 #[.agg #[.int .u64 p, .slice A n ca, .bool inv, .int .i64 b, .slice X m cx, .slice S s cs, .int .i64 rt, .int .i64 ag], .int .i64 i] w fun e w' => ∃ B c,
      e = .returned (.tuple #[.slice B (itmS p ax b rt ag x sd i).1.length c, .int .i64 (itmS p ax b rt ag x sd i).2]) ∧ Own w' w.heap.size 22 1 B (itmS p ax b rt ag x sd i).1.length c (nums .u64 (itmS p ax b rt ag x sd i).1) ∧ Below w.heap.size w w' := by
  have HP := Lib.hid hp
  have HR := Lib.hid hr
  have HRX := Lib.hid hrx
  have HN := Lib.hid hn
  have HM := Lib.hid hm
  have HS := Lib.hid hs
  have HW := Lib.hid hw
  have HT := Lib.hid hT
  clear hp hr hrx hn hm hs hw hT
  obtain ⟨KB, hKB⟩ : ∃ KB : World → Prop, KB = fun ws => Below w.heap.size w ws ∧ w.heap.size < ws.heap.size ∧ ws.cell? ⟨w.heap.size, 0, none⟩ = some (.int .u64 p) ∧ ws.cell? ⟨w.heap.size, 1, none⟩ = some (.slice A n ca) ∧ ws.cell? ⟨w.heap.size, 2, none⟩ = some (.bool inv) ∧ ws.cell? ⟨w.heap.size, 3, none⟩ = some (.int .i64 b) ∧ ws.cell? ⟨w.heap.size, 4, none⟩ = some (.slice X m cx) ∧ ws.cell? ⟨w.heap.size, 5, none⟩ = some (.slice S s cs) ∧ ws.cell? ⟨w.heap.size, 6, none⟩ = some (.int .i64 rt) ∧ ws.cell? ⟨w.heap.size, 7, none⟩ = some (.int .i64 ag) := ⟨_, rfl⟩
  have HK0 : Hid (KB (w.alloc (.cells #[.int .u64 p, .slice A n ca, .bool inv, .int .i64 b, .slice X m cx, .slice S s cs, .int .i64 rt, .int .i64 ag] 43))) := Lib.hid (by rw [hKB]; exact ⟨(Below.refl _ _).alloc (Nat.le_refl _) _, by simp, World.news_of_block (cs := #[.int .u64 p, .slice A n ca, .bool inv, .int .i64 b, .slice X m cx, .slice S s cs, .int .i64 rt, .int .i64 ag]) (t := 43) (fr := (0, 0)) (heap_alloc_new w _) 0 _ rfl, World.news_of_block (cs := #[.int .u64 p, .slice A n ca, .bool inv, .int .i64 b, .slice X m cx, .slice S s cs, .int .i64 rt, .int .i64 ag]) (t := 43) (fr := (0, 0)) (heap_alloc_new w _) 1 _ rfl, World.news_of_block (cs := #[.int .u64 p, .slice A n ca, .bool inv, .int .i64 b, .slice X m cx, .slice S s cs, .int .i64 rt, .int .i64 ag]) (t := 43) (fr := (0, 0)) (heap_alloc_new w _) 2 _ rfl, World.news_of_block (cs := #[.int .u64 p, .slice A n ca, .bool inv, .int .i64 b, .slice X m cx, .slice S s cs, .int .i64 rt, .int .i64 ag]) (t := 43) (fr := (0, 0)) (heap_alloc_new w _) 3 _ rfl, World.news_of_block (cs := #[.int .u64 p, .slice A n ca, .bool inv, .int .i64 b, .slice X m cx, .slice S s cs, .int .i64 rt, .int .i64 ag]) (t := 43) (fr := (0, 0)) (heap_alloc_new w _) 4 _ rfl, World.news_of_block (cs := #[.int .u64 p, .slice A n ca, .bool inv, .int .i64 b, .slice X m cx, .slice S s cs, .int .i64 rt, .int .i64 ag]) (t := 43) (fr := (0, 0)) (heap_alloc_new w _) 5 _ rfl, World.news_of_block (cs := #[.int .u64 p, .slice A n ca, .bool inv, .int .i64 b, .slice X m cx, .slice S s cs, .int .i64 rt, .int .i64 ag]) (t := 43) (fr := (0, 0)) (heap_alloc_new w _) 6 _ rfl, World.news_of_block (cs := #[.int .u64 p, .slice A n ca, .bool inv, .int .i64 b, .slice X m cx, .slice S s cs, .int .i64 rt, .int .i64 ag]) (t := 43) (fr := (0, 0)) (heap_alloc_new w _) 7 _ rfl⟩)
  have HKW : Hid (∀ ws, KB ws → Below w.heap.size w ws) := Lib.hid fun ws h => by rw [hKB] at h; exact h.1
  have HKN : Hid (∀ ws ws', KB ws → Below ws.heap.size ws ws' → KB ws') := Lib.hid fun ws ws' h hb => by
    rw [hKB] at h ⊢
    obtain ⟨h1, h4, c0, c1, c2, c3, c4, c5, c6, c7⟩ := h
    exact ⟨h1.trans (hb.mono (Nat.le_of_lt h4)), Nat.lt_of_lt_of_le h4 hb.size, (hb.cell h4).trans c0, (hb.cell h4).trans c1, (hb.cell h4).trans c2, (hb.cell h4).trans c3, (hb.cell h4).trans c4, (hb.cell h4).trans c5, (hb.cell h4).trans c6, (hb.cell h4).trans c7⟩
  have HKS : Hid (∀ ws, KB ws → w.heap.size < ws.heap.size) := Lib.hid fun ws h => by rw [hKB] at h; exact h.2.1
  have HKC : Hid (∀ ws, KB ws → ws.cell? ⟨w.heap.size, 0, none⟩ = some (.int .u64 p) ∧ ws.cell? ⟨w.heap.size, 1, none⟩ = some (.slice A n ca) ∧ ws.cell? ⟨w.heap.size, 2, none⟩ = some (.bool inv) ∧ ws.cell? ⟨w.heap.size, 3, none⟩ = some (.int .i64 b) ∧ ws.cell? ⟨w.heap.size, 4, none⟩ = some (.slice X m cx) ∧ ws.cell? ⟨w.heap.size, 5, none⟩ = some (.slice S s cs) ∧ ws.cell? ⟨w.heap.size, 6, none⟩ = some (.int .i64 rt) ∧ ws.cell? ⟨w.heap.size, 7, none⟩ = some (.int .i64 ag)) := Lib.hid fun ws h => by rw [hKB] at h; exact h.2.2
  clear hKB
  by_cases hc : chk17 p ax b rt ag x sd = 0
  case neg =>
    have HF : Hid (itmS p ax b rt ag x sd i = ([], chk17 p ax b rt ag x sd)) := Lib.hid (by rw [itmS, if_neg hc])
    have t0 : (chk17 p ax b rt ag x sd != 0) = true := by simpa using hc
    rw [HF.out]
    clear hc
    go_enter Tryd.func26, Tryd.ntmps26
    go_wp2_with fail
    generalize (w.alloc (.cells #[.int .u64 p, .slice A n ca, .bool inv, .int .i64 b, .slice X m cx, .slice S s cs, .int .i64 rt, .int .i64 ag] 43)) = V0 at *
    refine (chk17_calls p A ca n inv b X cx m S cs s rt ag ax x sd _ HN.out HM.out HS.out HP.out (HR.out.below (HKW.out _ HK0.out)) hl HW.out (HRX.out.below (HKW.out _ HK0.out)) hlm (HT.out.below (HKW.out _ HK0.out))).mono ?_
    rintro e w1 ⟨rfl, hb⟩
    have HK1 := Lib.hid (HKN.out _ _ HK0.out hb)
    clear hb
    obtain ⟨hk0, hk1, hk2, hk3, hk4, hk5, hk6, hk7⟩ := HKC.out _ HK1.out
    clear hk0 hk1 hk2 hk3 hk4 hk5 hk6 hk7
    go_wp2
    go_ret2
    exact ⟨none, 0, rfl, Own.nil _ _ _ _, HKW.out _ HK1.out⟩
  have HC := Lib.hid hc
  have h17 := chk17_ok hc
  have hb1 := h17.b1
  have hb2 := h17.b2
  by_cases hin : 0 ≤ i ∧ i < b
  case neg =>
    have HF : Hid (itmS p ax b rt ag x sd i = ([], 1)) := Lib.hid (by rw [itmS, if_pos hc, if_neg hin])
    have HBT : Hid (btw i 0 (b - 1) = false) := Lib.hid (by unfold btw; simp; omega)
    rw [HF.out]
    obtain ⟨o1, o2⟩ := pred_wrap hb1 hb2
    clear hc hin h17
    go_enter Tryd.func26, Tryd.ntmps26
    go_wp2_with fail
    generalize (w.alloc (.cells #[.int .u64 p, .slice A n ca, .bool inv, .int .i64 b, .slice X m cx, .slice S s cs, .int .i64 rt, .int .i64 ag] 43)) = V0 at *
    refine (chk17_calls p A ca n inv b X cx m S cs s rt ag ax x sd _ HN.out HM.out HS.out HP.out (HR.out.below (HKW.out _ HK0.out)) hl HW.out (HRX.out.below (HKW.out _ HK0.out)) hlm (HT.out.below (HKW.out _ HK0.out))).mono ?_
    rw [HC.out]
    rintro e w1 ⟨rfl, hb⟩
    have HK1 := Lib.hid (HKN.out _ _ HK0.out hb)
    clear hb
    obtain ⟨hk0, hk1, hk2, hk3, hk4, hk5, hk6, hk7⟩ := HKC.out _ HK1.out
    go_wp2_with fail
    refine (between_calls i 0 (b - 1) _).mono ?_
    rw [HBT.out]
    rintro e w2 ⟨rfl, rfl⟩
    go_wp2
    go_ret2
    exact ⟨none, 0, rfl, Own.nil _ _ _ _, HKW.out _ HK1.out⟩
  have HBT : Hid (btw i 0 (b - 1) = true) := Lib.hid (by unfold btw; simp; omega)
  have hk7 := chk7_ok h17.chk
  have hlen := h17.len
  have hN1 := hk7.dims.pos.prod
  have hN4 := hk7.dims.all
  have HF : Hid (itmS p ax b rt ag x sd i = ((x.drop (i.toNat * (prodL (dimsA ax)).toNat)).take (prodL (dimsA ax)).toNat, 0)) := Lib.hid (by rw [itmS, if_pos hc, if_pos hin])
  obtain ⟨hi0, hi1⟩ := hin
  obtain ⟨N, hN⟩ := Int.eq_ofNat_of_zero_le (show 0 ≤ prodL (dimsA ax) by omega)
  rw [hN] at hlen hN1 hN4 HF
  obtain ⟨i, rfl⟩ := Int.eq_ofNat_of_zero_le hi0
  obtain ⟨b, rfl⟩ := Int.eq_ofNat_of_zero_le (show 0 ≤ b by omega)
  rw [Int.toNat_natCast, Int.toNat_natCast] at HF
  have hmb : m = N * b := by have h1 := HM.out; rw [h1] at hlen; exact_mod_cast hlen
  obtain ⟨q, hq⟩ : ∃ q, q = i * N := ⟨_, rfl⟩
  have hit := item_facts (N := N) (b := b) (i := i) (by omega) (by omega) (by omega) (by omega) hmb hq
  have hq1 := hit.q1
  have hq2 := hit.q2
  have hm1 := hit.m1
  rw [← hq] at HF
  obtain ⟨xa, rfl⟩ := HRX.out.some_of (by intro h0; have h1 := nums_length .u64 x; have h2 := HM.out; rw [h0] at h1; simp at h1; omega)
  have HLL : Hid (((x.drop q).take N).length = N) := Lib.hid (by rw [List.length_take, List.length_drop, HM.out]; omega)
  have hN6 : N ≤ 1000000 := by omega
  have hqc : q < cx := by omega
  have hqc1 : ¬ cx = q := by omega
  have hqc2 : ¬ q = cx := by omega
  have hqc3 : ¬ cx - q = 0 := by omega
  have hqc4 : (cx - q == 0) = false := by simp; omega
  have hqc5 : (cx == q) = false := by simp; omega
  have hqc6 : (q == cx) = false := by simp; omega
  rw [HF.out, show (((x.drop q).take N, (0 : Int)).1).length = N from HLL.out]
  clear hc h17 hk7 hlen hN1 hN4 hN hb1 hb2 hi0 hi1 hq hmb
  obtain ⟨_, _, hm6, _, d1, d2, d3, d4, e1, e2, a1, a2⟩ := hit
  clear hm6 hm1 d4 e2 a2
  go_enter Tryd.func26, Tryd.ntmps26
  go_wp2_with fail
  generalize (w.alloc (.cells #[.int .u64 p, .slice A n ca, .bool inv, .int .i64 (b : Int), .slice (some xa) m cx, .slice S s cs, .int .i64 rt, .int .i64 ag] 43)) = V0 at *
  refine (chk17_calls p A ca n inv b (some xa) cx m S cs s rt ag ax x sd _ HN.out HM.out HS.out HP.out (HR.out.below (HKW.out _ HK0.out)) hl HW.out (HRX.out.below (HKW.out _ HK0.out)) hlm (HT.out.below (HKW.out _ HK0.out))).mono ?_
  rw [HC.out]
  rintro e w1 ⟨rfl, hb⟩
  have HK1 := Lib.hid (HKN.out _ _ HK0.out hb)
  clear hb
  obtain ⟨hk0, hk1, hk2, hk3, hk4, hk5, hk6, hk7⟩ := HKC.out _ HK1.out
  go_wp2_with fail
  refine (between_calls i 0 (b - 1) _).mono ?_
  rw [HBT.out]
  rintro e w2 ⟨rfl, rfl⟩
  go_wp2_with fail
  refine (clone_some (xa.add q) N (cx - q) ((x.drop q).take N) _ HLL.out (((HRX.out.below (HKW.out _ HK1.out)).drop q).take N) hN6).mono ?_
  rintro e w3 ⟨B, c, rfl, ho, hb⟩
  have HK3 := Lib.hid (HKN.out _ _ HK1.out hb)
  have HO := Lib.hid (ho.mono (HKW.out _ HK1.out).size)
  clear hb ho
  go_wp2
  go_ret2
  exact ⟨_, _, rfl, HO.out, HKW.out _ HK3.out⟩
end Go.Proofs.YtohcoidbncbijaaDoor.P
