
/- The contracts of brackenref07.Few and brackenref17.Few, with what their answer says. Conditions: words of their kinds; slices read as lists. -/
import Derived.Test.YtohcoidbncbijaaDoorPlI
namespace Go.Proofs.YtohcoidbncbijaaDoor.P
open Go.RowKit
set_option linter.unusedVariables false
set_option linter.unusedSimpArgs false
set_option maxRecDepth 100000 in
theorem few7_tells (A : Option Addr) (c n : Nat) (ax : List (Int × Bool)) (b : Int) (w : World) (hn : ax.length = n) (hr : Row w A (axR ax)) (hl : n ≤ 8796093022208) (hw : ∀ a ∈ ax, i64 a.1) :
    Calls Tryd.prog 21 #[.slice A n c, .int .i64 b] w fun e w' => ∃ r, e = .returned (.bool r) ∧ (r = true → Dims (dimsA ax) → prodL (dimsA ax) ≤ b) ∧ Below w.heap.size w w' := by
  have HR := Lib.hid hr
  have HN := Lib.hid hn
  have HDN : Hid ((dimsA ax).length = n) := Lib.hid (by rw [dimsA_length]; exact hn)
  have HDW := Lib.hid (dimsA_i64 hw)
  have hl2 : n ≤ 9223372036854775807 := by omega
  have HSAY : Hid ((((allS (dimsA ax)).2 != 0) || decide ((allS (dimsA ax)).1 ≤ b)) = true → Dims (dimsA ax) → prodL (dimsA ax) ≤ b) := Lib.hid (by
    intro h hd
    rw [allS_yes hd] at h
    simpa using h)
  clear hr hn hw
  generalize hg1 : decide ((n : Int) ≤ 10) = b1
  generalize hg2 : ((allS (dimsA ax)).2 != 0) = b2 at *
  generalize hg3 : decide ((allS (dimsA ax)).1 ≤ b) = b3 at *
  cases b1 <;> cases b2 <;> cases b3
  all_goals
    go_enter Tryd.func21, Tryd.ntmps21
    go_wp2_with fail
    refine (rdims7_calls _ _ _ _ _ HN.out HR.out hl).mono ?_
    rintro e w1 ⟨B, b', rfl, ho, hb⟩
    have HB := Lib.hid hb
    have HO := Lib.hid ho.row
    clear ho hb
    go_wp2_with fail
    refine (r05_all_n _ _ _ _ _ HDN.out HO.out hl2 HDW.out).mono ?_
    rintro e w2 ⟨rfl, rfl⟩
    go_wp2
    go_ret
    exact ⟨_, rfl, (by first | exact fun _ hd => HSAY.out rfl hd | exact fun h _ => Bool.noConfusion h), HB.out⟩
set_option maxRecDepth 100000 in
theorem r17few_tells (p : Int) (A : Option Addr) (ca n : Nat) (inv : Bool) (b : Int) (X : Option Addr) (cx m : Nat) (S : Option Addr) (cs s : Nat) (rt ag : Int) (ax : List (Int × Bool)) (w : World) (hn : ax.length = n) (hr : Row w A (axR ax)) (hl : n ≤ 8796093022208) (hw : ∀ a ∈ ax, i64 a.1) :
    Calls Tryd.prog 25 #[.agg #[.int .u64 p, .slice A n ca, .bool inv, .int .i64 b, .slice X m cx, .slice S s cs, .int .i64 rt, .int .i64 ag], .int .i64 60] w fun e w' => ∃ r, e = .returned (.bool r) ∧ (r = true → Dims (dimsA ax) → prodL (dimsA ax) ≤ 60) ∧ Below w.heap.size w w' := by
  have HR := Lib.hid hr
  have HN := Lib.hid hn
  have HW := Lib.hid hw
  clear hr hn hw
  obtain ⟨KB, hKB⟩ : ∃ KB : World → Prop, KB = fun ws => Below w.heap.size w ws ∧ w.heap.size < ws.heap.size ∧ ws.cell? ⟨w.heap.size, 0, none⟩ = some (.int .u64 p) ∧ ws.cell? ⟨w.heap.size, 1, none⟩ = some (.slice A n ca) ∧ ws.cell? ⟨w.heap.size, 2, none⟩ = some (.bool inv) ∧ ws.cell? ⟨w.heap.size, 3, none⟩ = some (.int .i64 b) ∧ ws.cell? ⟨w.heap.size, 4, none⟩ = some (.slice X m cx) ∧ ws.cell? ⟨w.heap.size, 5, none⟩ = some (.slice S s cs) ∧ ws.cell? ⟨w.heap.size, 6, none⟩ = some (.int .i64 rt) ∧ ws.cell? ⟨w.heap.size, 7, none⟩ = some (.int .i64 ag) := ⟨_, rfl⟩
  have HK0 : Hid (KB (w.alloc (.cells #[.int .u64 p, .slice A n ca, .bool inv, .int .i64 b, .slice X m cx, .slice S s cs, .int .i64 rt, .int .i64 ag] 43))) := Lib.hid (by rw [hKB]; exact ⟨(Below.refl _ _).alloc (Nat.le_refl _) _, by simp, World.news_of_block (cs := #[.int .u64 p, .slice A n ca, .bool inv, .int .i64 b, .slice X m cx, .slice S s cs, .int .i64 rt, .int .i64 ag]) (t := 43) (fr := (0, 0)) (heap_alloc_new w _) 0 _ rfl, World.news_of_block (cs := #[.int .u64 p, .slice A n ca, .bool inv, .int .i64 b, .slice X m cx, .slice S s cs, .int .i64 rt, .int .i64 ag]) (t := 43) (fr := (0, 0)) (heap_alloc_new w _) 1 _ rfl, World.news_of_block (cs := #[.int .u64 p, .slice A n ca, .bool inv, .int .i64 b, .slice X m cx, .slice S s cs, .int .i64 rt, .int .i64 ag]) (t := 43) (fr := (0, 0)) (heap_alloc_new w _) 2 _ rfl, World.news_of_block (cs := #[.int .u64 p, .slice A n ca, .bool inv, .int .i64 b, .slice X m cx, .slice S s cs, .int .i64 rt, .int .i64 ag]) (t := 43) (fr := (0, 0)) (heap_alloc_new w _) 3 _ rfl, World.news_of_block (cs := #[.int .u64 p, .slice A n ca, .bool inv, .int .i64 b, .slice X m cx, .slice S s cs, .int .i64 rt, .int .i64 ag]) (t := 43) (fr := (0, 0)) (heap_alloc_new w _) 4 _ rfl, World.news_of_block (cs := #[.int .u64 p, .slice A n ca, .bool inv, .int .i64 b, .slice X m cx, .slice S s cs, .int .i64 rt, .int .i64 ag]) (t := 43) (fr := (0, 0)) (heap_alloc_new w _) 5 _ rfl, World.news_of_block (cs := #[.int .u64 p, .slice A n ca, .bool inv, .int .i64 b, .slice X m cx, .slice S s cs, .int .i64 rt, .int .i64 ag]) (t := 43) (fr := (0, 0)) (heap_alloc_new w _) 6 _ rfl, World.news_of_block (cs := #[.int .u64 p, .slice A n ca, .bool inv, .int .i64 b, .slice X m cx, .slice S s cs, .int .i64 rt, .int .i64 ag]) (t := 43) (fr := (0, 0)) (heap_alloc_new w _) 7 _ rfl⟩)
  have HKW : Hid (∀ ws, KB ws → Below w.heap.size w ws) := Lib.hid fun ws h => by rw [hKB] at h; exact h.1
  have HKN : Hid (∀ ws ws', KB ws → Below ws.heap.size ws ws' → KB ws') := Lib.hid fun ws ws' h hb => by
    rw [hKB] at h ⊢
    obtain ⟨h1, h4, c0, c1, c2, c3, c4, c5, c6, c7⟩ := h
    exact ⟨h1.trans (hb.mono (Nat.le_of_lt h4)), Nat.lt_of_lt_of_le h4 hb.size, (hb.cell h4).trans c0, (hb.cell h4).trans c1, (hb.cell h4).trans c2, (hb.cell h4).trans c3, (hb.cell h4).trans c4, (hb.cell h4).trans c5, (hb.cell h4).trans c6, (hb.cell h4).trans c7⟩
  have HKS : Hid (∀ ws, KB ws → w.heap.size < ws.heap.size) := Lib.hid fun ws h => by rw [hKB] at h; exact h.2.1
  have HKC : Hid (∀ ws, KB ws → ws.cell? ⟨w.heap.size, 0, none⟩ = some (.int .u64 p) ∧ ws.cell? ⟨w.heap.size, 1, none⟩ = some (.slice A n ca) ∧ ws.cell? ⟨w.heap.size, 2, none⟩ = some (.bool inv) ∧ ws.cell? ⟨w.heap.size, 3, none⟩ = some (.int .i64 b) ∧ ws.cell? ⟨w.heap.size, 4, none⟩ = some (.slice X m cx) ∧ ws.cell? ⟨w.heap.size, 5, none⟩ = some (.slice S s cs) ∧ ws.cell? ⟨w.heap.size, 6, none⟩ = some (.int .i64 rt) ∧ ws.cell? ⟨w.heap.size, 7, none⟩ = some (.int .i64 ag)) := Lib.hid fun ws h => by rw [hKB] at h; exact h.2.2
  clear hKB
  cases f1 : decide ((m : Int) ≤ 240) <;> cases f2 : decide ((s : Int) ≤ 10)
  all_goals
    go_enter Tryd.func25, Tryd.ntmps25
    go_wp2_with fail
    generalize (w.alloc (.cells #[.int .u64 p, .slice A n ca, .bool inv, .int .i64 b, .slice X m cx, .slice S s cs, .int .i64 rt, .int .i64 ag] 43)) = V0 at *
    refine (few7_tells A ca n ax 60 _ HN.out (HR.out.below (HKW.out _ HK0.out)) hl HW.out).mono ?_
    rintro e w1 ⟨r, rfl, hs, hb⟩
    have HK1 := Lib.hid (HKN.out _ _ HK0.out hb)
    have HSY := Lib.hid hs
    clear hb hs
    obtain ⟨hk0, hk1, hk2, hk3, hk4, hk5, hk6, hk7⟩ := HKC.out _ HK1.out
    cases r
    all_goals
      go_wp2
      go_ret
      exact ⟨_, rfl, (by first | exact fun h _ => Bool.noConfusion h | exact fun _ hd => HSY.out trivial hd | exact fun _ hd => HSY.out rfl hd | (intro h; simp at h; done) | (intro h; exact absurd h (by decide))), HKW.out _ HK1.out⟩
end Go.Proofs.YtohcoidbncbijaaDoor.P
