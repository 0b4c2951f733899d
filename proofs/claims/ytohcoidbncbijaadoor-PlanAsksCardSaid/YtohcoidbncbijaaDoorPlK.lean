
/- The law PlanAsks, walked. Conditions: words of their kinds; slices read as lists; the library's table lies as it was laid. -/
import Derived.Test.YtohcoidbncbijaaDoorPlI
import Derived.Test.YtohcoidbncbijaaDoorPlJ
import Derived.Test.YtohcoidbncbijaaDoorGrX
import Derived.Test.YtohcoidbncbijaaDoorRound3
namespace Go.Proofs.YtohcoidbncbijaaDoor.P
open Go.RowKit
set_option linter.unusedVariables false
set_option linter.unusedSimpArgs false
theorem itmS_len (p : Int) (ax : List (Int × Bool)) (b rt ag : Int) (x sd : List Int) (i : Int) : (itmS p ax b rt ag x sd i).1.length ≤ x.length := by
  unfold itmS
  split
  · split
    · dsimp only; rw [List.length_take, List.length_drop]; omega
    · simp
  · simp
set_option maxRecDepth 100000 in
set_option maxHeartbeats 4000000 in
theorem planAsks_walk (p : Int) (A : Option Addr) (ca : Nat) (ax : List (Int × Bool)) (inv : Bool) (b : Int) (X : Option Addr) (cx : Nat) (x : List Int) (S : Option Addr) (cs : Nat) (sd : List Int) (rt ag : Int) (i : Int) (w : World) (hp : U64 p) (hib : i64 b) (hirt : i64 rt) (hiag : i64 ag)
    (gA : Row w A (axR ax) ∧ ax.length * 16 ≤ 140737488351232 ∧ ax.length ≤ ca ∧ ax.length ≤ 9223372036854775807 ∧ ∀ x ∈ ax, (Lit.int .i64 x.1).wf = true)
    (gX : Row w X (nums .u64 x) ∧ x.length * 8 ≤ 140737488351232 ∧ x.length ≤ cx ∧ x.length ≤ 9223372036854775807 ∧ ∀ y ∈ x, (Lit.int .u64 y).wf = true)
    (gS : Row w S (nums .u64 sd) ∧ sd.length * 8 ≤ 140737488351232 ∧ sd.length ≤ cs ∧ sd.length ≤ 9223372036854775807 ∧ ∀ y ∈ sd, (Lit.int .u64 y).wf = true) (hi : i64 i) (hT : Tab w) :
    Calls Tryd.prog 4 #[.agg #[.int .u64 p, .slice A ax.length ca, .bool inv, .int .i64 b, .slice X x.length cx, .slice S sd.length cs, .int .i64 rt, .int .i64 ag], .int .i64 i] w fun e w' => e = .returned (.bool true) ∧ Below w.heap.size w w' := by
  have HP := Lib.hid hp
  have HR := Lib.hid gA.1
  have HRX := Lib.hid gX.1
  have HT := Lib.hid hT
  have HIB := Lib.hid hib
  have HW : Hid (∀ a ∈ ax, i64 a.1) := Lib.hid fun a ha => i64_wf (gA.2.2.2.2 a ha)
  have hla := gA.2.1
  have hlx := gX.2.1
  have hcx := gX.2.2.1
  have hls := gS.2.1
  clear hp gA gX gS hT
  generalize hn : ax.length = n at *
  generalize hm : x.length = m at *
  generalize hs : sd.length = s at *
  have HN := Lib.hid hn
  have HM := Lib.hid hm
  have HS := Lib.hid hs
  have HL : Hid (n ≤ 8796093022208) := Lib.hid (by omega)
  have HLM : Hid (m ≤ 9223372036854775807) := Lib.hid (by omega)
  have HCX := Lib.hid hcx
  have HM8 : Hid (m * 8 ≤ 140737488351232) := Lib.hid hlx
  clear hn hm hs hla hlx hls hcx
  obtain ⟨KB, hKB⟩ : ∃ KB : World → Prop, KB = fun ws => Below w.heap.size w ws ∧ w.heap.size < ws.heap.size ∧ ws.cell? ⟨w.heap.size, 0, none⟩ = some (.int .u64 p) ∧ ws.cell? ⟨w.heap.size, 1, none⟩ = some (.slice A n ca) ∧ ws.cell? ⟨w.heap.size, 2, none⟩ = some (.bool inv) ∧ ws.cell? ⟨w.heap.size, 3, none⟩ = some (.int .i64 b) ∧ ws.cell? ⟨w.heap.size, 4, none⟩ = some (.slice X m cx) ∧ ws.cell? ⟨w.heap.size, 5, none⟩ = some (.slice S s cs) ∧ ws.cell? ⟨w.heap.size, 6, none⟩ = some (.int .i64 rt) ∧ ws.cell? ⟨w.heap.size, 7, none⟩ = some (.int .i64 ag) := ⟨_, rfl⟩
  have HK0 : Hid (KB (w.alloc (.cells #[.int .u64 p, .slice A n ca, .bool inv, .int .i64 b, .slice X m cx, .slice S s cs, .int .i64 rt, .int .i64 ag] 43))) := Lib.hid (by rw [hKB]; exact ⟨(Below.refl _ _).alloc (Nat.le_refl _) _, by simp, World.news_of_block (cs := #[.int .u64 p, .slice A n ca, .bool inv, .int .i64 b, .slice X m cx, .slice S s cs, .int .i64 rt, .int .i64 ag]) (t := 43) (fr := (0, 0)) (heap_alloc_new w _) 0 _ rfl, World.news_of_block (cs := #[.int .u64 p, .slice A n ca, .bool inv, .int .i64 b, .slice X m cx, .slice S s cs, .int .i64 rt, .int .i64 ag]) (t := 43) (fr := (0, 0)) (heap_alloc_new w _) 1 _ rfl, World.news_of_block (cs := #[.int .u64 p, .slice A n ca, .bool inv, .int .i64 b, .slice X m cx, .slice S s cs, .int .i64 rt, .int .i64 ag]) (t := 43) (fr := (0, 0)) (heap_alloc_new w _) 2 _ rfl, World.news_of_block (cs := #[.int .u64 p, .slice A n ca, .bool inv, .int .i64 b, .slice X m cx, .slice S s cs, .int .i64 rt, .int .i64 ag]) (t := 43) (fr := (0, 0)) (heap_alloc_new w _) 3 _ rfl, World.news_of_block (cs := #[.int .u64 p, .slice A n ca, .bool inv, .int .i64 b, .slice X m cx, .slice S s cs, .int .i64 rt, .int .i64 ag]) (t := 43) (fr := (0, 0)) (heap_alloc_new w _) 4 _ rfl, World.news_of_block (cs := #[.int .u64 p, .slice A n ca, .bool inv, .int .i64 b, .slice X m cx, .slice S s cs, .int .i64 rt, .int .i64 ag]) (t := 43) (fr := (0, 0)) (heap_alloc_new w _) 5 _ rfl, World.news_of_block (cs := #[.int .u64 p, .slice A n ca, .bool inv, .int .i64 b, .slice X m cx, .slice S s cs, .int .i64 rt, .int .i64 ag]) (t := 43) (fr := (0, 0)) (heap_alloc_new w _) 6 _ rfl, World.news_of_block (cs := #[.int .u64 p, .slice A n ca, .bool inv, .int .i64 b, .slice X m cx, .slice S s cs, .int .i64 rt, .int .i64 ag]) (t := 43) (fr := (0, 0)) (heap_alloc_new w _) 7 _ rfl⟩)
  have HKW : Hid (∀ ws, KB ws → Below w.heap.size w ws) := Lib.hid fun ws h => by rw [hKB] at h; exact h.1
  have HKN : Hid (∀ ws ws', KB ws → Below ws.heap.size ws ws' → KB ws') := Lib.hid fun ws ws' h hb => by
    rw [hKB] at h ⊢
    obtain ⟨h1, h4, c0, c1, c2, c3, c4, c5, c6, c7⟩ := h
    exact ⟨h1.trans (hb.mono (Nat.le_of_lt h4)), Nat.lt_of_lt_of_le h4 hb.size, (hb.cell h4).trans c0, (hb.cell h4).trans c1, (hb.cell h4).trans c2, (hb.cell h4).trans c3, (hb.cell h4).trans c4, (hb.cell h4).trans c5, (hb.cell h4).trans c6, (hb.cell h4).trans c7⟩
  have HKS : Hid (∀ ws, KB ws → w.heap.size < ws.heap.size) := Lib.hid fun ws h => by rw [hKB] at h; exact h.2.1
  have HKC : Hid (∀ ws, KB ws → ws.cell? ⟨w.heap.size, 0, none⟩ = some (.int .u64 p) ∧ ws.cell? ⟨w.heap.size, 1, none⟩ = some (.slice A n ca) ∧ ws.cell? ⟨w.heap.size, 2, none⟩ = some (.bool inv) ∧ ws.cell? ⟨w.heap.size, 3, none⟩ = some (.int .i64 b) ∧ ws.cell? ⟨w.heap.size, 4, none⟩ = some (.slice X m cx) ∧ ws.cell? ⟨w.heap.size, 5, none⟩ = some (.slice S s cs) ∧ ws.cell? ⟨w.heap.size, 6, none⟩ = some (.int .i64 rt) ∧ ws.cell? ⟨w.heap.size, 7, none⟩ = some (.int .i64 ag)) := Lib.hid fun ws h => by rw [hKB] at h; exact h.2.2
  have HKM : Hid (∀ B ws ws', KB ws → Below B ws ws' → w.heap.size < B → KB ws') := Lib.hid fun B ws ws' h hb hB => by
    rw [hKB] at h ⊢
    obtain ⟨h1, h4, c0, c1, c2, c3, c4, c5, c6, c7⟩ := h
    exact ⟨h1.trans (hb.mono (Nat.le_of_lt hB)), Nat.lt_of_lt_of_le h4 hb.size, (hb.cell hB).trans c0, (hb.cell hB).trans c1, (hb.cell hB).trans c2, (hb.cell hB).trans c3, (hb.cell hB).trans c4, (hb.cell hB).trans c5, (hb.cell hB).trans c6, (hb.cell hB).trans c7⟩
  clear hKB
  have HI := Lib.hid hi
  obtain ⟨a1, e1, ha⟩ : ∃ a e, itmS p ax b rt ag x sd i = (a, e) := ⟨_, _, rfl⟩
  have ha2 := itmS_len p ax b rt ag x sd i
  rw [ha] at ha2
  have HA := Lib.hid ha
  obtain ⟨ka, hka⟩ : ∃ k, a1.length = k := ⟨_, rfl⟩
  have HKA : Hid (((a1, e1).1 : List Int).length = ka) := Lib.hid hka
  have HKA2 : Hid (a1.length = ka) := Lib.hid hka
  have HLA : Hid (ka ≤ 9223372036854775807) := Lib.hid (by have h1 := HM.out; have h2 := HLM.out; dsimp only at ha2; omega)
  have hla8 : ka ≤ 9223372036854775806 := by have h1 := HM8.out; have h2 := HM.out; dsimp only at ha2; omega
  have hmx : Tryd.prog.follows .mixedOrders = true := by kernel_rfl
  have HMX := Lib.hid hmx
  clear ha ha2 hka hi hmx
  go_enter Tryd.func4, Tryd.ntmps4
  go_wp2_with fail
  generalize (w.alloc (.cells #[.int .u64 p, .slice A n ca, .bool inv, .int .i64 b, .slice X m cx, .slice S s cs, .int .i64 rt, .int .i64 ag] 43)) = V0 at *
  refine (live17_calls _ (HT.out.below (HKW.out _ HK0.out))).mono ?_
  rintro e w1 ⟨rfl, hb⟩
  have HK1 := Lib.hid (HKN.out _ _ HK0.out hb)
  clear hb
  obtain ⟨hk0, hk1, hk2, hk3, hk4, hk5, hk6, hk7⟩ := HKC.out _ HK1.out
  go_wp2_with fail
  refine (r17few_calls p A ca n inv b X cx m S cs s rt ag ax _ HN.out (HR.out.below (HKW.out _ HK1.out)) HL.out HW.out).mono ?_
  rintro e w2 ⟨r, rfl, hb⟩
  have HK2 := Lib.hid (HKN.out _ _ HK1.out hb)
  clear hb hk0 hk1 hk2 hk3 hk4 hk5 hk6 hk7
  obtain ⟨hk0, hk1, hk2, hk3, hk4, hk5, hk6, hk7⟩ := HKC.out _ HK2.out
  cases r
  case false =>
    go_wp2
    go_ret
    exact ⟨rfl, HKW.out _ HK2.out⟩
  have HR2 := Lib.hid (HRX.out.below (HKW.out _ HK2.out))
  have hm8 := HM8.out
  go_wp2_with (at_builtin; go_loud (refine append_any _ Tryd.underlying41 info_u64 rfl _ _ rfl w2.heap.size 0 0 m cx none X [] x rfl rfl (Own.nil _ _ _ _) HR2.out HM.out (Nat.le_refl _) (by omega) (by omega) ?_); intro V cv w3 hown hbel hgrow; have HK3 := Lib.hid (HKN.out _ _ HK2.out hbel); clear hk0 hk1 hk2 hk3 hk4 hk5 hk6 hk7; obtain ⟨hk0, hk1, hk2, hk3, hk4, hk5, hk6, hk7⟩ := HKC.out _ HK3.out)
  have HV3 : Hid (Row w3 V (nums .u64 x)) := Lib.hid (by
    have h1 := hown.row
    simpa using h1)
  have HVW := HV3
  clear hown hbel hgrow HR2 hm8
  refine (pitem_calls p A ca n inv b X cx m S cs s rt ag ax x sd i _ HN.out HM.out HS.out HP.out (HR.out.below (HKW.out _ HK3.out)) HL.out HW.out (HRX.out.below (HKW.out _ HK3.out)) HLM.out HCX.out HI.out (HT.out.below (HKW.out _ HK3.out))).mono ?_
  rw [HA.out, HKA.out]
  rintro e w4 ⟨Z4, z4, rfl, ho, hb⟩
  have HK4 := Lib.hid (HKN.out _ _ HK3.out hb)
  have HO4 := Lib.hid ho
  have HX4 : Hid (Below w3.heap.size w3 w4) := Lib.hid hb
  clear ho hb hk0 hk1 hk2 hk3 hk4 hk5 hk6 hk7
  obtain ⟨hk0, hk1, hk2, hk3, hk4, hk5, hk6, hk7⟩ := HKC.out _ HK4.out
  go_wp2_with fail
  refine (r17item_calls p A ca n inv b X cx m S cs s rt ag ax x sd i _ HN.out HM.out HS.out HP.out (HR.out.below (HKW.out _ HK4.out)) HL.out HW.out (HRX.out.below (HKW.out _ HK4.out)) HLM.out HCX.out HI.out).mono ?_
  rw [HA.out, HKA.out]
  rintro e w5 ⟨Z5, z5, rfl, ho, hb⟩
  have HK5 := Lib.hid (HKN.out _ _ HK4.out hb)
  have HO5 := Lib.hid (HO4.out.grown hb)
  have HX5 := Lib.hid (blT HX4.out hb)
  have HRB := Lib.hid ho.row
  clear ho hb hk0 hk1 hk2 hk3 hk4 hk5 hk6 hk7
  go_wp2
  have HKD : Hid (KB w5.drew) := Lib.hid (HKN.out _ _ HK5.out (Below.refl _ _).drew)
  have HOD : Hid (Own w5.drew w3.heap.size 22 1 Z4 ka z4 (nums .u64 a1)) := Lib.hid (HO5.out.drewN 1)
  have HXD : Hid (Below w3.heap.size w3 w5.drew) := Lib.hid HX5.out.drew
  have HBD : Hid (Row w5.drew Z5 (nums .u64 a1)) := Lib.hid (HRB.out.below (Below.refl _ _).drew)
  refine region_marks2 (k := 16) (S := (fun w' => w'.cell? ⟨w.heap.size, 0, none⟩ = some (.int .u64 p) ∧ w'.cell? ⟨w.heap.size, 1, none⟩ = some (.slice A n ca) ∧ w'.cell? ⟨w.heap.size, 2, none⟩ = some (.bool inv) ∧ w'.cell? ⟨w.heap.size, 3, none⟩ = some (.int .i64 b) ∧ w'.cell? ⟨w.heap.size, 4, none⟩ = some (.slice X m cx) ∧ w'.cell? ⟨w.heap.size, 5, none⟩ = some (.slice S s cs) ∧ w'.cell? ⟨w.heap.size, 6, none⟩ = some (.int .i64 rt) ∧ w'.cell? ⟨w.heap.size, 7, none⟩ = some (.int .i64 ag))) (T := fun _ => true) HMX.out rfl (HKC.out _ HKD.out) (fun hS => ?_)
  clear HK5 HO5 HX5 HRB
  generalize w5.drew = wD at *
  refine wpAnyT_take3 (i := 0) (v := ?_) rfl (by kernel_rfl) (by kernel_rfl) (by kernel_rfl) (by kernel_rfl) (by kernel_rfl) (fun _ _ _ h => h) hS (Or.inl ⟨by rfl, ?_⟩) ?_
  rotate_left
  · (intro w' hSw; (try dsimp only at hSw); go_simp; (try with_reducible rfl))
  (try simp only [Act.put, List.setIfInBounds_toArray, List.set_cons_zero, List.set_cons_succ])
  refine wpAnyT_take3 (i := 1) (v := ?_) rfl (by kernel_rfl) (by kernel_rfl) (by kernel_rfl) (by kernel_rfl) (by kernel_rfl) (fun _ _ _ h => h) hS (Or.inl ⟨by rfl, ?_⟩) ?_
  rotate_left
  · (intro w' hSw; (try dsimp only at hSw); go_simp; (try with_reducible rfl))
  (try simp only [Act.put, List.setIfInBounds_toArray, List.set_cons_zero, List.set_cons_succ])
  refine wpAnyT_one (i := 2) (by kernel_rfl) rfl (fun K hK => ?_)
  go_simp
  refine (same_n _ _ _ _ ka ka a1 a1 _ HKA2.out HKA2.out HOD.out.row HLA.out HBD.out).mono ?_
  rw [show decide (a1 = a1) = true from decide_eq_true rfl]
  rintro e w6 ⟨rfl, ⟨q6, rfl⟩⟩
  have HK6 := Lib.hid (HKN.out _ _ HKD.out (below_drewN (Below.refl _ _) q6))
  have HO6 := Lib.hid (HOD.out.drewN q6)
  have HX6 := Lib.hid (below_drewN HXD.out q6)
  generalize wD.drewN q6 = w6 at *
  refine hK _ _ (fun _ => HKC.out _ HK6.out) ?_
  clear hK K
  (try simp only [Act.put, List.setIfInBounds_toArray, List.set_cons_zero, List.set_cons_succ])
  clear hS
  have hS := HKC.out _ HK6.out
  refine wpAnyT_take3 (i := 3) (v := ?_) rfl (by kernel_rfl) (by kernel_rfl) (by kernel_rfl) (by kernel_rfl) (by kernel_rfl) (fun _ _ _ h => h) hS (Or.inl ⟨by rfl, ?_⟩) ?_
  rotate_left
  · (intro w' hSw; (try dsimp only at hSw); go_simp; (try with_reducible rfl))
  (try simp only [Act.put, List.setIfInBounds_toArray, List.set_cons_zero, List.set_cons_succ])
  refine wpAnyT_take3 (i := 4) (v := ?_) rfl (by kernel_rfl) (by kernel_rfl) (by kernel_rfl) (by kernel_rfl) (by kernel_rfl) (fun _ _ _ h => h) hS (Or.inl ⟨by rfl, ?_⟩) ?_
  rotate_left
  · (intro w' hSw; (try dsimp only at hSw); go_simp; (try with_reducible rfl))
  (try simp only [Act.put, List.setIfInBounds_toArray, List.set_cons_zero, List.set_cons_succ])
  refine wpAnyT_take3 (i := 5) (v := ?_) rfl (by kernel_rfl) (by kernel_rfl) (by kernel_rfl) (by kernel_rfl) (by kernel_rfl) (fun _ _ _ h => h) hS (Or.inl ⟨by rfl, ?_⟩) ?_
  rotate_left
  · (intro w' hSw; (try dsimp only at hSw); go_simp; (try with_reducible rfl))
  (try simp only [Act.put, List.setIfInBounds_toArray, List.set_cons_zero, List.set_cons_succ])
  refine wpAnyT_take3 (i := 6) (v := ?_) rfl (by kernel_rfl) (by kernel_rfl) (by kernel_rfl) (by kernel_rfl) (by kernel_rfl) (fun _ _ _ h => h) hS (Or.inl ⟨by rfl, ?_⟩) ?_
  rotate_left
  · (intro w' hSw; (try dsimp only at hSw); go_simp; (try with_reducible rfl))
  (try simp only [Act.put, List.setIfInBounds_toArray, List.set_cons_zero, List.set_cons_succ])
  refine wpAnyT_take3 (i := 7) (v := ?_) rfl (by kernel_rfl) (by kernel_rfl) (by kernel_rfl) (by kernel_rfl) (by kernel_rfl) (fun _ _ _ h => h) hS (Or.inl ⟨by rfl, ?_⟩) ?_
  rotate_left
  · (intro w' hSw; (try dsimp only at hSw); go_simp; (try with_reducible rfl))
  (try simp only [Act.put, List.setIfInBounds_toArray, List.set_cons_zero, List.set_cons_succ])
  refine wpAnyT_take3 (i := 8) (v := ?_) rfl (by kernel_rfl) (by kernel_rfl) (by kernel_rfl) (by kernel_rfl) (by kernel_rfl) (fun _ _ _ h => h) hS (Or.inl ⟨by rfl, ?_⟩) ?_
  rotate_left
  · (intro w' hSw; (try dsimp only at hSw); go_simp; (try with_reducible rfl))
  (try simp only [Act.put, List.setIfInBounds_toArray, List.set_cons_zero, List.set_cons_succ])
  refine wpAnyT_take3 (i := 9) (v := ?_) rfl (by kernel_rfl) (by kernel_rfl) (by kernel_rfl) (by kernel_rfl) (by kernel_rfl) (fun _ _ _ h => h) hS (Or.inl ⟨by rfl, ?_⟩) ?_
  rotate_left
  · (intro w' hSw; (try dsimp only at hSw); go_simp; (try with_reducible rfl))
  (try simp only [Act.put, List.setIfInBounds_toArray, List.set_cons_zero, List.set_cons_succ])
  refine wpAnyT_take3 (i := 11) (v := ?_) rfl (by kernel_rfl) (by kernel_rfl) (by kernel_rfl) (by kernel_rfl) (by kernel_rfl) (fun _ _ _ h => h) hS (Or.inl ⟨by rfl, ?_⟩) ?_
  rotate_left
  · (intro w' hSw; (try dsimp only at hSw); go_simp; (try with_reducible rfl))
  (try simp only [Act.put, List.setIfInBounds_toArray, List.set_cons_zero, List.set_cons_succ])
  refine wpAnyT_one (i := 10) (by kernel_rfl) rfl (fun K hK => ?_)
  go_simp
  refine (chk17_calls p A ca n inv b X cx m S cs s rt ag ax x sd _ HN.out HM.out HS.out HP.out (HR.out.below (HKW.out _ HK6.out)) HL.out HW.out (HRX.out.below (HKW.out _ HK6.out)) HLM.out (HT.out.below (HKW.out _ HK6.out))).mono ?_
  rintro e w7 ⟨rfl, hb⟩
  have HK7 := Lib.hid (HKN.out _ _ HK6.out hb)
  have HO7 := Lib.hid (HO6.out.grown hb)
  have HX7 := Lib.hid (blT HX6.out hb)
  clear hb
  refine hK _ _ (fun _ => HKC.out _ HK7.out) ?_
  clear hK K
  (try simp only [Act.put, List.setIfInBounds_toArray, List.set_cons_zero, List.set_cons_succ])
  clear hS
  have hS := HKC.out _ HK7.out
  refine wpAnyT_one (i := 12) (by kernel_rfl) rfl (fun K hK => ?_)
  go_simp
  refine (r17chk_calls p A ca n inv b X cx m S cs s rt ag ax x sd _ HN.out HM.out HS.out HP.out (HR.out.below (HKW.out _ HK7.out)) HL.out HW.out (HRX.out.below (HKW.out _ HK7.out)) HLM.out).mono ?_
  rintro e w8 ⟨rfl, hb⟩
  have HK8 := Lib.hid (HKN.out _ _ HK7.out hb)
  have HO8 := Lib.hid (HO7.out.grown hb)
  have HX8 := Lib.hid (blT HX7.out hb)
  clear hb
  refine hK _ _ (fun _ => HKC.out _ HK8.out) ?_
  clear hK K
  (try simp only [Act.put, List.setIfInBounds_toArray, List.set_cons_zero, List.set_cons_succ])
  clear hS
  have hS := HKC.out _ HK8.out
  refine wpAnyT_take3 (i := 13) (v := ?_) rfl (by kernel_rfl) (by kernel_rfl) (by kernel_rfl) (by kernel_rfl) (by kernel_rfl) (fun _ _ _ h => h) hS (Or.inl ⟨by rfl, ?_⟩) ?_
  rotate_left
  · (intro w' hSw; (try dsimp only at hSw); go_simp; (try with_reducible rfl))
  (try simp only [Act.put, List.setIfInBounds_toArray, List.set_cons_zero, List.set_cons_succ])
  refine wpAnyT_take3 (i := 14) (v := ?_) rfl (by kernel_rfl) (by kernel_rfl) (by kernel_rfl) (by kernel_rfl) (by kernel_rfl) (fun _ _ _ h => h) hS (Or.inl ⟨by rfl, ?_⟩) ?_
  rotate_left
  · (intro w' hSw; (try dsimp only at hSw); go_simp; (try with_reducible rfl))
  (try simp only [Act.put, List.setIfInBounds_toArray, List.set_cons_zero, List.set_cons_succ])
  refine wpAnyT_take3 (i := 15) (v := ?_) rfl (by kernel_rfl) (by kernel_rfl) (by kernel_rfl) (by kernel_rfl) (by kernel_rfl) (fun _ _ _ h => h) hS (Or.inl ⟨by rfl, ?_⟩) ?_
  rotate_left
  · (intro w' hSw; (try dsimp only at hSw); go_simp; (try with_reducible rfl))
  (try simp only [Act.put, List.setIfInBounds_toArray, List.set_cons_zero, List.set_cons_succ])
  refine wpAnyT_done (by kernel_rfl) ?_ _
  refine NoPanic.normal ?_
  go_wp2
  go_loopw [49] (fun i wr => ∃ (k : Nat) (cs' : List Int), k ≤ ka ∧ i = .int .i64 k ∧ Hid (Own wr w3.heap.size 22 1 Z4 ka z4 (nums .u64 cs')) ∧ Hid (Below w3.heap.size w3 wr)) (fun i _ => ka - (intOf i).toNat)
  case atStart => exact ⟨0, a1, Nat.zero_le _, rfl, HO8, HX8⟩
  case round =>
    obtain ⟨k, cs', hk, rfl, HCR, HBR⟩ := hrel
    by_cases hlt : k < ka
    · obtain ⟨g, cap, hzv, _, _⟩ := World.ownsRow.form HCR.out (show 0 < ka by omega)
      cases hzv
      have hlen : cs'.length = ka := by
        have h1 := HCR.out.len
        rw [nums_length] at h1
        omega
      have hcz : wr.cell? ⟨g, k, none⟩ = some (.int .u64 (cs'[k]'(by omega))) := by
        rw [HCR.out.cellAt k hlt]; exact nums_get .u64 _ k (by omega)
      have hfz : wr.frozen? ⟨g, k, none⟩ = false := HCR.out.frozenAt k
      have HGB := Lib.hid HCR.out.base
      generalize cs'[k]'(by omega) = u at *
      have HST : Hid (Own (wr.setCell ⟨g, k, none⟩ (.int .u64 (IntKind.u64.wrap (u + 1)))) w3.heap.size 22 1 (some ⟨g, 0, none⟩) ka z4 (nums .u64 (cs'.set k (IntKind.u64.wrap (u + 1))))) := Lib.hid (by
        have h1 := HCR.out.stored k (.int .u64 (IntKind.u64.wrap (u + 1)))
        rw [nums_set] at h1
        exact h1)
      have HSB := Lib.hid (Below.setCell (p := ⟨g, k, none⟩) HBR.out HGB.out.1 (.int .u64 (IntKind.u64.wrap (u + 1))))
      generalize hz : IntKind.u64.wrap (u + 1) = z at *
      go_wp2
      go_roundw
      case rel => exact ⟨k + 1, cs'.set k z, by omega, by go_num, HST, HSB⟩
      case measure => simp [intOf]; omega
    · have HK9 := Lib.hid (HKM.out _ _ _ HK3.out HBR.out (HKS.out _ HK3.out))
      obtain ⟨hk0, hk1, hk2, hk3, hk4, hk5, hk6, hk7⟩ := HKC.out _ HK9.out
      go_wp2_with fail
      refine (same_n _ _ _ _ m m x x _ HM.out HM.out (HRX.out.below (HKW.out _ HK9.out)) HLM.out (HVW.out.below HBR.out)).mono ?_
      rw [show decide (x = x) = true from decide_eq_true rfl]
      rintro e w99 ⟨rfl, ⟨q99, rfl⟩⟩
      have HB9 := Lib.hid (below_drewN (HKW.out _ HK9.out) q99)
      go_wp2
      go_ret
      exact ⟨by first | rfl | (simp; done), HB9.out⟩
end Go.Proofs.YtohcoidbncbijaaDoor.P
