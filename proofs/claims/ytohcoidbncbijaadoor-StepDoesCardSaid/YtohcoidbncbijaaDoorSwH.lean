
/- The law StepDoes, walked. Conditions: words of their kinds; slices read as lists; the library's table lies as it was laid. -/
import Derived.Test.YtohcoidbncbijaaDoorRdK
import Derived.Test.YtohcoidbncbijaaDoorStL
import Derived.Test.YtohcoidbncbijaaDoorStU
import Derived.Test.YtohcoidbncbijaaDoorGrF
import Derived.Test.YtohcoidbncbijaaDoorStK
namespace Go.Proofs.YtohcoidbncbijaaDoor.P
open Go.RowKit
set_option linter.unusedVariables false
set_option linter.unusedSimpArgs false
theorem doS16_u64 (p : Int) (ax : List (Int × Bool)) (inv : Bool) (s : Stp) (x : List Int) : ∀ d ∈ (doS16 p ax inv s x).1, U64 d := by
  unfold doS16
  split
  · exact stepDo_u64 p ax inv s x
  · intro d hd; cases hd
theorem doS16_len (p : Int) (ax : List (Int × Bool)) (inv : Bool) (s : Stp) (x : List Int) : (doS16 p ax inv s x).1.length ≤ x.length := by
  unfold doS16
  split
  · dsimp only; rw [stepDo_length]; exact Nat.le_refl _
  · simp
set_option maxRecDepth 100000 in
set_option maxHeartbeats 8000000 in
theorem stepDoes_walk (p : Int) (A : Option Addr) (ca : Nat) (ax : List (Int × Bool)) (inv : Bool) (s : Stp) (X : Option Addr) (cx : Nat) (x : List Int) (w : World) (hp : U64 p) (hr : Row w A (axR ax)) (hla : ax.length * 16 ≤ 140737488351232) (hcap : ax.length ≤ ca) (hwa : ∀ a ∈ ax, (Lit.int .i64 a.1).wf = true) (hs0 : i64 s.1) (hs2 : i64 s.2.2.1) (hs3 : i64 s.2.2.2.1) (hs4 : i64 s.2.2.2.2) (hrx : Row w X (nums .u64 x)) (hlx : x.length * 8 ≤ 140737488351232) (hwx : ∀ d ∈ x, (Lit.int .u64 d).wf = true) (hT : Tab w) :
    Calls Tryd.prog 16 #[.int .u64 p, .slice A ax.length ca, .bool inv, .agg #[.int .i64 s.1, .bool s.2.1, .int .i64 s.2.2.1, .int .i64 s.2.2.2.1, .int .i64 s.2.2.2.2], .slice X x.length cx] w fun e w' => e = .returned (.bool true) ∧ Below w.heap.size w w' := by
  obtain ⟨s0, s1, s2, s3, s4⟩ := s
  dsimp only at *
  have HP := Lib.hid hp
  have HR := Lib.hid hr
  have HT := Lib.hid hT
  have HW : Hid (∀ a ∈ ax, i64 a.1) := Lib.hid fun a ha => i64_wf (hwa a ha)
  clear hp hr hT hwa
  generalize hn : ax.length = n at *
  have HN := Lib.hid hn
  have HL : Hid (n ≤ 8796093022208) := Lib.hid (by omega)
  clear hn hla hcap
  have HRX := Lib.hid hrx
  have HWX : Hid (∀ d ∈ x, U64 d) := Lib.hid fun d hd => u64_wf (hwx d hd)
  clear hrx hwx
  generalize hm : x.length = m at *
  have HM := Lib.hid hm
  have HLM : Hid (m ≤ 9223372036854775807) := Lib.hid (by omega)
  have HM8 : Hid (m * 8 ≤ 140737488351232) := Lib.hid hlx
  clear hm hlx
  have hmx : Tryd.prog.follows .mixedOrders = true := by kernel_rfl
  have HMX := Lib.hid hmx
  clear hmx
  obtain ⟨yo, er, hd1⟩ : ∃ a e, doS16 p ax inv (s0, s1, s2, s3, s4) x = (a, e) := ⟨_, _, rfl⟩
  obtain ⟨za, zb, ep, hd2⟩ : ∃ a b e, predS p ax inv (s0, s1, s2, s3, s4) x = (a, b, e) := ⟨_, _, _, rfl⟩
  have hyl := doS16_len p ax inv (s0, s1, s2, s3, s4) x
  rw [hd1] at hyl
  dsimp only at hyl
  obtain ⟨L, hL⟩ : ∃ k, yo.length = k := ⟨_, rfl⟩
  have HLY : Hid (((yo, er).1 : List Int).length = L) := Lib.hid hL
  have HLZ : Hid (yo.length = L) := Lib.hid hL
  have HD1 := Lib.hid hd1
  have HD2 := Lib.hid hd2
  have hL4 : L ≤ 9223372036854775806 := by have h1 := HM.out; have h2 := HM8.out; omega
  have hL5 : L ≤ 9223372036854775807 := by omega
  clear hd1 hd2 hL hyl
  have hbA : Below w.heap.size w (w.alloc (.cells #[.int .i64 s0, .bool s1, .int .i64 s2, .int .i64 s3, .int .i64 s4] 39)) := (Below.refl _ _).alloc (Nat.le_refl _) _
  have HBX : Hid (Row (w.alloc (.cells #[.int .i64 s0, .bool s1, .int .i64 s2, .int .i64 s3, .int .i64 s4] 39)) (some ⟨w.heap.size, 0, none⟩) [.int .i64 s0, .bool s1, .int .i64 s2, .int .i64 s3, .int .i64 s4]) := Lib.hid (row_new w [.int .i64 s0, .bool s1, .int .i64 s2, .int .i64 s3, .int .i64 s4] _)
  have HBA := Lib.hid hbA
  have HTA := Lib.hid (HT.out.below hbA)
  clear hbA
  go_enter Tryd.func16, Tryd.ntmps16
  go_wp2_with fail
  generalize (w.alloc (.cells #[.int .i64 s0, .bool s1, .int .i64 s2, .int .i64 s3, .int .i64 s4] 39)) = V at *
  refine (live16_calls V HTA.out).mono ?_
  rintro e w1 ⟨rfl, hb1⟩
  have HB1 := Lib.hid (blT HBA.out hb1)
  have HBX1 := Lib.hid (HBX.out.below hb1)
  clear hb1 HBX HBA HTA
  go_wp2_with fail
  refine (few7_calls _ _ _ ax _ _ HN.out (HR.out.below HB1.out) HL.out HW.out).mono ?_
  rintro e w2 ⟨r, rfl, hb⟩
  have HB2 := Lib.hid (blT HB1.out hb)
  have HBX2 := Lib.hid (HBX1.out.below hb)
  clear hb HB1 HBX1
  cases r
  case false =>
    go_wp2
    go_ret
    exact ⟨rfl, HB2.out⟩
  by_cases h50 : 40 < m
  case pos =>
    have f50 : decide ((40 : Int) < (m : Int)) = true := by simp; omega
    have f51 : decide (40 < m) = true := by simp; omega
    go_wp2
    go_ret
    exact ⟨by first | rfl | (simp; done), HB2.out⟩
  have f50 : decide ((40 : Int) < (m : Int)) = false := by simp; omega
  have f51 : decide (40 < m) = false := by simp; omega
  have b0 : w2.cell? ⟨w.heap.size, 0, none⟩ = some (.int .i64 s0) := HBX2.out.cell (i := 0) rfl
  have b1 : w2.cell? ⟨w.heap.size, 1, none⟩ = some (.bool s1) := HBX2.out.cell (i := 1) rfl
  have b2 : w2.cell? ⟨w.heap.size, 2, none⟩ = some (.int .i64 s2) := HBX2.out.cell (i := 2) rfl
  have b3 : w2.cell? ⟨w.heap.size, 3, none⟩ = some (.int .i64 s3) := HBX2.out.cell (i := 3) rfl
  have b4 : w2.cell? ⟨w.heap.size, 4, none⟩ = some (.int .i64 s4) := HBX2.out.cell (i := 4) rfl
  have HRX2 := Lib.hid (HRX.out.below HB2.out)
  have hm8 := HM8.out
  go_wp2_with (at_builtin; (refine append_any w2 Tryd.underlying41 info_u64 rfl _ _ rfl w2.heap.size 0 0 m cx none X [] x rfl rfl (Own.nil _ _ _ _) HRX2.out HM.out (Nat.le_refl _) (by omega) (by omega) ?_); intro V0 cv w3 hown hbel hgrow; have HV3 : Hid (Row w3 V0 (nums .u64 x)) := Lib.hid (by have h1 := hown.row; simpa using h1); have HB3 := Lib.hid (blT HB2.out hbel); have HBX3 := Lib.hid (HBX2.out.below hbel); clear hown hbel hgrow b0 b1 b2 b3 b4; have b0 : w3.cell? ⟨w.heap.size, 0, none⟩ = some (.int .i64 s0) := HBX3.out.cell (i := 0) rfl; have b1 : w3.cell? ⟨w.heap.size, 1, none⟩ = some (.bool s1) := HBX3.out.cell (i := 1) rfl; have b2 : w3.cell? ⟨w.heap.size, 2, none⟩ = some (.int .i64 s2) := HBX3.out.cell (i := 2) rfl; have b3 : w3.cell? ⟨w.heap.size, 3, none⟩ = some (.int .i64 s3) := HBX3.out.cell (i := 3) rfl; have b4 : w3.cell? ⟨w.heap.size, 4, none⟩ = some (.int .i64 s4) := HBX3.out.cell (i := 4) rfl)
  refine (sdo_calls p A _ n ax inv s0 s1 s2 s3 s4 X cx m x w3 HN.out HM.out HP.out (HR.out.below HB3.out) HL.out HW.out (HRX.out.below HB3.out) HLM.out HWX.out (HT.out.below HB3.out)).mono ?_
  rw [HD1.out, HLY.out]
  rintro e w4 ⟨C, c1, rfl, ho, hb⟩
  have HB4 := Lib.hid (blT HB3.out hb)
  have HBX4 := Lib.hid (HBX3.out.below hb)
  have HO4 := Lib.hid ho
  have HX4 : Hid (Below w3.heap.size w3 w4) := Lib.hid hb
  clear ho hb b0 b1 b2 b3 b4 hm8
  dsimp only
  have b0 : w4.cell? ⟨w.heap.size, 0, none⟩ = some (.int .i64 s0) := HBX4.out.cell (i := 0) rfl
  have b1 : w4.cell? ⟨w.heap.size, 1, none⟩ = some (.bool s1) := HBX4.out.cell (i := 1) rfl
  have b2 : w4.cell? ⟨w.heap.size, 2, none⟩ = some (.int .i64 s2) := HBX4.out.cell (i := 2) rfl
  have b3 : w4.cell? ⟨w.heap.size, 3, none⟩ = some (.int .i64 s3) := HBX4.out.cell (i := 3) rfl
  have b4 : w4.cell? ⟨w.heap.size, 4, none⟩ = some (.int .i64 s4) := HBX4.out.cell (i := 4) rfl
  go_wp2_with fail
  refine (r16do_calls p A _ n ax inv s0 s1 s2 s3 s4 X cx m x w4 HN.out HM.out HP.out (HR.out.below HB4.out) HL.out HW.out (HRX.out.below HB4.out) HLM.out HWX.out).mono ?_
  rw [HD1.out, HLY.out]
  rintro e w5 ⟨D, c2, rfl, ho, hb⟩
  have HB5 := Lib.hid (blT HB4.out hb)
  have HBX5 := Lib.hid (HBX4.out.below hb)
  have HO5 := Lib.hid (HO4.out.grown hb)
  have HX5 := Lib.hid (blT HX4.out hb)
  have HRD5 := Lib.hid ho.row
  clear ho hb b0 b1 b2 b3 b4
  dsimp only
  have b0 : w5.cell? ⟨w.heap.size, 0, none⟩ = some (.int .i64 s0) := HBX5.out.cell (i := 0) rfl
  have b1 : w5.cell? ⟨w.heap.size, 1, none⟩ = some (.bool s1) := HBX5.out.cell (i := 1) rfl
  have b2 : w5.cell? ⟨w.heap.size, 2, none⟩ = some (.int .i64 s2) := HBX5.out.cell (i := 2) rfl
  have b3 : w5.cell? ⟨w.heap.size, 3, none⟩ = some (.int .i64 s3) := HBX5.out.cell (i := 3) rfl
  have b4 : w5.cell? ⟨w.heap.size, 4, none⟩ = some (.int .i64 s4) := HBX5.out.cell (i := 4) rfl
  go_wp2_with fail
  refine (spr_calls p A _ n ax inv s0 s1 s2 s3 s4 X cx m x w5 HN.out HM.out HP.out (HR.out.below HB5.out) HL.out HW.out (HRX.out.below HB5.out) HLM.out HWX.out (HT.out.below HB5.out)).mono ?_
  rw [HD2.out]
  rintro e w6 ⟨rfl, hb⟩
  have hbA : Below w6.heap.size w6 (w6.alloc (.cells #[.int .u64 za, .int .u64 zb] 77)) := (Below.refl _ _).alloc (Nat.le_refl _) _
  have hbB := blT hb hbA
  have HB6 := Lib.hid (blT HB5.out hbB)
  have HBX6 := Lib.hid (HBX5.out.below hbB)
  have HO6 := Lib.hid (HO5.out.grown hbB)
  have HX6 := Lib.hid (blT HX5.out hbB)
  have HRD6 := Lib.hid (HRD5.out.below hbB)
  have HM6 : Hid (Row (w6.alloc (.cells #[.int .u64 za, .int .u64 zb] 77)) (some ⟨w6.heap.size, 0, none⟩) [.int .u64 za, .int .u64 zb]) := Lib.hid (row_new w6 [.int .u64 za, .int .u64 zb] 77)
  clear hb hbA hbB b0 b1 b2 b3 b4
  dsimp only
  have b0 : (w6.alloc (.cells #[.int .u64 za, .int .u64 zb] 77)).cell? ⟨w.heap.size, 0, none⟩ = some (.int .i64 s0) := HBX6.out.cell (i := 0) rfl
  have b1 : (w6.alloc (.cells #[.int .u64 za, .int .u64 zb] 77)).cell? ⟨w.heap.size, 1, none⟩ = some (.bool s1) := HBX6.out.cell (i := 1) rfl
  have b2 : (w6.alloc (.cells #[.int .u64 za, .int .u64 zb] 77)).cell? ⟨w.heap.size, 2, none⟩ = some (.int .i64 s2) := HBX6.out.cell (i := 2) rfl
  have b3 : (w6.alloc (.cells #[.int .u64 za, .int .u64 zb] 77)).cell? ⟨w.heap.size, 3, none⟩ = some (.int .i64 s3) := HBX6.out.cell (i := 3) rfl
  have b4 : (w6.alloc (.cells #[.int .u64 za, .int .u64 zb] 77)).cell? ⟨w.heap.size, 4, none⟩ = some (.int .i64 s4) := HBX6.out.cell (i := 4) rfl
  go_wp2_with fail
  clear b0 b1 b2 b3 b4
  generalize (w6.alloc (.cells #[.int .u64 za, .int .u64 zb] 77)) = v6 at *
  generalize w6.heap.size = mb at *
  refine (r16pr_calls p A _ n ax inv s0 s1 s2 s3 s4 X cx m x v6 HN.out HM.out HP.out (HR.out.below HB6.out) HL.out HW.out (HRX.out.below HB6.out) HLM.out HWX.out).mono ?_
  rw [HD2.out]
  rintro e w7 ⟨rfl, hb⟩
  have hbA : Below w7.heap.size w7 (w7.alloc (.cells #[.int .u64 za, .int .u64 zb] 77)) := (Below.refl _ _).alloc (Nat.le_refl _) _
  have hbB := blT hb hbA
  have HB7 := Lib.hid (blT HB6.out hbB)
  have HBX7 := Lib.hid (HBX6.out.below hbB)
  have HO7 := Lib.hid (HO6.out.grown hbB)
  have HX7 := Lib.hid (blT HX6.out hbB)
  have HRD7 := Lib.hid (HRD6.out.below hbB)
  have HM7 := Lib.hid (HM6.out.below hbB)
  have HN7 : Hid (Row (w7.alloc (.cells #[.int .u64 za, .int .u64 zb] 77)) (some ⟨w7.heap.size, 0, none⟩) [.int .u64 za, .int .u64 zb]) := Lib.hid (row_new w7 [.int .u64 za, .int .u64 zb] 77)
  clear hb hbA hbB
  dsimp only
  go_wp2
  generalize (w7.alloc (.cells #[.int .u64 za, .int .u64 zb] 77)) = v7 at *
  generalize w7.heap.size = nb at *
  have HKS : Hid (∀ ws, Below v7.heap.size v7 ws → (fun w' => w'.cell? ⟨w.heap.size, 0, none⟩ = some (.int .i64 s0) ∧ w'.cell? ⟨w.heap.size, 1, none⟩ = some (.bool s1) ∧ w'.cell? ⟨w.heap.size, 2, none⟩ = some (.int .i64 s2) ∧ w'.cell? ⟨w.heap.size, 3, none⟩ = some (.int .i64 s3) ∧ w'.cell? ⟨w.heap.size, 4, none⟩ = some (.int .i64 s4) ∧ w'.cell? ⟨mb, 0, none⟩ = some (.int .u64 za) ∧ w'.cell? ⟨mb, 1, none⟩ = some (.int .u64 zb) ∧ w'.cell? ⟨nb, 0, none⟩ = some (.int .u64 za) ∧ w'.cell? ⟨nb, 1, none⟩ = some (.int .u64 zb)) ws) := Lib.hid fun ws h => ⟨(HBX7.out.below h).cell (i := 0) rfl, (HBX7.out.below h).cell (i := 1) rfl, (HBX7.out.below h).cell (i := 2) rfl, (HBX7.out.below h).cell (i := 3) rfl, (HBX7.out.below h).cell (i := 4) rfl, (HM7.out.below h).cell (i := 0) rfl, (HM7.out.below h).cell (i := 1) rfl, (HN7.out.below h).cell (i := 0) rfl, (HN7.out.below h).cell (i := 1) rfl⟩
  have HZD : Hid (Below v7.heap.size v7 v7.drew) := Lib.hid (Below.refl _ _).drew
  have hq : ∀ w, (Op.equalIn 10000 77 (.agg #[.int .u64 za, .int .u64 zb]) (.agg #[.int .u64 za, .int .u64 zb])).run Tryd.prog w = .ok true w := fun w => by rw [eq_pair]; simp
  obtain ⟨ck, hck⟩ : ∃ e, chk16 p ax (s0, s1, s2, s3, s4) = e := ⟨_, rfl⟩
  have HCK := Lib.hid hck
  clear hck
  have q0 : (er == er) = true := by simp
  have q1 : (ep == ep) = true := by simp
  have q2 : (ck == ck) = true := by simp
  refine region_marks2 (k := 30) (S := (fun w' => w'.cell? ⟨w.heap.size, 0, none⟩ = some (.int .i64 s0) ∧ w'.cell? ⟨w.heap.size, 1, none⟩ = some (.bool s1) ∧ w'.cell? ⟨w.heap.size, 2, none⟩ = some (.int .i64 s2) ∧ w'.cell? ⟨w.heap.size, 3, none⟩ = some (.int .i64 s3) ∧ w'.cell? ⟨w.heap.size, 4, none⟩ = some (.int .i64 s4) ∧ w'.cell? ⟨mb, 0, none⟩ = some (.int .u64 za) ∧ w'.cell? ⟨mb, 1, none⟩ = some (.int .u64 zb) ∧ w'.cell? ⟨nb, 0, none⟩ = some (.int .u64 za) ∧ w'.cell? ⟨nb, 1, none⟩ = some (.int .u64 zb))) (T := fun _ => true) HMX.out rfl (HKS.out _ HZD.out) (fun hS => ?_)
  generalize v7.drew = wD at *
  refine wpAnyT_take3 (i := 0) (v := ?_) rfl (by kernel_rfl) (by kernel_rfl) (by kernel_rfl) (by kernel_rfl) (by kernel_rfl) (fun _ _ _ h => h) hS (Or.inl ⟨by rfl, ?_⟩) ?_
  rotate_left
  · (intro w' hSw; (try dsimp only at hSw); go_simp; (try with_reducible rfl))
  (try simp only [Act.put, List.setIfInBounds_toArray, List.set_cons_zero, List.set_cons_succ])
  refine wpAnyT_take3 (i := 1) (v := ?_) rfl (by kernel_rfl) (by kernel_rfl) (by kernel_rfl) (by kernel_rfl) (by kernel_rfl) (fun _ _ _ h => h) hS (Or.inl ⟨by rfl, ?_⟩) ?_
  rotate_left
  · (intro w' hSw; (try dsimp only at hSw); go_simp; (try with_reducible rfl))
  (try simp only [Act.put, List.setIfInBounds_toArray, List.set_cons_zero, List.set_cons_succ])
  refine wpAnyT_one (i := 2) (by kernel_rfl) rfl (fun K hK => ?_)
  go_simp
  refine (same_n _ _ _ _ L L yo yo _ HLZ.out HLZ.out (HO7.out.row.below HZD.out) hL5 (HRD7.out.below HZD.out)).mono ?_
  rw [show decide (yo = yo) = true from decide_eq_true rfl]
  rintro e wE ⟨rfl, ⟨q6, rfl⟩⟩
  have HZ1 := Lib.hid (below_drewN HZD.out q6)
  generalize wD.drewN q6 = wE at *
  refine hK _ _ (fun _ => HKS.out _ HZ1.out) ?_
  clear hK K
  (try simp only [Act.put, List.setIfInBounds_toArray, List.set_cons_zero, List.set_cons_succ])
  clear hS
  have hS := HKS.out _ HZ1.out
  refine wpAnyT_take3 (i := 3) (v := ?_) rfl (by kernel_rfl) (by kernel_rfl) (by kernel_rfl) (by kernel_rfl) (by kernel_rfl) (fun _ _ _ h => h) hS (Or.inl ⟨by rfl, ?_⟩) ?_
  rotate_left
  · (intro w' hSw; (try dsimp only at hSw); go_simp; (try with_reducible rfl))
  (try simp only [Act.put, List.setIfInBounds_toArray, List.set_cons_zero, List.set_cons_succ])
  refine wpAnyT_take3 (i := 4) (v := ?_) rfl (by kernel_rfl) (by kernel_rfl) (by kernel_rfl) (by kernel_rfl) (by kernel_rfl) (fun _ _ _ h => h) hS (Or.inl ⟨by rfl, ?_⟩) ?_
  rotate_left
  · (intro w' hSw; (try dsimp only at hSw); go_simp; (try with_reducible rfl))
  (try simp only [Act.put, List.setIfInBounds_toArray, List.set_cons_zero, List.set_cons_succ])
  refine wpAnyT_take3 (i := 5) (v := ?_) rfl (by kernel_rfl) (by kernel_rfl) (by kernel_rfl) (by kernel_rfl) (by kernel_rfl) (fun _ _ _ h => h) hS (Or.inl ⟨by rfl, ?_⟩) ?_
  rotate_left
  · (intro w' hSw; (try dsimp only at hSw); go_simp; (try with_reducible rfl))
  (try simp only [Act.put, List.setIfInBounds_toArray, List.set_cons_zero, List.set_cons_succ])
  refine wpAnyT_take3 (i := 6) (v := ?_) rfl (by kernel_rfl) (by kernel_rfl) (by kernel_rfl) (by kernel_rfl) (by kernel_rfl) (fun _ _ _ h => h) hS (Or.inl ⟨by rfl, ?_⟩) ?_
  rotate_left
  · (intro w' hSw; (try dsimp only at hSw); go_simp; (try with_reducible rfl))
  (try simp only [Act.put, List.setIfInBounds_toArray, List.set_cons_zero, List.set_cons_succ])
  refine wpAnyT_take3 (i := 7) (v := ?_) rfl (by kernel_rfl) (by kernel_rfl) (by kernel_rfl) (by kernel_rfl) (by kernel_rfl) (fun _ _ _ h => h) hS (Or.inl ⟨by rfl, ?_⟩) ?_
  rotate_left
  · (intro w' hSw; (try dsimp only at hSw); go_simp; (try with_reducible rfl))
  (try simp only [Act.put, List.setIfInBounds_toArray, List.set_cons_zero, List.set_cons_succ])
  refine wpAnyT_take3 (i := 8) (v := ?_) rfl (by kernel_rfl) (by kernel_rfl) (by kernel_rfl) (by kernel_rfl) (by kernel_rfl) (fun _ _ _ h => h) hS (Or.inl ⟨by rfl, ?_⟩) ?_
  rotate_left
  · (intro w' hSw; (try dsimp only at hSw); go_simp; (try with_reducible rfl))
  (try simp only [Act.put, List.setIfInBounds_toArray, List.set_cons_zero, List.set_cons_succ])
  refine wpAnyT_take3 (i := 9) (v := ?_) rfl (by kernel_rfl) (by kernel_rfl) (by kernel_rfl) (by kernel_rfl) (by kernel_rfl) (fun _ _ _ h => h) hS (Or.inl ⟨by rfl, ?_⟩) ?_
  rotate_left
  · (intro w' hSw; (try dsimp only at hSw); go_simp; (try with_reducible rfl))
  (try simp only [Act.put, List.setIfInBounds_toArray, List.set_cons_zero, List.set_cons_succ])
  refine wpAnyT_take3 (i := 10) (v := ?_) rfl (by kernel_rfl) (by kernel_rfl) (by kernel_rfl) (by kernel_rfl) (by kernel_rfl) (fun _ _ _ h => h) hS (Or.inl ⟨by rfl, ?_⟩) ?_
  rotate_left
  · (intro w' hSw; (try dsimp only at hSw); go_simp; (try with_reducible rfl))
  (try simp only [Act.put, List.setIfInBounds_toArray, List.set_cons_zero, List.set_cons_succ])
  refine wpAnyT_take3 (i := 11) (v := ?_) rfl (by kernel_rfl) (by kernel_rfl) (by kernel_rfl) (by kernel_rfl) (by kernel_rfl) (fun _ _ _ h => h) hS (Or.inl ⟨by rfl, ?_⟩) ?_
  rotate_left
  · (intro w' hSw; (try dsimp only at hSw); go_simp; (try with_reducible rfl))
  (try simp only [Act.put, List.setIfInBounds_toArray, List.set_cons_zero, List.set_cons_succ])
  refine wpAnyT_take3 (i := 12) (v := ?_) rfl (by kernel_rfl) (by kernel_rfl) (by kernel_rfl) (by kernel_rfl) (by kernel_rfl) (fun _ _ _ h => h) hS (Or.inl ⟨by rfl, ?_⟩) ?_
  rotate_left
  · (intro w' hSw; (try dsimp only at hSw); go_simp; (try with_reducible rfl))
  (try simp only [Act.put, List.setIfInBounds_toArray, List.set_cons_zero, List.set_cons_succ])
  refine wpAnyT_take3 (i := 13) (v := ?_) rfl (by kernel_rfl) (by kernel_rfl) (by kernel_rfl) (by kernel_rfl) (by kernel_rfl) (fun _ _ _ h => h) hS (Or.inl ⟨by rfl, ?_⟩) ?_
  rotate_left
  · (intro w' hSw; (try dsimp only at hSw); go_simp; (try with_reducible rfl))
  (try simp only [Act.put, List.setIfInBounds_toArray, List.set_cons_zero, List.set_cons_succ])
  refine wpAnyT_take3 (i := 14) (v := ?_) rfl (by kernel_rfl) (by kernel_rfl) (by kernel_rfl) (by kernel_rfl) (by kernel_rfl) (fun _ _ _ h => h) hS (Or.inl ⟨by rfl, ?_⟩) ?_
  rotate_left
  · (intro w' hSw; (try dsimp only at hSw); go_simp; (try with_reducible rfl))
  (try simp only [Act.put, List.setIfInBounds_toArray, List.set_cons_zero, List.set_cons_succ])
  refine wpAnyT_take3 (i := 15) (v := ?_) rfl (by kernel_rfl) (by kernel_rfl) (by kernel_rfl) (by kernel_rfl) (by kernel_rfl) (fun _ _ _ h => h) hS (Or.inl ⟨by rfl, ?_⟩) ?_
  rotate_left
  · (intro w' hSw; (try dsimp only at hSw); go_simp; (try with_reducible rfl))
  (try simp only [Act.put, List.setIfInBounds_toArray, List.set_cons_zero, List.set_cons_succ])
  refine wpAnyT_take3 (i := 16) (v := ?_) rfl (by kernel_rfl) (by kernel_rfl) (by kernel_rfl) (by kernel_rfl) (by kernel_rfl) (fun _ _ _ h => h) hS (Or.inl ⟨by rfl, ?_⟩) ?_
  rotate_left
  · (intro w' hSw; (try dsimp only at hSw); go_simp; (try with_reducible rfl))
  (try simp only [Act.put, List.setIfInBounds_toArray, List.set_cons_zero, List.set_cons_succ])
  refine wpAnyT_take3 (i := 17) (v := ?_) rfl (by kernel_rfl) (by kernel_rfl) (by kernel_rfl) (by kernel_rfl) (by kernel_rfl) (fun _ _ _ h => h) hS (Or.inl ⟨by rfl, ?_⟩) ?_
  rotate_left
  · (intro w' hSw; (try dsimp only at hSw); go_simp; (try with_reducible rfl))
  (try simp only [Act.put, List.setIfInBounds_toArray, List.set_cons_zero, List.set_cons_succ])
  refine wpAnyT_take3 (i := 18) (v := ?_) rfl (by kernel_rfl) (by kernel_rfl) (by kernel_rfl) (by kernel_rfl) (by kernel_rfl) (fun _ _ _ h => h) hS (Or.inl ⟨by rfl, ?_⟩) ?_
  rotate_left
  · (intro w' hSw; (try dsimp only at hSw); go_simp; (try with_reducible rfl))
  (try simp only [Act.put, List.setIfInBounds_toArray, List.set_cons_zero, List.set_cons_succ])
  refine wpAnyT_take3 (i := 19) (v := ?_) rfl (by kernel_rfl) (by kernel_rfl) (by kernel_rfl) (by kernel_rfl) (by kernel_rfl) (fun _ _ _ h => h) hS (Or.inl ⟨by rfl, ?_⟩) ?_
  rotate_left
  · (intro w' hSw; (try dsimp only at hSw); go_simp; (try with_reducible rfl))
  (try simp only [Act.put, List.setIfInBounds_toArray, List.set_cons_zero, List.set_cons_succ])
  refine wpAnyT_take3 (i := 20) (v := ?_) rfl (by kernel_rfl) (by kernel_rfl) (by kernel_rfl) (by kernel_rfl) (by kernel_rfl) (fun _ _ _ h => h) hS (Or.inl ⟨by rfl, ?_⟩) ?_
  rotate_left
  · (intro w' hSw; (try dsimp only at hSw); go_simp; (try with_reducible rfl))
  (try simp only [Act.put, List.setIfInBounds_toArray, List.set_cons_zero, List.set_cons_succ])
  refine wpAnyT_take3 (i := 21) (v := ?_) rfl (by kernel_rfl) (by kernel_rfl) (by kernel_rfl) (by kernel_rfl) (by kernel_rfl) (fun _ _ _ h => h) hS (Or.inl ⟨by rfl, ?_⟩) ?_
  rotate_left
  · (intro w' hSw; (try dsimp only at hSw); go_simp; (try with_reducible rfl))
  (try simp only [Act.put, List.setIfInBounds_toArray, List.set_cons_zero, List.set_cons_succ])
  refine wpAnyT_take3 (i := 23) (v := ?_) rfl (by kernel_rfl) (by kernel_rfl) (by kernel_rfl) (by kernel_rfl) (by kernel_rfl) (fun _ _ _ h => h) hS (Or.inl ⟨by rfl, ?_⟩) ?_
  rotate_left
  · (intro w' hSw; (try dsimp only at hSw); go_simp; (try with_reducible rfl))
  (try simp only [Act.put, List.setIfInBounds_toArray, List.set_cons_zero, List.set_cons_succ])
  refine wpAnyT_take3 (i := 24) (v := ?_) rfl (by kernel_rfl) (by kernel_rfl) (by kernel_rfl) (by kernel_rfl) (by kernel_rfl) (fun _ _ _ h => h) hS (Or.inl ⟨by rfl, ?_⟩) ?_
  rotate_left
  · (intro w' hSw; (try dsimp only at hSw); go_simp; (try with_reducible rfl))
  (try simp only [Act.put, List.setIfInBounds_toArray, List.set_cons_zero, List.set_cons_succ])
  refine wpAnyT_take3 (i := 25) (v := ?_) rfl (by kernel_rfl) (by kernel_rfl) (by kernel_rfl) (by kernel_rfl) (by kernel_rfl) (fun _ _ _ h => h) hS (Or.inl ⟨by rfl, ?_⟩) ?_
  rotate_left
  · (intro w' hSw; (try dsimp only at hSw); go_simp; (try with_reducible rfl))
  (try simp only [Act.put, List.setIfInBounds_toArray, List.set_cons_zero, List.set_cons_succ])
  refine wpAnyT_one (i := 22) (by kernel_rfl) rfl (fun K hK => ?_)
  go_simp
  refine (schk_calls p A _ n ax s0 s1 s2 s3 s4 wE HN.out HP.out (HR.out.below (blT HB7.out HZ1.out)) HL.out HW.out (HT.out.below (blT HB7.out HZ1.out))).mono ?_
  rw [HCK.out]
  rintro e wF ⟨rfl, hb⟩
  have HZ2 := Lib.hid (HZ1.out.trans (hb.mono HZ1.out.size))
  clear hb
  refine hK _ _ (fun _ => HKS.out _ HZ2.out) ?_
  clear hK K
  (try simp only [Act.put, List.setIfInBounds_toArray, List.set_cons_zero, List.set_cons_succ])
  clear hS
  have hS := HKS.out _ HZ2.out
  refine wpAnyT_one (i := 26) (by kernel_rfl) rfl (fun K hK => ?_)
  go_simp
  refine (r16chk_calls p A _ n ax s0 s1 s2 s3 s4 wF HN.out HP.out (HR.out.below (blT HB7.out HZ2.out)) HL.out HW.out).mono ?_
  rw [HCK.out]
  rintro e wG ⟨rfl, hb⟩
  have HZ3 := Lib.hid (HZ2.out.trans (hb.mono HZ2.out.size))
  clear hb
  refine hK _ _ (fun _ => HKS.out _ HZ3.out) ?_
  clear hK K
  (try simp only [Act.put, List.setIfInBounds_toArray, List.set_cons_zero, List.set_cons_succ])
  clear hS
  have hS := HKS.out _ HZ3.out
  refine wpAnyT_take3 (i := 27) (v := ?_) rfl (by kernel_rfl) (by kernel_rfl) (by kernel_rfl) (by kernel_rfl) (by kernel_rfl) (fun _ _ _ h => h) hS (Or.inl ⟨by rfl, ?_⟩) ?_
  rotate_left
  · (intro w' hSw; (try dsimp only at hSw); go_simp; (try with_reducible rfl))
  (try simp only [Act.put, List.setIfInBounds_toArray, List.set_cons_zero, List.set_cons_succ])
  refine wpAnyT_take3 (i := 28) (v := ?_) rfl (by kernel_rfl) (by kernel_rfl) (by kernel_rfl) (by kernel_rfl) (by kernel_rfl) (fun _ _ _ h => h) hS (Or.inl ⟨by rfl, ?_⟩) ?_
  rotate_left
  · (intro w' hSw; (try dsimp only at hSw); go_simp; (try with_reducible rfl))
  (try simp only [Act.put, List.setIfInBounds_toArray, List.set_cons_zero, List.set_cons_succ])
  refine wpAnyT_take3 (i := 29) (v := ?_) rfl (by kernel_rfl) (by kernel_rfl) (by kernel_rfl) (by kernel_rfl) (by kernel_rfl) (fun _ _ _ h => h) hS (Or.inl ⟨by rfl, ?_⟩) ?_
  rotate_left
  · (intro w' hSw; (try dsimp only at hSw); go_simp; (try with_reducible rfl))
  (try simp only [Act.put, List.setIfInBounds_toArray, List.set_cons_zero, List.set_cons_succ])
  refine wpAnyT_done (by kernel_rfl) ?_ _
  refine NoPanic.normal ?_
  go_wp2
  clear hS hq q0 q1 q2
  have HO8 := Lib.hid (HO7.out.grown HZ3.out)
  have HX8 := Lib.hid (blT HX7.out HZ3.out)
  go_loopw [101] (fun i wr => ∃ (k : Nat) (cs' : List Int), k ≤ L ∧ i = .int .i64 k ∧ Hid (Own wr w3.heap.size 22 1 C L c1 (nums .u64 cs')) ∧ Hid (Below w3.heap.size w3 wr)) (fun i _ => L - (intOf i).toNat)
  case atStart => exact ⟨0, yo, Nat.zero_le _, rfl, HO8, HX8⟩
  case round =>
    obtain ⟨k, cs', hk, rfl, HCR, HBR⟩ := hrel
    by_cases hlt : k < L
    · obtain ⟨g, cap, hzv, _, _⟩ := World.ownsRow.form HCR.out (show 0 < L by omega)
      cases hzv
      have hlen : cs'.length = L := by
        have h1 := HCR.out.len
        rw [nums_length] at h1
        omega
      have hcz : wr.cell? ⟨g, k, none⟩ = some (.int .u64 (cs'[k]'(by omega))) := by
        rw [HCR.out.cellAt k hlt]; exact nums_get .u64 _ k (by omega)
      have hfz : wr.frozen? ⟨g, k, none⟩ = false := HCR.out.frozenAt k
      have HGB := Lib.hid HCR.out.base
      generalize cs'[k]'(by omega) = u at *
      have HST : Hid (Own (wr.setCell ⟨g, k, none⟩ (.int .u64 (IntKind.u64.wrap (u + 1)))) w3.heap.size 22 1 (some ⟨g, 0, none⟩) L c1 (nums .u64 (cs'.set k (IntKind.u64.wrap (u + 1))))) := Lib.hid (by
        have h1 := HCR.out.stored k (.int .u64 (IntKind.u64.wrap (u + 1)))
        rw [nums_set] at h1
        exact h1)
      have HSB := Lib.hid (Below.setCell (p := ⟨g, k, none⟩) HBR.out HGB.out.1 (.int .u64 (IntKind.u64.wrap (u + 1))))
      generalize hz : IntKind.u64.wrap (u + 1) = z at *
      go_wp2
      go_roundw
      case rel => exact ⟨k + 1, cs'.set k z, by omega, by go_num, HST, HSB⟩
      case measure => simp [intOf]; omega
    · have HB9 : Hid (Below w.heap.size w wr) := Lib.hid (blT HB3.out HBR.out)
      go_wp2_with fail
      refine (same_n _ _ _ _ m m x x _ HM.out HM.out (HRX.out.below HB9.out) HLM.out (HV3.out.below HBR.out)).mono ?_
      rw [show decide (x = x) = true from decide_eq_true rfl]
      rintro e w99 ⟨rfl, ⟨q99, rfl⟩⟩
      have HBE := Lib.hid (below_drewN HB9.out q99)
      go_wp2
      go_ret
      exact ⟨by first | rfl | (simp; done), HBE.out⟩
end Go.Proofs.YtohcoidbncbijaaDoor.P
