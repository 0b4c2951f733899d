
/- The law StepSums, walked. Conditions: words of their kinds; slices read as lists; the library's table lies as it was laid. -/
import Derived.Test.YtohcoidbncbijaaDoorStL
import Derived.Test.YtohcoidbncbijaaDoorStU
import Derived.Test.YtohcoidbncbijaaDoorGrF
import Derived.Test.YtohcoidbncbijaaDoorRound3
namespace Go.Proofs.YtohcoidbncbijaaDoor.P
open Go.RowKit
set_option linter.unusedVariables false
set_option linter.unusedSimpArgs false
theorem keepB2s {B : Nat} {w w' : World} {a b : Addr} {va vb : Value} (hb : Below B w w') (ha : a.block < B) (hbb : b.block < B) (h : w.cell? a = some va ∧ w.cell? b = some vb) : w'.cell? a = some va ∧ w'.cell? b = some vb :=
  ⟨(hb.cell ha).trans h.1, (hb.cell hbb).trans h.2⟩
theorem keep2s {w w' : World} {a b : Addr} {va vb : Value} (hb : Below w.heap.size w w') (h : w.cell? a = some va ∧ w.cell? b = some vb) : w'.cell? a = some va ∧ w'.cell? b = some vb :=
  ⟨(hb.cell (World.block_lt_of_cell? w a h.1)).trans h.1, (hb.cell (World.block_lt_of_cell? w b h.2)).trans h.2⟩
theorem row_new1s (w : World) (a : Int) (t : TypeId) : Row (w.alloc (.cells #[.int .u64 a] t)) (some ⟨w.heap.size, 0, none⟩) (nums .u64 [a]) := row_new w [.int .u64 a] t
theorem zL_in16 {p : Int} (hk : knownS p = true) (c : Int) (x y : List Int) (n : Nat) : inS p (zL p c x y n) = true := by
  rw [inS_all, hk]
  intro j hj
  have h1 := List.getElem_mem hj
  simp only [zL, List.mem_map] at h1
  obtain ⟨u, _, h2⟩ := h1
  rw [show (zL p c x y n)[j] = zF p c x y u from h2.symm]
  exact redS_hi _ hk
set_option maxRecDepth 100000 in
set_option maxHeartbeats 4000000 in
theorem stepSums_walk (p : Int) (A : Option Addr) (ca : Nat) (ax : List (Int × Bool)) (inv : Bool) (s : Stp) (X : Option Addr) (cx : Nat) (x : List Int) (Y : Option Addr) (cy : Nat) (y : List Int) (c : Int) (w : World) (hp : U64 p) (hr : Row w A (axR ax)) (hla : ax.length * 16 ≤ 140737488351232) (hcap : ax.length ≤ ca) (hwa : ∀ a ∈ ax, (Lit.int .i64 a.1).wf = true) (hs0 : i64 s.1) (hs2 : i64 s.2.2.1) (hs3 : i64 s.2.2.2.1) (hs4 : i64 s.2.2.2.2) (hrx : Row w X (nums .u64 x)) (hlx : x.length * 8 ≤ 140737488351232) (hwx : ∀ d ∈ x, (Lit.int .u64 d).wf = true) (hry : Row w Y (nums .u64 y)) (hly : y.length * 8 ≤ 140737488351232) (hwy : ∀ d ∈ y, (Lit.int .u64 d).wf = true) (hc : U64 c) (hT : Tab w) :
    Calls Tryd.prog 9 #[.int .u64 p, .slice A ax.length ca, .bool inv, .agg #[.int .i64 s.1, .bool s.2.1, .int .i64 s.2.2.1, .int .i64 s.2.2.2.1, .int .i64 s.2.2.2.2], .slice X x.length cx, .slice Y y.length cy, .int .u64 c] w fun e w' => e = .returned (.bool true) ∧ Below w.heap.size w w' := by
  obtain ⟨s0, s1, s2, s3, s4⟩ := s
  dsimp only at *
  have HP := Lib.hid hp
  have HR := Lib.hid hr
  have HT := Lib.hid hT
  have HW : Hid (∀ a ∈ ax, i64 a.1) := Lib.hid fun a ha => i64_wf (hwa a ha)
  clear hp hr hT hwa
  generalize hn : ax.length = n at *
  have HN := Lib.hid hn
  have HL : Hid (n ≤ 8796093022208) := Lib.hid (by omega)
  clear hn hla hcap
  have HRX := Lib.hid hrx
  have HWX : Hid (∀ d ∈ x, U64 d) := Lib.hid fun d hd => u64_wf (hwx d hd)
  clear hrx hwx
  generalize hm : x.length = m at *
  have HM := Lib.hid hm
  have HLM : Hid (m ≤ 9223372036854775807) := Lib.hid (by omega)
  have HM8 : Hid (m * 8 ≤ 140737488351232) := Lib.hid hlx
  clear hm hlx
  have HRV := Lib.hid hry
  have HWV : Hid (∀ d ∈ y, U64 d) := Lib.hid fun d hd => u64_wf (hwy d hd)
  have HCC := Lib.hid hc
  clear hry hwy hc
  generalize hmy : y.length = my at *
  have HMY := Lib.hid hmy
  have HLY : Hid (my ≤ 9223372036854775807) := Lib.hid (by omega)
  clear hmy hly
  have hbA : Below w.heap.size w (w.alloc (.cells #[.int .i64 s0, .bool s1, .int .i64 s2, .int .i64 s3, .int .i64 s4] 39)) := (Below.refl _ _).alloc (Nat.le_refl _) _
  have HBX : Hid (Row (w.alloc (.cells #[.int .i64 s0, .bool s1, .int .i64 s2, .int .i64 s3, .int .i64 s4] 39)) (some ⟨w.heap.size, 0, none⟩) [.int .i64 s0, .bool s1, .int .i64 s2, .int .i64 s3, .int .i64 s4]) := Lib.hid (row_new w [.int .i64 s0, .bool s1, .int .i64 s2, .int .i64 s3, .int .i64 s4] _)
  have HBA := Lib.hid hbA
  have HTA := Lib.hid (HT.out.below hbA)
  clear hbA
  go_enter Tryd.func9, Tryd.ntmps9
  go_wp2_with fail
  generalize (w.alloc (.cells #[.int .i64 s0, .bool s1, .int .i64 s2, .int .i64 s3, .int .i64 s4] 39)) = V at *
  refine (live16_calls V HTA.out).mono ?_
  rintro e w1 ⟨rfl, hb1⟩
  have HB1 := Lib.hid (blT HBA.out hb1)
  have HBX1 := Lib.hid (HBX.out.below hb1)
  clear hb1 HBX HBA HTA
  go_wp2_with fail
  refine (few7_calls _ _ _ ax _ _ HN.out (HR.out.below HB1.out) HL.out HW.out).mono ?_
  rintro e w2 ⟨r, rfl, hb⟩
  have HB2 := Lib.hid (blT HB1.out hb)
  have HBX2 := Lib.hid (HBX1.out.below hb)
  clear hb HB1 HBX1
  cases r
  case false =>
    go_wp2
    go_ret
    exact ⟨rfl, HB2.out⟩
  by_cases h50 : 40 < m
  case pos =>
    have f50 : decide ((40 : Int) < (m : Int)) = true := by simp; omega
    have f51 : decide (40 < m) = true := by simp; omega
    go_wp2
    go_ret
    exact ⟨by first | rfl | (simp; done), HB2.out⟩
  have f50 : decide ((40 : Int) < (m : Int)) = false := by simp; omega
  have f51 : decide (40 < m) = false := by simp; omega
  by_cases hmm : m = my
  case neg =>
    have f60 : ((m : Int) != (my : Int)) = true := by simp; omega
    have f61 : (m != my) = true := by simp; omega
    go_wp2
    go_ret
    exact ⟨by first | rfl | (simp; done), HB2.out⟩
  subst hmm
  have hmy := HMY.out
  have b0 : w2.cell? ⟨w.heap.size, 0, none⟩ = some (.int .i64 s0) := HBX2.out.cell (i := 0) rfl
  have b1 : w2.cell? ⟨w.heap.size, 1, none⟩ = some (.bool s1) := HBX2.out.cell (i := 1) rfl
  have b2 : w2.cell? ⟨w.heap.size, 2, none⟩ = some (.int .i64 s2) := HBX2.out.cell (i := 2) rfl
  have b3 : w2.cell? ⟨w.heap.size, 3, none⟩ = some (.int .i64 s3) := HBX2.out.cell (i := 3) rfl
  have b4 : w2.cell? ⟨w.heap.size, 4, none⟩ = some (.int .i64 s4) := HBX2.out.cell (i := 4) rfl
  by_cases hcx : wrd16 p ax (s0, s1, s2, s3, s4) x = 0
  case neg =>
    have HF : Hid (doS16 p ax inv (s0, s1, s2, s3, s4) x = ([], wrd16 p ax (s0, s1, s2, s3, s4) x)) := Lib.hid (by rw [doS16, if_neg hcx])
    have t0 : (wrd16 p ax (s0, s1, s2, s3, s4) x != 0) = true := by simpa using hcx
    clear hcx
    go_wp2_with fail
    refine (sdo_calls p A _ n ax inv s0 s1 s2 s3 s4 X cx m x w2 HN.out HM.out HP.out (HR.out.below HB2.out) HL.out HW.out (HRX.out.below HB2.out) HLM.out HWX.out (HT.out.below HB2.out)).mono ?_
    rw [HF.out]
    rintro e w3 ⟨Z1, z1, rfl, ho, hb⟩
    have HB3 := Lib.hid (blT HB2.out hb)
    have HBX3 := Lib.hid (HBX2.out.below hb)
    clear ho hb b0 b1 b2 b3 b4
    dsimp only
    have b0 : w3.cell? ⟨w.heap.size, 0, none⟩ = some (.int .i64 s0) := HBX3.out.cell (i := 0) rfl
    have b1 : w3.cell? ⟨w.heap.size, 1, none⟩ = some (.bool s1) := HBX3.out.cell (i := 1) rfl
    have b2 : w3.cell? ⟨w.heap.size, 2, none⟩ = some (.int .i64 s2) := HBX3.out.cell (i := 2) rfl
    have b3 : w3.cell? ⟨w.heap.size, 3, none⟩ = some (.int .i64 s3) := HBX3.out.cell (i := 3) rfl
    have b4 : w3.cell? ⟨w.heap.size, 4, none⟩ = some (.int .i64 s4) := HBX3.out.cell (i := 4) rfl
    go_wp2_with fail
    refine (sdo_calls p A _ n ax inv s0 s1 s2 s3 s4 Y cy m y w3 HN.out HMY.out HP.out (HR.out.below HB3.out) HL.out HW.out (HRV.out.below HB3.out) HLM.out HWV.out (HT.out.below HB3.out)).mono ?_
    rintro e w4 ⟨Z2, z2, rfl, ho, hb⟩
    have HB4 := Lib.hid (blT HB3.out hb)
    clear ho hb b0 b1 b2 b3 b4
    dsimp only
    go_wp2
    go_ret
    exact ⟨by first | rfl | (simp; done), HB4.out⟩
  have hKX := wrd16_ok hcx
  have HDX := Lib.hid (hKX.do inv)
  have hm1 : 1 ≤ m := by
    obtain ⟨k, N, neg, hK⟩ := chk16_ok hKX.chk
    have h1 := hK.chk.dims.pos.prod
    have h2 := hKX.all
    have h3 := HM.out
    omega
  have HLX : Hid (((stepDo p ax inv (s0, s1, s2, s3, s4) x, (0 : Int)).1).length = m) := Lib.hid (by rw [stepDo_length]; exact HM.out)
  have m0 : ((m : Int) == 0) = false := by simp; omega
  have m00 : (m == 0) = false := by simp; omega
  by_cases hcy : wrd16 p ax (s0, s1, s2, s3, s4) y = 0
  case neg =>
    have HF : Hid (doS16 p ax inv (s0, s1, s2, s3, s4) y = ([], wrd16 p ax (s0, s1, s2, s3, s4) y)) := Lib.hid (by rw [doS16, if_neg hcy])
    have t0 : (wrd16 p ax (s0, s1, s2, s3, s4) y != 0) = true := by simpa using hcy
    clear hcy hcx hKX
    go_wp2_with fail
    refine (sdo_calls p A _ n ax inv s0 s1 s2 s3 s4 X cx m x w2 HN.out HM.out HP.out (HR.out.below HB2.out) HL.out HW.out (HRX.out.below HB2.out) HLM.out HWX.out (HT.out.below HB2.out)).mono ?_
    rw [HDX.out, HLX.out]
    rintro e w3 ⟨Z1, z1, rfl, ho, hb⟩
    have HB3 := Lib.hid (blT HB2.out hb)
    have HBX3 := Lib.hid (HBX2.out.below hb)
    clear ho hb b0 b1 b2 b3 b4
    dsimp only
    have b0 : w3.cell? ⟨w.heap.size, 0, none⟩ = some (.int .i64 s0) := HBX3.out.cell (i := 0) rfl
    have b1 : w3.cell? ⟨w.heap.size, 1, none⟩ = some (.bool s1) := HBX3.out.cell (i := 1) rfl
    have b2 : w3.cell? ⟨w.heap.size, 2, none⟩ = some (.int .i64 s2) := HBX3.out.cell (i := 2) rfl
    have b3 : w3.cell? ⟨w.heap.size, 3, none⟩ = some (.int .i64 s3) := HBX3.out.cell (i := 3) rfl
    have b4 : w3.cell? ⟨w.heap.size, 4, none⟩ = some (.int .i64 s4) := HBX3.out.cell (i := 4) rfl
    go_wp2_with fail
    refine (sdo_calls p A _ n ax inv s0 s1 s2 s3 s4 Y cy m y w3 HN.out HMY.out HP.out (HR.out.below HB3.out) HL.out HW.out (HRV.out.below HB3.out) HLM.out HWV.out (HT.out.below HB3.out)).mono ?_
    rw [HF.out]
    rintro e w4 ⟨Z2, z2, rfl, ho, hb⟩
    have HB4 := Lib.hid (blT HB3.out hb)
    clear ho hb b0 b1 b2 b3 b4
    dsimp only
    go_wp2
    go_ret
    exact ⟨by first | rfl | (simp; done), HB4.out⟩
  have hKY := wrd16_ok hcy
  have HDY := Lib.hid (hKY.do inv)
  have HLYY : Hid (((stepDo p ax inv (s0, s1, s2, s3, s4) y, (0 : Int)).1).length = m) := Lib.hid (by rw [stepDo_length]; exact HMY.out)
  have hKZ : WrdK p ax (s0, s1, s2, s3, s4) (zL p c x y m) := ⟨hKX.chk, by rw [zL_length, hKX.all, HM.out], zL_in16 hKX.known ..⟩
  have HDZ := Lib.hid (hKZ.do inv)
  have HZL := Lib.hid (zL_length p c x y m)
  have HZU := Lib.hid (zL_u64 p c x y m)
  have HLZZ : Hid (((stepDo p ax inv (s0, s1, s2, s3, s4) (zL p c x y m), (0 : Int)).1).length = m) := Lib.hid (by rw [stepDo_length]; exact HZL.out)
  have HSUM : Hid (∀ v, v < m → (stepDo p ax inv (s0, s1, s2, s3, s4) (zL p c x y m)).getD v 0 = addS p (mulS p c ((stepDo p ax inv (s0, s1, s2, s3, s4) x).getD v 0)) ((stepDo p ax inv (s0, s1, s2, s3, s4) y).getD v 0)) := Lib.hid fun v hv => by
    obtain ⟨k, N, neg, hK⟩ := chk16_ok hKX.chk
    exact step_sum hK inv c hKX.all (by rw [HMY.out, HM.out]) (by rw [zL_length, HM.out]) (fun u hu => by rw [zL_at p c x y (by rw [← HM.out]; exact hu)]; rfl) (by rw [HM.out]; exact hv)
  have HUA := Lib.hid (stepDo_u64 p ax inv (s0, s1, s2, s3, s4) x)
  have HUB := Lib.hid (stepDo_u64 p ax inv (s0, s1, s2, s3, s4) y)
  have HLA2 : Hid ((stepDo p ax inv (s0, s1, s2, s3, s4) x).length = m) := HLX
  have HLB2 : Hid ((stepDo p ax inv (s0, s1, s2, s3, s4) y).length = m) := HLYY
  have HLZ2 : Hid ((stepDo p ax inv (s0, s1, s2, s3, s4) (zL p c x y m)).length = m) := HLZZ
  generalize stepDo p ax inv (s0, s1, s2, s3, s4) x = da at *
  generalize stepDo p ax inv (s0, s1, s2, s3, s4) y = db at *
  generalize stepDo p ax inv (s0, s1, s2, s3, s4) (zL p c x y m) = dz at *
  have hm9 := HM8.out
  clear hcx hcy hKX hKY hKZ hmy
  go_wp2_with fail
  refine (sdo_calls p A _ n ax inv s0 s1 s2 s3 s4 X cx m x w2 HN.out HM.out HP.out (HR.out.below HB2.out) HL.out HW.out (HRX.out.below HB2.out) HLM.out HWX.out (HT.out.below HB2.out)).mono ?_
  rw [HDX.out, HLX.out]
  rintro e w3 ⟨Z1, z1, rfl, ho, hb⟩
  have HB3 := Lib.hid (blT HB2.out hb)
  have HBX3 := Lib.hid (HBX2.out.below hb)
  have HRA := Lib.hid ho.row
  clear ho hb b0 b1 b2 b3 b4
  dsimp only
  have b0 : w3.cell? ⟨w.heap.size, 0, none⟩ = some (.int .i64 s0) := HBX3.out.cell (i := 0) rfl
  have b1 : w3.cell? ⟨w.heap.size, 1, none⟩ = some (.bool s1) := HBX3.out.cell (i := 1) rfl
  have b2 : w3.cell? ⟨w.heap.size, 2, none⟩ = some (.int .i64 s2) := HBX3.out.cell (i := 2) rfl
  have b3 : w3.cell? ⟨w.heap.size, 3, none⟩ = some (.int .i64 s3) := HBX3.out.cell (i := 3) rfl
  have b4 : w3.cell? ⟨w.heap.size, 4, none⟩ = some (.int .i64 s4) := HBX3.out.cell (i := 4) rfl
  go_wp2_with fail
  refine (sdo_calls p A _ n ax inv s0 s1 s2 s3 s4 Y cy m y w3 HN.out HMY.out HP.out (HR.out.below HB3.out) HL.out HW.out (HRV.out.below HB3.out) HLM.out HWV.out (HT.out.below HB3.out)).mono ?_
  rw [HDY.out, HLYY.out]
  rintro e w5 ⟨Z2, z2, rfl, ho, hb⟩
  have HB5 := Lib.hid (blT HB3.out hb)
  have HBX5 := Lib.hid (HBX3.out.below hb)
  have HRA5 := Lib.hid (HRA.out.below hb)
  have HRB5 := Lib.hid ho.row
  have HR5 := Lib.hid (HRX.out.below HB5.out)
  have HRV5 := Lib.hid (HRV.out.below HB5.out)
  clear ho hb b0 b1 b2 b3 b4
  dsimp only
  obtain ⟨xa, rfl⟩ := HR5.out.some_of (nums_ne (by rw [HM.out]; exact hm1))
  obtain ⟨ya, rfl⟩ := HRV5.out.some_of (nums_ne (by rw [HMY.out]; exact hm1))
  go_wp2
  go_loopw [19, 75] (fun o q wr => ∃ (k : Nat) (Q : Option Addr) (r : Nat), k ≤ m ∧ q = .int .i64 k ∧ o = .slice Q k r ∧ Hid (Own wr w5.heap.size 22 1 Q k r (nums .u64 (zL p c x y k))) ∧ Hid (Below w5.heap.size w5 wr)) (fun _ q _ => m - (intOf q).toNat)
  case atStart => exact ⟨0, none, 0, Nat.zero_le _, rfl, rfl, Lib.hid (Own.nil _ _ _ _), Lib.hid (Below.refl _ _)⟩
  case round =>
    obtain ⟨k, Q, r, hk, rfl, rfl, HO, HBW⟩ := hrel
    by_cases hlt : k < m
    · have hltx : k < x.length := by have := HM.out; omega
      have hlty : k < y.length := by have := HMY.out; omega
      have hc1 := (HR5.out.below HBW.out).num hltx
      have hc2 := (HRV5.out.below HBW.out).num hlty
      have HZS := Lib.hid (zL_succ p c x y k)
      have HZK : Hid (zF p c x y k = addS p (mulS p c x[k]) y[k]) := Lib.hid (by rw [zF, getD_of hltx, getD_of hlty])
      have HV1 : Hid (U64 x[k]) := Lib.hid (HWX.out _ (List.getElem_mem hltx))
      have HV2 : Hid (U64 y[k]) := Lib.hid (HWV.out _ (List.getElem_mem hlty))
      have HX1 : Hid ((xa.add k).block < w5.heap.size) := Lib.hid (World.block_lt_of_cell? w5 _ (HR5.out.num hltx))
      have HX2 : Hid ((ya.add k).block < w5.heap.size) := Lib.hid (World.block_lt_of_cell? w5 _ (HRV5.out.num hlty))
      generalize x[k] = u at *
      generalize y[k] = v at *
      have HSZ := Lib.hid HBW.out.size
      go_wp2
      go_region_held3 (fun w' => w'.cell? (xa.add k) = some (.int .u64 u) ∧ w'.cell? (ya.add k) = some (.int .u64 v))
        (first | exact keep2s (by assumption) (by assumption) | exact keepB2s (by assumption) HX1.out HX2.out (by assumption) | go_keep)
        (first
          | (go_at_call 41; refine (mul_calls p c u _ HP.out HCC.out HV1.out).mono ?_; rintro e w6 ⟨rfl, ⟨q, rfl⟩⟩)
          | (go_at_call 40; refine (add_calls p (mulS p c u) v _ HP.out (u64_mulS _ _ _) HV2.out).mono ?_; rintro e w6 ⟨rfl, rfl⟩)
          | (refine step_append_row _ Tryd.underlying41 info_u64 (by rfl) _ _ (by rfl) w5.heap.size k r 1 1 Q ⟨_, 0, none⟩ (zL p c x y k) [addS p (mulS p c u) v] (by rfl) (by rfl) ((HO.out.drewN _).grown ((Below.refl _ _).alloc (Nat.le_refl _) _)) (row_new1s _ _ _) rfl (by decide) (Nat.le_trans HSZ.out (by simp)) (by omega) (by omega) ?_; intro g cap2 w7 hown hbel hgrow hlt5))
      have HO7 : Hid (Own w7 w5.heap.size 22 1 (some ⟨g, 0, none⟩) (k + 1) cap2 (nums .u64 (zL p c x y (k + 1)))) := Lib.hid (by rw [HZS.out, HZK.out]; exact hown)
      have HB7 : Hid (Below w5.heap.size w5 w7) := Lib.hid (((below_drewN HBW.out _).alloc HSZ.out _).trans (hbel.mono (Nat.le_refl _)))
      clear hown hbel hgrow hlt5
      go_wp2
      go_roundw
      case rel => exact ⟨k + 1, some ⟨g, 0, none⟩, cap2, by omega, by go_num, rfl, HO7, HB7⟩
      case measure => simp [intOf]; omega
    · have hke : k = m := by omega
      subst hke
      have HBE : Hid (Below w.heap.size w wr) := Lib.hid (blT HB5.out HBW.out)
      have HRO : Hid (Row wr Q (nums .u64 (zL p c x y k))) := Lib.hid HO.out.row
      have HBX6 := Lib.hid (HBX5.out.below HBW.out)
      have b0 : wr.cell? ⟨w.heap.size, 0, none⟩ = some (.int .i64 s0) := HBX6.out.cell (i := 0) rfl
      have b1 : wr.cell? ⟨w.heap.size, 1, none⟩ = some (.bool s1) := HBX6.out.cell (i := 1) rfl
      have b2 : wr.cell? ⟨w.heap.size, 2, none⟩ = some (.int .i64 s2) := HBX6.out.cell (i := 2) rfl
      have b3 : wr.cell? ⟨w.heap.size, 3, none⟩ = some (.int .i64 s3) := HBX6.out.cell (i := 3) rfl
      have b4 : wr.cell? ⟨w.heap.size, 4, none⟩ = some (.int .i64 s4) := HBX6.out.cell (i := 4) rfl
      go_wp2_with fail
      clear b0 b1 b2 b3 b4
      refine (sdo_calls p A _ n ax inv s0 s1 s2 s3 s4 Q r k (zL p c x y k) wr HN.out HZL.out HP.out (HR.out.below HBE.out) HL.out HW.out HRO.out HLM.out HZU.out (HT.out.below HBE.out)).mono ?_
      rw [HDZ.out, HLZZ.out]
      rintro e w8 ⟨G, cg, rfl, ho8, hb8⟩
      have HB8 := Lib.hid (blT HBE.out hb8)
      have HRG : Hid (Row w8 G (nums .u64 dz)) := Lib.hid ho8.row
      have HRA8 := Lib.hid ((HRA5.out.below HBW.out).below hb8)
      have HRB8 := Lib.hid ((HRB5.out.below HBW.out).below hb8)
      clear ho8 hb8
      dsimp only
      obtain ⟨ga, rfl⟩ := HRG.out.some_of (nums_ne (by rw [HLZ2.out]; exact hm1))
      obtain ⟨z1a, rfl⟩ := HRA8.out.some_of (nums_ne (by rw [HLA2.out]; exact hm1))
      obtain ⟨z2a, rfl⟩ := HRB8.out.some_of (nums_ne (by rw [HLB2.out]; exact hm1))
      go_wp2
      go_loopw [129] (fun i wr => ∃ j : Nat, j ≤ k ∧ i = .int .i64 j ∧ Hid (Below w8.heap.size w8 wr)) (fun i _ => k - (intOf i).toNat)
      case atStart => exact ⟨0, Nat.zero_le _, rfl, Lib.hid (Below.refl _ _)⟩
      case round =>
        obtain ⟨j, hj, rfl, HBR⟩ := hrel
        by_cases hlt2 : j < k
        · have h1 : j < da.length := by have := HLA2.out; omega
          have h2 : j < db.length := by have := HLB2.out; omega
          have h3 : j < dz.length := by have := HLZ2.out; omega
          have hd1 := (HRA8.out.below HBR.out).num h1
          have hd2 := (HRB8.out.below HBR.out).num h2
          have hd3 := (HRG.out.below HBR.out).num h3
          have he := HSUM.out j hlt2
          rw [getD_of h3, getD_of h1, getD_of h2] at he
          rw [he] at hd3
          have HV1 := Lib.hid (HUA.out _ (List.getElem_mem h1))
          have HV2 := Lib.hid (HUB.out _ (List.getElem_mem h2))
          clear he
          generalize da[j] = u1 at *
          generalize db[j] = u2 at *
          clear h1 h2 h3
          go_wp2
          go_quiet (first
            | (go_at_call_of 41 u1; exact Calls.quiet_of (mul_calls _ _ _ _ HP.out HCC.out HV1.out))
            | (go_at_call_of 40 u2; exact Calls.quiet_of_same (add_calls _ _ _ _ HP.out (u64_mulS _ _ _) HV2.out)))
          go_wp2
          go_roundw
          case rel => exact ⟨j + 1, by omega, by go_num, Lib.hid (below_drewN HBR.out nq)⟩
          case measure => simp [intOf]; omega
        · go_wp2
          go_ret
          exact ⟨by first | rfl | (simp; done), blT HB8.out HBR.out⟩
end Go.Proofs.YtohcoidbncbijaaDoor.P
