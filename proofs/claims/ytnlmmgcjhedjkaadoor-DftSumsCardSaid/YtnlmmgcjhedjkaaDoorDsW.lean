
/- The law DftSums, walked. Conditions: words of their kinds; the slices read as lists; the library's table lies as it was laid. -/
import Derived.Test.YtnlmmgcjhedjkaaDoorDftL
import Derived.Test.YtnlmmgcjhedjkaaDoorFlyB
namespace Go.Proofs.YtnlmmgcjhedjkaaDoor.P
open Go.RowKit
set_option linter.unusedVariables false
set_option linter.unusedSimpArgs false
theorem keepB {B : Nat} {w w' : World} {a : Addr} {v : Value} (hb : Below B w w') (hlt : a.block < B) (h : w.cell? a = some v) : w'.cell? a = some v := (hb.cell hlt).trans h
theorem keepB2 {B : Nat} {w w' : World} {a b : Addr} {va vb : Value} (hb : Below B w w') (ha : a.block < B) (hbb : b.block < B) (h : w.cell? a = some va ∧ w.cell? b = some vb) : w'.cell? a = some va ∧ w'.cell? b = some vb :=
  ⟨keepB hb ha h.1, keepB hb hbb h.2⟩
theorem keep2 {w w' : World} {a b : Addr} {va vb : Value} (hb : Below w.heap.size w w') (h : w.cell? a = some va ∧ w.cell? b = some vb) : w'.cell? a = some va ∧ w'.cell? b = some vb := ⟨keepc hb h.1, keepc hb h.2⟩
theorem row_new1 (w : World) (a : Int) (t : TypeId) : Row (w.alloc (.cells #[.int .u64 a] t)) (some ⟨w.heap.size, 0, none⟩) (nums .u64 [a]) := row_new w [.int .u64 a] t
theorem trS_snd (p : Int) (neg inv : Bool) (x : List Int) : (trS p neg inv x).2 = chk6 p x neg := by
  unfold trS; split
  · rename_i h; exact h.symm
  · rfl
theorem trF_sums {p c : Int} {neg inv : Bool} {x y : List Int} {n : Nat} (hx : x.length = n) (hy : y.length = n) {u : Nat} :
    trF p neg inv (zL p c x y n) u = addS p (mulS p c (trF p neg inv x u)) (trF p neg inv y u) := by
  unfold trF
  rw [zL_length, hx, hy]
  exact linF_sums p c _ x y (zL p c x y n) (by rw [hy, hx]) (by rw [zL_length, hx]) (fun t ht => by rw [hx] at ht; exact zL_at p c x y ht)
set_option maxRecDepth 100000 in
set_option maxHeartbeats 4000000 in
theorem dftSums_walk (p : Int) (A : Option Addr) (ca : Nat) (x : List Int) (B : Option Addr) (cb : Nat) (y : List Int) (c : Int) (neg : Bool) (w : World) (hp : U64 p)
    (hr : Row w A (nums .u64 x)) (hy : x.length * 8 ≤ 140737488351232) (hw : ∀ d ∈ x, (Lit.int .u64 d).wf = true) (hrv : Row w B (nums .u64 y)) (hyv : y.length * 8 ≤ 140737488351232) (hwv : ∀ d ∈ y, (Lit.int .u64 d).wf = true) (hc : U64 c) (hT : Tab w) :
    Calls Tryd.prog 9 #[.int .u64 p, .slice A x.length ca, .slice B y.length cb, .int .u64 c, .bool neg] w fun e w' => e = .returned (.bool true) ∧ Below w.heap.size w w' := by
  have HP := Lib.hid hp
  have HC := Lib.hid hc
  have HR := Lib.hid hr
  have HT := Lib.hid hT
  have HW : Hid (∀ d ∈ x, U64 d) := Lib.hid fun d hd => u64_wf (hw d hd)
  have HRV := Lib.hid hrv
  have HWV : Hid (∀ d ∈ y, U64 d) := Lib.hid fun d hd => u64_wf (hwv d hd)
  clear hp hr hw hrv hwv hc hT
  generalize hn : x.length = n at *
  generalize hm : y.length = m at *
  have HN := Lib.hid hn
  have HM := Lib.hid hm
  have HL : Hid (n ≤ 9223372036854775807) := Lib.hid (by omega)
  clear hn hm
  go_enter Tryd.func9, Tryd.ntmps9
  go_wp2_with fail
  refine (live06_calls _ HT.out).mono ?_
  rintro e w1 ⟨rfl, hb1⟩
  have HB1 := Lib.hid hb1
  clear hb1
  by_cases g0 : 24 < n
  · have f0 : decide (24 < (n : Int)) = true := by simp; omega
    clear g0
    go_wp2
    go_ret
    exact ⟨rfl, HB1.out⟩
  have f0 : decide (24 < (n : Int)) = false := by simp; omega
  by_cases g1 : n = m
  case neg =>
    have f1 : ((n : Int) != (m : Int)) = true := by simp; omega
    go_wp2
    go_ret
    exact ⟨rfl, HB1.out⟩
  subst g1
  have f1 : ((n : Int) != (n : Int)) = false := by simp
  have HSX : Hid (∀ inv, (trS p neg inv x).2 = chk6 p x neg) := Lib.hid fun inv => trS_snd p neg inv x
  have HSY : Hid (∀ inv, (trS p neg inv y).2 = chk6 p y neg) := Lib.hid fun inv => trS_snd p neg inv y
  by_cases hxy : chk6 p x neg = 0 ∧ chk6 p y neg = 0
  case neg =>
    by_cases hx0 : chk6 p x neg = 0
    case' pos =>
      have ty : (chk6 p y neg != 0) = true := by
        have : ¬ chk6 p y neg = 0 := fun h => hxy ⟨hx0, h⟩
        simpa using this
      have tx : (chk6 p x neg != 0) = false := by simpa using hx0
    case' neg =>
      have tx : (chk6 p x neg != 0) = true := by simpa using hx0
    all_goals
      clear hxy hx0
      go_wp2_with fail
      refine (fwd6_calls p _ _ _ x neg _ HN.out HP.out (HR.out.below HB1.out) HL.out HW.out (HT.out.below HB1.out)).mono ?_
      rw [HSX.out]
      rintro e w2 ⟨Z2, z2, rfl, ho, hb⟩
      have HB2 := Lib.hid (blT HB1.out hb)
      clear ho hb
      go_wp2_with fail
      refine (fwd6_calls p _ _ _ y neg _ HM.out HP.out (HRV.out.below HB2.out) HL.out HWV.out (HT.out.below HB2.out)).mono ?_
      rw [HSY.out]
      rintro e w3 ⟨Z3, z3, rfl, ho, hb⟩
      have HB3 := Lib.hid (blT HB2.out hb)
      clear ho hb
      go_wp2_with fail
      refine (inv6_calls p _ _ _ x neg _ HN.out HP.out (HR.out.below HB3.out) HL.out HW.out (HT.out.below HB3.out)).mono ?_
      rw [HSX.out]
      rintro e w4 ⟨Z4, z4, rfl, ho, hb⟩
      have HB4 := Lib.hid (blT HB3.out hb)
      clear ho hb
      go_wp2_with fail
      refine (inv6_calls p _ _ _ y neg _ HM.out HP.out (HRV.out.below HB4.out) HL.out HWV.out (HT.out.below HB4.out)).mono ?_
      rw [HSY.out]
      rintro e w5 ⟨Z5, z5, rfl, ho, hb⟩
      have HB5 := Lib.hid (blT HB4.out hb)
      clear ho hb
      go_wp2
      go_ret
      exact ⟨by first | rfl | (simp; done), HB5.out⟩
  obtain ⟨hx0, hy0⟩ := hxy
  have HEX : Hid (∀ inv, trS p neg inv x = (trL p neg inv x, 0)) := Lib.hid fun inv => trS_yes hx0
  have HEY : Hid (∀ inv, trS p neg inv y = (trL p neg inv y, 0)) := Lib.hid fun inv => trS_yes hy0
  have hck := (chk6_ok hx0).1
  have hzin : inS p (zL p c x y n) = true := zL_in hck.known c x y n
  have HEZ : Hid (∀ inv, trS p neg inv (zL p c x y n) = (trL p neg inv (zL p c x y n), 0)) := Lib.hid fun inv => trS_yes (Chk6.ok (by rw [zL_length, ← HN.out]; exact hck) hzin)
  have hn1 : 1 ≤ n := by have h1 := hck.n1; have h2 := HN.out; omega
  have HZL : Hid ((zL p c x y n).length = n) := Lib.hid (zL_length p c x y n)
  have HZU := Lib.hid (zL_u64 p c x y n)
  have HXL : Hid (∀ inv, (trL p neg inv x).length = n) := Lib.hid fun inv => by rw [trL_length]; exact HN.out
  have HYL : Hid (∀ inv, (trL p neg inv y).length = n) := Lib.hid fun inv => by rw [trL_length]; exact HM.out
  have HTZ : Hid (∀ inv, (trL p neg inv (zL p c x y n)).length = n) := Lib.hid fun inv => by rw [trL_length]; exact HZL.out
  have HXU : Hid (∀ inv, ∀ d ∈ trL p neg inv x, U64 d) := Lib.hid fun inv => trL_u64 p neg inv x
  have HYU : Hid (∀ inv, ∀ d ∈ trL p neg inv y, U64 d) := Lib.hid fun inv => trL_u64 p neg inv y
  have HSUM : Hid (∀ inv, ∀ u, u < n → (trL p neg inv (zL p c x y n)).getD u 0 = addS p (mulS p c ((trL p neg inv x).getD u 0)) ((trL p neg inv y).getD u 0)) := Lib.hid fun inv u hu => by
    rw [trL_at _ _ _ _ (by rw [HZL.out]; exact hu), trL_at _ _ _ _ (by rw [HN.out]; exact hu), trL_at _ _ _ _ (by rw [HM.out]; exact hu)]
    exact trF_sums HN.out HM.out
  clear hx0 hy0 hck hzin
  go_wp2_with fail
  refine (fwd6_calls p _ _ _ x neg _ HN.out HP.out (HR.out.below HB1.out) HL.out HW.out (HT.out.below HB1.out)).mono ?_
  rw [HEX.out, show ((trL p neg false x, (0 : Int)).1).length = n from HXL.out _]
  rintro e w2 ⟨Z2, z2, rfl, ho, hb⟩
  have HB2 := Lib.hid (blT HB1.out hb)
  have HA2 : Hid (Row w2 Z2 (nums .u64 (trL p neg false x))) := Lib.hid ho.row
  clear ho hb
  go_wp2_with fail
  refine (fwd6_calls p _ _ _ y neg _ HM.out HP.out (HRV.out.below HB2.out) HL.out HWV.out (HT.out.below HB2.out)).mono ?_
  rw [HEY.out, show ((trL p neg false y, (0 : Int)).1).length = n from HYL.out _]
  rintro e w3 ⟨Z3, z3, rfl, ho, hb⟩
  have HB3 := Lib.hid (blT HB2.out hb)
  have HA3 := Lib.hid (HA2.out.below hb)
  have HD3 : Hid (Row w3 Z3 (nums .u64 (trL p neg false y))) := Lib.hid ho.row
  clear ho hb HA2
  go_wp2_with fail
  refine (inv6_calls p _ _ _ x neg _ HN.out HP.out (HR.out.below HB3.out) HL.out HW.out (HT.out.below HB3.out)).mono ?_
  rw [HEX.out, show ((trL p neg true x, (0 : Int)).1).length = n from HXL.out _]
  rintro e w4 ⟨Z4, z4, rfl, ho, hb⟩
  have HB4 := Lib.hid (blT HB3.out hb)
  have HA4 := Lib.hid (HA3.out.below hb)
  have HD4 := Lib.hid (HD3.out.below hb)
  have HG4 : Hid (Row w4 Z4 (nums .u64 (trL p neg true x))) := Lib.hid ho.row
  clear ho hb HA3 HD3
  go_wp2_with fail
  refine (inv6_calls p _ _ _ y neg _ HM.out HP.out (HRV.out.below HB4.out) HL.out HWV.out (HT.out.below HB4.out)).mono ?_
  rw [HEY.out, show ((trL p neg true y, (0 : Int)).1).length = n from HYL.out _]
  rintro e w5 ⟨Z5, z5, rfl, ho, hb⟩
  have HB5 := Lib.hid (blT HB4.out hb)
  have HA5 := Lib.hid (HA4.out.below hb)
  have HD5 := Lib.hid (HD4.out.below hb)
  have HG5 := Lib.hid (HG4.out.below hb)
  have HH5 : Hid (Row w5 Z5 (nums .u64 (trL p neg true y))) := Lib.hid ho.row
  clear ho hb HA4 HD4 HG4
  have HR5 := Lib.hid (HR.out.below HB5.out)
  have HRV5 := Lib.hid (HRV.out.below HB5.out)
  have HT5 := Lib.hid (HT.out.below HB5.out)
  obtain ⟨xa, rfl⟩ := HR5.out.some_of (by intro h0; have h1 := nums_length .u64 x; rw [h0, HN.out] at h1; simp at h1; omega)
  obtain ⟨ya, rfl⟩ := HRV5.out.some_of (by intro h0; have h1 := nums_length .u64 y; rw [h0, HM.out] at h1; simp at h1; omega)
  obtain ⟨z2a, rfl⟩ := HA5.out.some_of (by intro h0; have h1 := nums_length .u64 (trL p neg false x); rw [h0, HXL.out] at h1; simp at h1; omega)
  obtain ⟨z3a, rfl⟩ := HD5.out.some_of (by intro h0; have h1 := nums_length .u64 (trL p neg false y); rw [h0, HYL.out] at h1; simp at h1; omega)
  obtain ⟨z4a, rfl⟩ := HG5.out.some_of (by intro h0; have h1 := nums_length .u64 (trL p neg true x); rw [h0, HXL.out] at h1; simp at h1; omega)
  obtain ⟨z5a, rfl⟩ := HH5.out.some_of (by intro h0; have h1 := nums_length .u64 (trL p neg true y); rw [h0, HYL.out] at h1; simp at h1; omega)
  have e0f := HSUM.out false
  have e0t := HSUM.out true
  have HSF := Lib.hid e0f
  have HSV := Lib.hid e0t
  have HL1 := Lib.hid (HXL.out false)
  have HL2 := Lib.hid (HYL.out false)
  have HL3 := Lib.hid (HXL.out true)
  have HL4 := Lib.hid (HYL.out true)
  have HL5 := Lib.hid (HTZ.out false)
  have HL6 := Lib.hid (HTZ.out true)
  have HU1 := Lib.hid (HXU.out false)
  have HU2 := Lib.hid (HYU.out false)
  have HU3 := Lib.hid (HXU.out true)
  have HU4 := Lib.hid (HYU.out true)
  have HZF := Lib.hid (HEZ.out false)
  have HZT := Lib.hid (HEZ.out true)
  clear e0f e0t HSUM HXL HYL HTZ HXU HYU HEZ HEX HEY HSX HSY
  generalize trL p neg false x = ax at *
  generalize trL p neg false y = bx at *
  generalize trL p neg true x = sx at *
  generalize trL p neg true y = tx at *
  generalize trL p neg false (zL p c x y n) = ux at *
  generalize trL p neg true (zL p c x y n) = vx at *
  go_wp2
  go_loopw [19, 82] (fun o q wr => ∃ (k : Nat) (Q : Option Addr) (r : Nat), k ≤ n ∧ q = .int .i64 k ∧ o = .slice Q k r ∧ Hid (Own wr w5.heap.size 40 1 Q k r (nums .u64 (zL p c x y k))) ∧ Hid (Below w5.heap.size w5 wr)) (fun _ q _ => n - (intOf q).toNat)
  case atStart => exact ⟨0, none, 0, Nat.zero_le _, rfl, rfl, Lib.hid (Own.nil _ _ _ _), Lib.hid (Below.refl _ _)⟩
  case round =>
    obtain ⟨k, Q, r, hk, rfl, rfl, HO, HBW⟩ := hrel
    by_cases hlt : k < n
    · have hltx : k < x.length := by have := HN.out; omega
      have hlty : k < y.length := by have := HM.out; omega
      have hc1 := (HR5.out.below HBW.out).num hltx
      have hc2 := (HRV5.out.below HBW.out).num hlty
      have HZS := Lib.hid (zL_succ p c x y k)
      have HZK : Hid (zF p c x y k = addS p (mulS p c x[k]) y[k]) := Lib.hid (by rw [zF, getD_of hltx, getD_of hlty])
      have HV1 : Hid (U64 x[k]) := Lib.hid (HW.out _ (List.getElem_mem hltx))
      have HV2 : Hid (U64 y[k]) := Lib.hid (HWV.out _ (List.getElem_mem hlty))
      have HX1 : Hid ((xa.add k).block < w5.heap.size) := Lib.hid (World.block_lt_of_cell? w5 _ (HR5.out.num hltx))
      have HX2 : Hid ((ya.add k).block < w5.heap.size) := Lib.hid (World.block_lt_of_cell? w5 _ (HRV5.out.num hlty))
      generalize x[k] = u at *
      generalize y[k] = v at *
      have HSZ := Lib.hid HBW.out.size
      go_wp2
      go_region_held3 (fun w' => w'.cell? (xa.add k) = some (.int .u64 u) ∧ w'.cell? (ya.add k) = some (.int .u64 v))
        (first | exact keep2 (by assumption) (by assumption) | exact keepB2 (by assumption) HX1.out HX2.out (by assumption) | go_keep)
        (first
          | (go_at_call 35; refine (mul_calls p c u _ HP.out HC.out HV1.out).mono ?_; rintro e w6 ⟨rfl, ⟨q, rfl⟩⟩)
          | (go_at_call 39; refine (add_calls p (mulS p c u) v _ HP.out (u64_mulS _ _ _) HV2.out).mono ?_; rintro e w6 ⟨rfl, rfl⟩)
          | (refine step_append_row _ Tryd.underlying41 info_u64 (by rfl) _ _ (by rfl) w5.heap.size k r 1 1 Q ⟨_, 0, none⟩ (zL p c x y k) [addS p (mulS p c u) v] (by rfl) (by rfl) ((HO.out.drewN _).grown ((Below.refl _ _).alloc (Nat.le_refl _) _)) (row_new1 _ _ _) rfl (by decide) (Nat.le_trans HSZ.out (by simp)) (by omega) (by omega) ?_; intro g cap2 w7 hown hbel hgrow hlt5))
      have HO7 : Hid (Own w7 w5.heap.size 40 1 (some ⟨g, 0, none⟩) (k + 1) cap2 (nums .u64 (zL p c x y (k + 1)))) := Lib.hid (by rw [HZS.out, HZK.out]; exact hown)
      have HB7 : Hid (Below w5.heap.size w5 w7) := Lib.hid (((below_drewN HBW.out _).alloc HSZ.out _).trans (hbel.mono (Nat.le_refl _)))
      clear hown hbel hgrow hlt5
      go_wp2
      go_roundw
      case rel => exact ⟨k + 1, some ⟨g, 0, none⟩, cap2, by omega, by go_num, rfl, HO7, HB7⟩
      case measure => simp [intOf]; omega
    · have hke : k = n := by omega
      subst hke
      have HBE : Hid (Below w.heap.size w wr) := Lib.hid (blT HB5.out HBW.out)
      have HRO : Hid (Row wr Q (nums .u64 (zL p c x y k))) := Lib.hid HO.out.row
      go_wp2_with fail
      refine (fwd6_calls p Q r k (zL p c x y k) neg _ HZL.out HP.out HRO.out HL.out HZU.out (HT.out.below HBE.out)).mono ?_
      rw [HZF.out, show ((ux, (0 : Int)).1).length = k from HL5.out]
      rintro e w8 ⟨G, cg, rfl, ho8, hb8⟩
      have HB8 := Lib.hid (blT HBE.out hb8)
      have HRG : Hid (Row w8 G (nums .u64 ux)) := Lib.hid ho8.row
      have HRO8 := Lib.hid (HRO.out.below hb8)
      have HW8 : Hid (Below w5.heap.size w5 w8) := Lib.hid (blT HBW.out hb8)
      clear ho8 hb8
      go_wp2_with fail
      refine (inv6_calls p Q r k (zL p c x y k) neg _ HZL.out HP.out HRO8.out HL.out HZU.out (HT.out.below HB8.out)).mono ?_
      rw [HZT.out, show ((vx, (0 : Int)).1).length = k from HL6.out]
      rintro e w9 ⟨I, ci, rfl, ho9, hb9⟩
      have HB9 := Lib.hid (blT HB8.out hb9)
      have HRG9 := Lib.hid (HRG.out.below hb9)
      have HRI : Hid (Row w9 I (nums .u64 vx)) := Lib.hid ho9.row
      have HW9 : Hid (Below w5.heap.size w5 w9) := Lib.hid (blT HW8.out hb9)
      clear ho9 hb9
      obtain ⟨ga, rfl⟩ := HRG9.out.some_of (by intro h0; have h1 := nums_length .u64 ux; rw [h0, HL5.out] at h1; simp at h1; omega)
      obtain ⟨ia, rfl⟩ := HRI.out.some_of (by intro h0; have h1 := nums_length .u64 vx; rw [h0, HL6.out] at h1; simp at h1; omega)
      go_wp2
      go_loopw [174] (fun i wr => ∃ j : Nat, j ≤ k ∧ i = .int .i64 j ∧ Hid (Below w9.heap.size w9 wr)) (fun i _ => k - (intOf i).toNat)
      case atStart => exact ⟨0, Nat.zero_le _, rfl, Lib.hid (Below.refl _ _)⟩
      case round =>
        obtain ⟨j, hj, rfl, HBR⟩ := hrel
        by_cases hlt2 : j < k
        · have h1 : j < ax.length := by have := HL1.out; omega
          have h2 : j < bx.length := by have := HL2.out; omega
          have h3 : j < sx.length := by have := HL3.out; omega
          have h4 : j < tx.length := by have := HL4.out; omega
          have h5 : j < ux.length := by have := HL5.out; omega
          have h6 : j < vx.length := by have := HL6.out; omega
          have HBK : Hid (Below w5.heap.size w5 wr) := Lib.hid (blT HW9.out HBR.out)
          have hd1 := (HA5.out.below HBK.out).num h1
          have hd2 := (HD5.out.below HBK.out).num h2
          have hd3 := (HG5.out.below HBK.out).num h3
          have hd4 := (HH5.out.below HBK.out).num h4
          have hd5 := (HRG9.out.below HBR.out).num h5
          have hd6 := (HRI.out.below HBR.out).num h6
          have he := HSF.out j hlt2
          have he2 := HSV.out j hlt2
          rw [getD_of h5, getD_of h1, getD_of h2] at he
          rw [getD_of h6, getD_of h3, getD_of h4] at he2
          rw [he] at hd5
          rw [he2] at hd6
          have HV1 := Lib.hid (HU1.out _ (List.getElem_mem h1))
          have HV2 := Lib.hid (HU2.out _ (List.getElem_mem h2))
          have HV3 := Lib.hid (HU3.out _ (List.getElem_mem h3))
          have HV4 := Lib.hid (HU4.out _ (List.getElem_mem h4))
          clear he he2
          generalize ax[j] = u1 at *
          generalize bx[j] = u2 at *
          generalize sx[j] = u3 at *
          generalize tx[j] = u4 at *
          clear h1 h2 h3 h4 h5 h6
          go_wp2
          go_quiet (first
            | (go_at_call_of 35 u1; exact Calls.quiet_of (mul_calls _ _ _ _ HP.out HC.out HV1.out))
            | (go_at_call_of 35 u3; exact Calls.quiet_of (mul_calls _ _ _ _ HP.out HC.out HV3.out))
            | (go_at_call_of 39 u2; exact Calls.quiet_of_same (add_calls _ _ _ _ HP.out (u64_mulS _ _ _) HV2.out))
            | (go_at_call_of 39 u4; exact Calls.quiet_of_same (add_calls _ _ _ _ HP.out (u64_mulS _ _ _) HV4.out)))
          go_wp2
          go_roundw
          case rel => exact ⟨j + 1, by omega, by go_num, Lib.hid (below_drewN HBR.out nq)⟩
          case measure => simp [intOf]; omega
        · go_wp2
          go_ret
          exact ⟨by first | rfl | (simp; done), blT HB9.out HBR.out⟩
end Go.Proofs.YtnlmmgcjhedjkaaDoor.P
