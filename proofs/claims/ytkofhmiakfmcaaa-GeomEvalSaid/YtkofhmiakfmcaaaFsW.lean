/- The law FlySums, walked. Conditions: words of their kinds; the slices read as lists. -/
import Derived.Test.YtkofhmiakfmcaaaFlyN
namespace Go.Proofs.Ytkofhmiakfmcaaa.P
open Go.RowKit
set_option linter.unusedVariables false
set_option linter.unusedSimpArgs false
theorem keepB {B : Nat} {w w' : World} {a : Addr} {v : Value} (hb : Below B w w') (hlt : a.block < B) (h : w.cell? a = some v) : w'.cell? a = some v := (hb.cell hlt).trans h
theorem keepB2 {B : Nat} {w w' : World} {a b : Addr} {va vb : Value} (hb : Below B w w') (ha : a.block < B) (hbb : b.block < B) (h : w.cell? a = some va ∧ w.cell? b = some vb) : w'.cell? a = some va ∧ w'.cell? b = some vb :=
  ⟨keepB hb ha h.1, keepB hb hbb h.2⟩
theorem keep2 {w w' : World} {a b : Addr} {va vb : Value} (hb : Below w.heap.size w w') (h : w.cell? a = some va ∧ w.cell? b = some vb) : w'.cell? a = some va ∧ w'.cell? b = some vb := ⟨keepc hb h.1, keepc hb h.2⟩
theorem row_new1 (w : World) (a : Int) (t : TypeId) : Row (w.alloc (.cells #[.int .u64 a] t)) (some ⟨w.heap.size, 0, none⟩) (nums .u64 [a]) := row_new w [.int .u64 a] t
set_option maxRecDepth 100000 in
set_option maxHeartbeats 2000000 in
theorem flySums_walk (p : Int) (inv : Bool) (A : Option Addr) (ca : Nat) (x : List Int) (B : Option Addr) (cb : Nat) (y : List Int) (c : Int) (w : World) (hp : U64 p)
    (hr : Row w A (nums .u64 x)) (hy : x.length * 8 ≤ 140737488351232) (hw : ∀ d ∈ x, (Lit.int .u64 d).wf = true) (hrv : Row w B (nums .u64 y)) (hyv : y.length * 8 ≤ 140737488351232) (hwv : ∀ d ∈ y, (Lit.int .u64 d).wf = true) (hc : U64 c) :
    Calls Try.prog 25 #[.int .u64 p, .bool inv, .slice A x.length ca, .slice B y.length cb, .int .u64 c] w fun e w' => e = .returned (.bool true) ∧ Below w.heap.size w w' := by
  have HP := Lib.hid hp
  have HC := Lib.hid hc
  have HR := Lib.hid hr
  have HW : Hid (∀ d ∈ x, U64 d) := Lib.hid fun d hd => u64_wf (hw d hd)
  have HRV := Lib.hid hrv
  have HWV : Hid (∀ d ∈ y, U64 d) := Lib.hid fun d hd => u64_wf (hwv d hd)
  clear hp hr hw hrv hwv hc
  generalize hn : x.length = n at *
  generalize hm : y.length = m at *
  have HN := Lib.hid hn
  have HM := Lib.hid hm
  have HL : Hid (n ≤ 9223372036854775807) := Lib.hid (by omega)
  have HLM : Hid (m ≤ 9223372036854775807) := Lib.hid (by omega)
  clear hn hm
  go_enter Try.func25, Try.ntmps25
  go_wp2_with fail
  refine (live15_calls _).mono ?_
  rintro e w1 ⟨rfl, hb1⟩
  have HB1 := Lib.hid hb1
  have HR1 := Lib.hid (HR.out.below hb1)
  have HRV1 := Lib.hid (HRV.out.below hb1)
  clear hb1
  by_cases g0 : 12 < n
  · have f0 : decide (12 < (n : Int)) = true := by simp; omega
    clear g0
    go_wp2
    go_ret
    exact ⟨rfl, HB1.out⟩
  have f0 : decide (12 < (n : Int)) = false := by simp; omega
  by_cases g1 : n = m
  case neg =>
    have f1 : ((n : Int) != (m : Int)) = true := by simp; omega
    go_wp2
    go_ret
    exact ⟨rfl, HB1.out⟩
  subst g1
  have f1 : ((n : Int) != (n : Int)) = false := by simp
  go_wp2_with fail
  refine (do_n p inv A n ca x _ HN.out HP.out HR1.out HL.out HW.out).mono ?_
  by_cases hx : (doS p inv x).2 = 0
  case neg =>
    have HE : Hid ((doS p inv x).1 = []) := Lib.hid (doS_no p inv x hx)
    have t0 : ((doS p inv x).2 != 0) = true := by simpa using hx
    rw [HE.out]
    rintro e w2 ⟨Z, cz, rfl, ho2, hb2⟩
    have HB2 : Hid (Below w.heap.size w w2) := Lib.hid (blC HB1.out hb2)
    have HRV2 := Lib.hid (HRV1.out.below hb2)
    clear ho2 hb2 hx
    go_wp2_with fail
    refine (do_n p inv B n cb y _ HM.out HP.out HRV2.out HL.out HWV.out).mono ?_
    rintro e w3 ⟨Z2, cz2, rfl, ho3, hb3⟩
    have HB3 : Hid (Below w.heap.size w w3) := Lib.hid (blC HB2.out hb3)
    clear ho3 hb3
    go_wp2
    go_ret
    exact ⟨by first | rfl | (simp; done), HB3.out⟩
  obtain ⟨ho, hin, e0⟩ := doS_len p inv x hx
  obtain ⟨N, hN, h2, h5, hT, hU, _⟩ := ptsS_ok ho
  rw [HN.out] at ho hN hT hU e0
  have hn2 : 2 ≤ n := by omega
  have hn5 : n ≤ 5 := by omega
  have HD : Hid (doS p inv x = (doL p (turnS p n inv) x, 0)) := Lib.hid e0
  have HDL : Hid ((doL p (turnS p n inv) x).length = n) := Lib.hid (by rw [doL_length]; exact HN.out)
  rw [HD.out, show ((doL p (turnS p n inv) x, (0 : Int)).1.length) = n from HDL.out]
  rintro e w2 ⟨Z, cz, rfl, ho2, hb2⟩
  have HB2 : Hid (Below w.heap.size w w2) := Lib.hid (blC HB1.out hb2)
  have HRV2 := Lib.hid (HRV1.out.below hb2)
  have HR2 := Lib.hid (HR1.out.below hb2)
  have HRZ : Hid (Row w2 Z (nums .u64 (doL p (turnS p n inv) x))) := Lib.hid ho2.row
  clear ho2 hb2 HR1 HRV1 HB1
  go_wp2_with fail
  refine (do_n p inv B n cb y _ HM.out HP.out HRV2.out HL.out HWV.out).mono ?_
  by_cases hyy : (doS p inv y).2 = 0
  case neg =>
    have HE : Hid ((doS p inv y).1 = []) := Lib.hid (doS_no p inv y hyy)
    have t0 : ((doS p inv y).2 != 0) = true := by simpa using hyy
    have t1 : ((n : Int) == 0) = false := by simp; omega
    rw [HE.out]
    rintro e w3 ⟨Z2, cz2, rfl, ho3, hb3⟩
    have HB3 : Hid (Below w.heap.size w w3) := Lib.hid (blC HB2.out hb3)
    clear ho3 hb3 hx ho hin e0 hN hT hU hyy
    go_wp2
    go_ret
    exact ⟨by first | rfl | (simp; done), HB3.out⟩
  obtain ⟨ho', hin', e1⟩ := doS_len p inv y hyy
  rw [HM.out] at ho' e1
  have HD2 : Hid (doS p inv y = (doL p (turnS p n inv) y, 0)) := Lib.hid e1
  have HDL2 : Hid ((doL p (turnS p n inv) y).length = n) := Lib.hid (by rw [doL_length]; exact HM.out)
  rw [HD2.out, show ((doL p (turnS p n inv) y, (0 : Int)).1.length) = n from HDL2.out]
  rintro e w3 ⟨Z2, cz2, rfl, ho3, hb3⟩
  have HB3 : Hid (Below w.heap.size w w3) := Lib.hid (blC HB2.out hb3)
  have HRV3 := Lib.hid (HRV2.out.below hb3)
  have HR3 := Lib.hid (HR2.out.below hb3)
  have HRZ3 := Lib.hid (HRZ.out.below hb3)
  have HRZ2 : Hid (Row w3 Z2 (nums .u64 (doL p (turnS p n inv) y))) := Lib.hid ho3.row
  obtain ⟨xa, rfl⟩ := HR3.out.some_of (by intro h0; have h1 := nums_length .u64 x; rw [h0, HN.out] at h1; simp at h1; omega)
  obtain ⟨ya, rfl⟩ := HRV3.out.some_of (by intro h0; have h1 := nums_length .u64 y; rw [h0, HM.out] at h1; simp at h1; omega)
  obtain ⟨za, rfl⟩ := HRZ3.out.some_of (by intro h0; have h1 := nums_length .u64 (doL p (turnS p n inv) x); rw [h0, HDL.out] at h1; simp at h1; omega)
  obtain ⟨zb, rfl⟩ := HRZ2.out.some_of (by intro h0; have h1 := nums_length .u64 (doL p (turnS p n inv) y); rw [h0, HDL2.out] at h1; simp at h1; omega)
  have HZD : Hid (doS p inv (zL p c x y n) = (doL p (turnS p n inv) (zL p c x y n), 0)) := Lib.hid (by
    have h1 := doS_is (p := p) (inv := inv) (x := zL p c x y n) (by rw [zL_length]; exact ho) (zL_in hT.known c x y n)
    rw [zL_length] at h1
    exact h1)
  have HZE : Hid (∀ u, u < n → doF p (turnS p n inv) (zL p c x y n) u = addS p (mulS p c (doF p (turnS p n inv) x u)) (doF p (turnS p n inv) y u)) := Lib.hid fun u hu =>
    doF_sums p (turnS p n inv) c x y (zL p c x y n) (by rw [HM.out, HN.out]) (by rw [zL_length, HN.out]) (fun t ht => zL_at p c x y (by rw [HN.out] at ht; exact ht)) u
  have HZL : Hid ((doL p (turnS p n inv) (zL p c x y n)).length = n) := Lib.hid (by rw [doL_length, zL_length])
  clear ho3 hb3 hx ho hin e0 hN hT hU hyy ho' hin' e1 HR2 HRV2 HRZ HB2
  generalize turnS p n inv = a at *
  go_wp2
  go_loopw [15, 62] (fun o q wr => ∃ (k : Nat) (Q : Option Addr) (r : Nat), k ≤ n ∧ q = .int .i64 k ∧ o = .slice Q k r ∧ Hid (Own wr w3.heap.size 37 1 Q k r (nums .u64 (zL p c x y k))) ∧ Hid (Below w3.heap.size w3 wr)) (fun _ q _ => n - (intOf q).toNat)
  case atStart => exact ⟨0, none, 0, Nat.zero_le _, rfl, rfl, Lib.hid (Own.nil _ _ _ _), Lib.hid (Below.refl _ _)⟩
  case round =>
    obtain ⟨k, Q, r, hk, rfl, rfl, HO, HBW⟩ := hrel
    by_cases hlt : k < n
    · have hltx : k < x.length := by have := HN.out; omega
      have hlty : k < y.length := by have := HM.out; omega
      have hc1 := (HR3.out.below HBW.out).num hltx
      have hc2 := (HRV3.out.below HBW.out).num hlty
      have HZS := Lib.hid (zL_succ p c x y k)
      have HZK : Hid (zF p c x y k = addS p (mulS p c x[k]) y[k]) := Lib.hid (by rw [zF, getD_of hltx, getD_of hlty])
      have HU1 : Hid (U64 x[k]) := Lib.hid (HW.out _ (List.getElem_mem hltx))
      have HU2 : Hid (U64 y[k]) := Lib.hid (HWV.out _ (List.getElem_mem hlty))
      have HX1 : Hid ((xa.add k).block < w3.heap.size) := Lib.hid (World.block_lt_of_cell? w3 _ (HR3.out.num hltx))
      have HX2 : Hid ((ya.add k).block < w3.heap.size) := Lib.hid (World.block_lt_of_cell? w3 _ (HRV3.out.num hlty))
      generalize x[k] = u at *
      generalize y[k] = v at *
      have HSZ := Lib.hid HBW.out.size
      go_wp2
      go_region_held3 (fun w' => w'.cell? (xa.add k) = some (.int .u64 u) ∧ w'.cell? (ya.add k) = some (.int .u64 v))
        (first | exact keep2 (by assumption) (by assumption) | exact keepB2 (by assumption) HX1.out HX2.out (by assumption) | go_keep)
        (first
          | (go_at_call 44; refine (mul_calls p c u _ HP.out HC.out HU1.out).mono ?_; rintro e w5 ⟨rfl, ⟨q, rfl⟩⟩)
          | (go_at_call 49; refine (add_calls p (mulS p c u) v _ HP.out (u64_mulS _ _ _) HU2.out).mono ?_; rintro e w6 ⟨rfl, rfl⟩)
          | (refine step_append_row _ Try.underlying47 info_u64 (by rfl) _ _ (by rfl) w3.heap.size k r 1 1 Q ⟨_, 0, none⟩ (zL p c x y k) [addS p (mulS p c u) v] (by rfl) (by rfl) ((HO.out.drewN _).grown ((Below.refl _ _).alloc (Nat.le_refl _) _)) (row_new1 _ _ _) rfl (by decide) (Nat.le_trans HSZ.out (by simp)) (by omega) (by omega) ?_; intro g cap2 w7 hown hbel hgrow hlt5))
      have HO7 : Hid (Own w7 w3.heap.size 37 1 (some ⟨g, 0, none⟩) (k + 1) cap2 (nums .u64 (zL p c x y (k + 1)))) := Lib.hid (by rw [HZS.out, HZK.out]; exact hown)
      have HB7 : Hid (Below w3.heap.size w3 w7) := Lib.hid (((below_drewN HBW.out _).alloc HSZ.out _).trans (hbel.mono (Nat.le_refl _)))
      clear hown hbel hgrow hlt5
      go_wp2
      go_roundw
      case rel => exact ⟨k + 1, some ⟨g, 0, none⟩, cap2, by omega, by go_num, rfl, HO7, HB7⟩
      case measure => simp [intOf]; omega
    · have hke : k = n := by omega
      subst hke
      have HBE : Hid (Below w.heap.size w wr) := Lib.hid (blC HB3.out HBW.out)
      have HRO : Hid (Row wr Q (nums .u64 (zL p c x y k))) := Lib.hid HO.out.row
      have HZN : Hid ((zL p c x y k).length = k) := Lib.hid (zL_length p c x y k)
      have HZU := Lib.hid (zL_u64 p c x y k)
      go_wp2_with fail
      refine (do_n p inv Q k r (zL p c x y k) _ HZN.out HP.out HRO.out HL.out HZU.out).mono ?_
      rw [HZD.out, show ((doL p a (zL p c x y k), (0 : Int)).1.length) = k from HZL.out]
      rintro e w8 ⟨G, cg, rfl, ho8, hb8⟩
      have HB8 : Hid (Below w3.heap.size w3 w8) := Lib.hid (blC HBW.out hb8)
      have HRG : Hid (Row w8 G (nums .u64 (doL p a (zL p c x y k)))) := Lib.hid ho8.row
      obtain ⟨ga, rfl⟩ := HRG.out.some_of (by intro h0; have h1 := nums_length .u64 (doL p a (zL p c x y k)); rw [h0, HZL.out] at h1; simp at h1; omega)
      clear ho8 hb8
      go_wp2
      go_loopw [114] (fun i wr => ∃ j : Nat, j ≤ k ∧ i = .int .i64 j ∧ Hid (Below w8.heap.size w8 wr)) (fun i _ => k - (intOf i).toNat)
      case atStart => exact ⟨0, Nat.zero_le _, rfl, Lib.hid (Below.refl _ _)⟩
      case round =>
        obtain ⟨j, hj, rfl, HB9⟩ := hrel
        by_cases hlt2 : j < k
        · have h1 : j < (doL p a x).length := by have := HDL.out; omega
          have h2 : j < (doL p a y).length := by have := HDL2.out; omega
          have h3 : j < (doL p a (zL p c x y k)).length := by have := HZL.out; omega
          have HB38 : Hid (Below w3.heap.size w3 wr) := Lib.hid (blC HB8.out HB9.out)
          have hc1 := (HRZ3.out.below HB38.out).num h1
          have hc2 := (HRZ2.out.below HB38.out).num h2
          have hc3 := (HRG.out.below HB9.out).num h3
          have hU1 : U64 (doL p a x)[j] := doL_u64 p a x _ (List.getElem_mem h1)
          have hU2 : U64 (doL p a y)[j] := doL_u64 p a y _ (List.getElem_mem h2)
          have he : (doL p a (zL p c x y k))[j] = addS p (mulS p c (doL p a x)[j]) (doL p a y)[j] := by
            have h4 := HZE.out j hlt2
            rw [← getD_of h1 0, ← getD_of h2 0, ← getD_of h3 0, doL_at p a x (by rw [HN.out]; exact hlt2), doL_at p a y (by rw [HM.out]; exact hlt2), doL_at p a (zL p c x y k) (by rw [HZN.out]; exact hlt2)]
            exact h4
          rw [he] at hc3
          have HU1 := Lib.hid hU1
          have HU2 := Lib.hid hU2
          generalize (doL p a x)[j] = u at *
          generalize (doL p a y)[j] = v at *
          clear he h1 h2 h3 hU1 hU2
          go_wp2
          go_quiet (first
            | (go_at_call 44; exact Calls.quiet_of (mul_calls _ _ _ _ HP.out HC.out HU1.out))
            | (go_at_call 49; exact Calls.quiet_of_same (add_calls _ _ _ _ HP.out (u64_mulS _ _ _) HU2.out)))
          go_wp2
          go_roundw
          case rel => exact ⟨j + 1, by omega, by go_num, Lib.hid (below_drewN HB9.out nq)⟩
          case measure => simp [intOf]; omega
        · go_wp2
          go_ret
          exact ⟨by first | rfl | (simp; done), blC (blC HB3.out HB8.out) HB9.out⟩
end Go.Proofs.Ytkofhmiakfmcaaa.P
