
/- The contracts of package seed's words and Weight. Conditions: words of their kinds; slices read as lists; the library's table lies as it was laid. -/
import Derived.Test.YtnlmmgcjhedjkaaDoorGrC
import Derived.Test.YtnlmmgcjhedjkaaDoorSeedQ
import Derived.Test.YtnlmmgcjhedjkaaDoorGeomB
import Derived.Test.YtnlmmgcjhedjkaaDoorFlyB
namespace Go.Proofs.YtnlmmgcjhedjkaaDoor.P
open Go.RowKit
set_option linter.unusedVariables false
set_option linter.unusedSimpArgs false
set_option maxRecDepth 100000 in
set_option maxHeartbeats 2000000 in
theorem wrd9_calls (p : Int) (A : Option Addr) (c n : Nat) (ax : List (Int × Bool)) (B : Option Addr) (cb m : Nat) (x : List Int) (w : World) (hn : ax.length = n) (hm : x.length = m) (hp : U64 p) (hr : Row w A (axR ax)) (hl : n ≤ 8796093022208) (hw : ∀ a ∈ ax, i64 a.1) (hrx : Row w B (nums .u64 x)) (hlm : m ≤ 9223372036854775807) (hT : Tab w) :
    Calls Tryd.prog 112 #[.int .u64 p, .slice A n c, .slice B m cb] w fun e w' => e = .returned (.int .i64 (wrd7 p ax x)) ∧ Below w.heap.size w w' := by
  have HP := Lib.hid hp
  have HR := Lib.hid hr
  have HRX := Lib.hid hrx
  have HN := Lib.hid hn
  have HM := Lib.hid hm
  have HW := Lib.hid hw
  have HT := Lib.hid hT
  have HDN : Hid ((dimsA ax).length = n) := Lib.hid (by rw [dimsA_length]; exact hn)
  have HDW := Lib.hid (dimsA_i64 hw)
  have hl2 : n ≤ 9223372036854775807 := by omega
  clear hp hr hn hw hT hrx hm
  by_cases hc : chk7 p ax = 0
  case neg =>
    have HF : Hid (wrd7 p ax x = chk7 p ax) := Lib.hid (by rw [wrd7, if_neg hc])
    have t0 : (chk7 p ax != 0) = true := by simpa using hc
    rw [HF.out]
    clear hc
    go_enter Tryd.func112, Tryd.ntmps112
    go_wp2_with fail
    refine (chk7_calls _ _ _ _ _ _ HN.out HP.out HR.out hl HW.out HT.out).mono ?_
    rintro e w1 ⟨rfl, hb⟩
    have HB := Lib.hid hb
    clear hb
    go_wp2
    go_ret
    exact ⟨rfl, HB.out⟩
  have HC := Lib.hid hc
  have hk7 := chk7_ok hc
  have HA := Lib.hid (allS_yes hk7.dims)
  clear hc hk7
  by_cases he : prodL (dimsA ax) = (m : Int)
  case' neg =>
    have HF : Hid (wrd7 p ax x = 6) := Lib.hid (by rw [wrd7, if_pos HC.out, HM.out, if_neg he])
    have t1 : (prodL (dimsA ax) != (m : Int)) = true := by simpa using he
    clear he
    generalize prodL (dimsA ax) = P0 at *
  case' pos =>
    cases hin : inS p x
    case' false => have HF : Hid (wrd7 p ax x = 7) := Lib.hid (by rw [wrd7, if_pos HC.out, HM.out, if_pos he, hin]; rfl)
    case' true => have HF : Hid (wrd7 p ax x = 0) := Lib.hid (by rw [wrd7, if_pos HC.out, HM.out, if_pos he, hin]; rfl)
    all_goals
      have HIN := Lib.hid hin
      rw [he] at HA
      have t1 : ((m : Int) != (m : Int)) = false := by simp
      clear he hin
  all_goals
    rw [HF.out]
    go_enter Tryd.func112, Tryd.ntmps112
    go_wp2_with fail
    refine (chk7_calls _ _ _ _ _ _ HN.out HP.out HR.out hl HW.out HT.out).mono ?_
    rw [HC.out]
    rintro e w1 ⟨rfl, hb⟩
    have HB := Lib.hid hb
    have HR1 := Lib.hid (HR.out.below hb)
    have HRX1 := Lib.hid (HRX.out.below hb)
    clear hb
    go_wp2_with fail
    refine (dims7_calls _ _ _ _ _ HN.out HR1.out hl).mono ?_
    rintro e w2 ⟨D, rfl, ho, hb⟩
    have HB2 := Lib.hid (blT HB.out hb)
    have HRX2 := Lib.hid (HRX1.out.below hb)
    have HO := Lib.hid ho.row
    clear ho hb
    go_wp2_with fail
    refine (all_n _ _ _ _ _ HDN.out HO.out hl2 HDW.out).mono ?_
    rw [HA.out]
    rintro e w3 ⟨rfl, rfl⟩
    first
      | (go_wp2
         go_ret
         exact ⟨rfl, HB2.out⟩)
      | (go_wp2_with fail
         refine (in_n _ _ _ _ _ _ HM.out HRX2.out hlm).mono ?_
         rw [HIN.out]
         rintro e w4 ⟨rfl, rfl⟩
         go_wp2
         go_ret
         exact ⟨rfl, HB2.out⟩)
theorem chk7_one {p : Int} {a : Int × Bool} (h : chk7 p [a] = 0) : Chk6 p a.1.toNat a.2 ∧ 1 ≤ a.1 ∧ a.1 ≤ 4096 := by
  have hC := chk7_ok h
  have h1 := hC.at (k := 0) (by simp)
  have hd : (dimsA [a]).getD 0 1 = a.1 := rfl
  rw [hd] at h1
  have h2 : 1 ≤ a.1 := hC.dims.pos _ (by simp [dimsA])
  have h3 := h1.2.n2
  exact ⟨h1.2, h2, by omega⟩
set_option maxRecDepth 100000 in
set_option maxHeartbeats 4000000 in
theorem wgt_calls (p a0 : Int) (a1 inv : Bool) (i z : Int) (w : World) (hp : U64 p) (ha : i64 a0) (hi : i64 i) (hz : U64 z) (hT : Tab w) :
    Calls Tryd.prog 57 #[.int .u64 p, .agg #[.int .i64 a0, .bool a1], .bool inv, .int .i64 i, .int .u64 z] w fun e w' =>
      e = .returned (.tuple #[.int .u64 (wgtS p (a0, a1) inv i z).1, .int .i64 (wgtS p (a0, a1) inv i z).2]) ∧ Below w.heap.size w w' := by
  have HP := Lib.hid hp
  have HZ := Lib.hid hz
  have HT := Lib.hid hT
  have HAI : Hid (∀ a ∈ ([(a0, a1)] : List (Int × Bool)), i64 a.1) := Lib.hid (by
    intro a h
    simp only [List.mem_singleton] at h
    subst h
    exact ha)
  clear hp hz hT
  have hb0 : Below w.heap.size w (w.alloc (.cells #[.int .i64 a0, .bool a1] 64)) := (Below.refl _ _).alloc (Nat.le_refl _) _
  have hc0 : (w.alloc (.cells #[.int .i64 a0, .bool a1] 64)).cell? ⟨w.heap.size, 0, none⟩ = some (.int .i64 a0) := World.news_of_block (cs := #[.int .i64 a0, .bool a1]) (t := 64) (fr := (0, 0)) (heap_alloc_new w _) 0 _ rfl
  have hc1 : (w.alloc (.cells #[.int .i64 a0, .bool a1] 64)).cell? ⟨w.heap.size, 1, none⟩ = some (.bool a1) := World.news_of_block (cs := #[.int .i64 a0, .bool a1]) (t := 64) (fr := (0, 0)) (heap_alloc_new w _) 1 _ rfl
  have hlt : w.heap.size < (w.alloc (.cells #[.int .i64 a0, .bool a1] 64)).heap.size := by simp
  obtain ⟨KB, hKB⟩ : ∃ KB : World → Prop, KB = fun ws => Below w.heap.size w ws ∧ ws.cell? ⟨w.heap.size, 0, none⟩ = some (.int .i64 a0) ∧ ws.cell? ⟨w.heap.size, 1, none⟩ = some (.bool a1) ∧ w.heap.size < ws.heap.size := ⟨_, rfl⟩
  have HK0 : Hid (KB (w.alloc (.cells #[.int .i64 a0, .bool a1] 64))) := Lib.hid (by rw [hKB]; exact ⟨hb0, hc0, hc1, hlt⟩)
  have HKW : Hid (∀ ws, KB ws → Below w.heap.size w ws) := Lib.hid fun ws h => by rw [hKB] at h; exact h.1
  have HKC : Hid (∀ ws, KB ws → ws.cell? ⟨w.heap.size, 0, none⟩ = some (.int .i64 a0)) := Lib.hid fun ws h => by rw [hKB] at h; exact h.2.1
  have HKD : Hid (∀ ws, KB ws → ws.cell? ⟨w.heap.size, 1, none⟩ = some (.bool a1)) := Lib.hid fun ws h => by rw [hKB] at h; exact h.2.2.1
  have HKN : Hid (∀ ws ws', KB ws → Below ws.heap.size ws ws' → KB ws') := Lib.hid fun ws ws' h hb => by
    rw [hKB] at h ⊢
    obtain ⟨h1, h2, h3, h4⟩ := h
    exact ⟨h1.trans (hb.mono (Nat.le_of_lt h4)), (hb.cell h4).trans h2, (hb.cell h4).trans h3, Nat.lt_of_lt_of_le h4 hb.size⟩
  clear hb0 hc0 hc1 hlt hKB
  by_cases hc : chk7 p [(a0, a1)] = 0
  case neg =>
    have HF : Hid (wgtS p (a0, a1) inv i z = (0, chk7 p [(a0, a1)])) := Lib.hid (by rw [wgtS, if_neg hc])
    have t0 : (chk7 p [(a0, a1)] != 0) = true := by simpa using hc
    rw [HF.out]
    clear hc
    go_enter Tryd.func57, Tryd.ntmps57
    go_wp2_with fail
    generalize hV : (w.alloc (.cells #[.int .i64 a0, .bool a1] 64)) = V at *
    have HK1 : Hid (KB (V.alloc (.cells #[.int .i64 a0, .bool a1] 64))) := Lib.hid (HKN.out _ _ HK0.out ((Below.refl _ _).alloc (Nat.le_refl _) _))
    have hr1 : Row (V.alloc (.cells #[.int .i64 a0, .bool a1] 64)) (some ⟨V.heap.size, 0, none⟩) (axR [(a0, a1)]) := row_new V [.int .i64 a0, .bool a1] 64
    rw [show V.heap.size = w.heap.size + 1 by rw [← hV]; simp] at hr1
    clear hV
    generalize (V.alloc (.cells #[.int .i64 a0, .bool a1] 64)) = W at *
    refine (chk7_calls p _ _ 1 [(a0, a1)] _ rfl HP.out hr1 (by decide) HAI.out (HT.out.below (HKW.out _ HK1.out))).mono ?_
    clear hr1
    rintro e w2 ⟨rfl, hb⟩
    have HK2 := Lib.hid (HKN.out _ _ HK1.out hb)
    clear hb
    go_wp2
    go_ret2
    exact ⟨rfl, HKW.out _ HK2.out⟩
  have HC := Lib.hid hc
  obtain ⟨hC6, ha1, ha4⟩ := chk7_one hc
  by_cases hin : 0 ≤ i ∧ i < a0
  case neg =>
    have HF : Hid (wgtS p (a0, a1) inv i z = (0, 1)) := Lib.hid (by rw [wgtS, if_pos hc, if_neg hin])
    rw [HF.out]
    by_cases h0 : i < 0
    case' pos =>
      have f0 : decide (i < 0) = true := by simp; omega
    case' neg =>
      have f0 : decide (i < 0) = false := by simp; omega
      have f1 : decide (a0 ≤ i) = true := by simp; omega
    all_goals
      clear hc h0 hin ha1 ha4 hC6
      go_enter Tryd.func57, Tryd.ntmps57
      go_wp2_with fail
      generalize hV : (w.alloc (.cells #[.int .i64 a0, .bool a1] 64)) = V at *
      have HK1 : Hid (KB (V.alloc (.cells #[.int .i64 a0, .bool a1] 64))) := Lib.hid (HKN.out _ _ HK0.out ((Below.refl _ _).alloc (Nat.le_refl _) _))
      have hr1 : Row (V.alloc (.cells #[.int .i64 a0, .bool a1] 64)) (some ⟨V.heap.size, 0, none⟩) (axR [(a0, a1)]) := row_new V [.int .i64 a0, .bool a1] 64
      rw [show V.heap.size = w.heap.size + 1 by rw [← hV]; simp] at hr1
      clear hV
      generalize (V.alloc (.cells #[.int .i64 a0, .bool a1] 64)) = W at *
      refine (chk7_calls p _ _ 1 [(a0, a1)] _ rfl HP.out hr1 (by decide) HAI.out (HT.out.below (HKW.out _ HK1.out))).mono ?_
      clear hr1
      rw [HC.out]
      rintro e w2 ⟨rfl, hb⟩
      have HK2 := Lib.hid (HKN.out _ _ HK1.out hb)
      clear hb
      have hk0 := HKC.out _ HK2.out
      go_wp2
      go_ret2
      exact ⟨rfl, HKW.out _ HK2.out⟩
  obtain ⟨i0, i1⟩ := hin
  obtain ⟨j, rfl⟩ := Int.eq_ofNat_of_zero_le i0
  obtain ⟨D, rfl⟩ := Int.eq_ofNat_of_zero_le (show 0 ≤ a0 by omega)
  dsimp only at hC6 ha1 ha4
  rw [Int.toNat_natCast] at hC6
  have hjD : j < D := by omega
  have HF : Hid (wgtS p ((D : Int), a1) inv (j : Int) z = (wghV p D a1 inv j z, 0)) := Lib.hid (by
    rw [wgtS, if_pos hc, if_pos ⟨i0, i1⟩, Int.toNat_natCast, Int.toNat_natCast])
  have f0 : decide ((j : Int) < 0) = false := by simp
  have f1 : decide ((D : Int) ≤ (j : Int)) = false := by simp; omega
  have hkn := hC6.known
  have hn1 := hC6.n1
  have ho : (rootS p (ordS D a1)).2 = 0 := hC6.root
  have hob := backS_ok0 ho
  have hIV := invS_ok hkn hn1 (show D ≤ 8192 by omega)
  have HIV : Hid (invS p (D : Int) = ((invS p (D : Int)).1, 0)) := Lib.hid (by rw [hIV])
  have HRT : Hid (∀ w, Calls Tryd.prog 73 #[.int .u64 p, .int .i64 (ordS D a1)] w fun e w' => e = .returned (.tuple #[.int .u64 (rootS p (ordS D a1)).1, .int .i64 0]) ∧ Below w.heap.size w w') := Lib.hid fun w => by
    have := root_calls p (ordS D a1) w HP.out
    rw [ho] at this
    exact this
  have HBT : Hid (∀ w, Calls Tryd.prog 82 #[.int .u64 p, .int .i64 (ordS D a1)] w fun e w' => e = .returned (.tuple #[.int .u64 (backS p (ordS D a1)).1, .int .i64 0]) ∧ Below w.heap.size w w') := Lib.hid fun w => by
    have := back_calls p (ordS D a1) w HP.out
    rw [hob] at this
    exact this
  obtain ⟨_, _, _, _, hL⟩ := hC6.lk
  have HUW := Lib.hid hL.uw
  have HUB := Lib.hid hL.ub
  have HUL := Lib.hid hL.ul
  have HUD : Hid (U64 (D : Int)) := Lib.hid ⟨by omega, by omega⟩
  have HSM : Hid (∀ z, sumS p z (D : Int) = (geoS p z D, 0)) := Lib.hid fun z => by rw [sumS, if_pos hkn, if_pos ⟨by omega, by omega⟩, Int.toNat_natCast]
  have HSC : Hid (∀ (z : Int) (w : World), U64 z → Calls Tryd.prog 110 #[.int .u64 p, .int .u64 z, .int .i64 (D : Int)] w fun e w' => e = .returned (.tuple #[.int .u64 (geoS p z D), .int .i64 0]) ∧ Drawn0 w w') := Lib.hid fun z w hz => by
    have h1 := sum_calls p z (D : Int) w HP.out hz
    rw [HSM.out] at h1
    exact h1
  have HIC : Hid (∀ w, Calls Tryd.prog 83 #[.int .u64 p, .int .u64 (D : Int)] w fun e w' => e = .returned (.tuple #[.int .u64 (invS p (D : Int)).1, .int .i64 0]) ∧ Drawn0 w w') := Lib.hid fun w => by
    have h1 := inv_calls p (D : Int) w HP.out HUD.out
    rw [HIV.out] at h1
    exact h1
  have HPC : Hid (∀ (b : Int) (k : Nat) (w : World), U64 b → k ≤ 8192 → Calls Tryd.prog 66 #[.int .u64 p, .int .u64 b, .int .u64 (k : Int)] w fun e w' => e = .returned (.int .u64 (powS p b k)) ∧ Drawn0 w w') := Lib.hid fun b k w hb hk => by
    have h1 := pow_calls p b (k : Int) w HP.out hb ⟨by omega, by omega⟩
    rw [Int.toNat_natCast] at h1
    exact h1
  have hcv : IntKind.u64.wrap (D : Int) = (D : Int) := by rw [IntKind.wrap_u64]; omega
  have hcj : IntKind.u64.wrap (j : Int) = (j : Int) := by rw [IntKind.wrap_u64]; omega
  have o1 : IntKind.i64.wrap ((D : Int) * 2) = (D : Int) * 2 := wrapI (by omega) (by omega)
  have o2 : wrap64 ((D : Int) * 2) = (D : Int) * 2 := wrap64_id ⟨by omega, by omega⟩
  obtain ⟨s, hs⟩ : ∃ s : Nat, s = 2 * j := ⟨_, rfl⟩
  obtain ⟨u, hu⟩ : ∃ u : Nat, u = 2 * j + 1 := ⟨_, rfl⟩
  have s1 : IntKind.i64.wrap (2 * (j : Int)) = (s : Int) := by rw [wrapI (by omega) (by omega)]; omega
  have s2 : wrap64 (2 * (j : Int)) = (s : Int) := by rw [wrap64_id ⟨by omega, by omega⟩]; omega
  have s3 : IntKind.i64.wrap ((s : Int) + 1) = (u : Int) := by rw [wrapI (by omega) (by omega)]; omega
  have s4 : wrap64 ((s : Int) + 1) = (u : Int) := by rw [wrap64_id ⟨by omega, by omega⟩]; omega
  have c1 : IntKind.u64.wrap (s : Int) = (s : Int) := by rw [IntKind.wrap_u64]; omega
  have c2 : IntKind.u64.wrap (u : Int) = (u : Int) := by rw [IntKind.wrap_u64]; omega
  have k1 : j ≤ 8192 := by omega
  have k2 : s ≤ 8192 := by omega
  have k3 : u ≤ 8192 := by omega
  have HSJ := Lib.hid hs
  have HUJ := Lib.hid hu
  have HP0 : Hid (∀ (b : Int) (w : World), U64 b → Calls Tryd.prog 66 #[.int .u64 p, .int .u64 b, .int .u64 0] w fun e w' => e = .returned (.int .u64 (powS p b 0)) ∧ Drawn0 w w') := Lib.hid fun b w hb => HPC.out b 0 w hb (by decide)
  clear hs hu
  rw [HF.out]
  clear hc hC6 ha1 ha4 i0 i1 hkn hn1 ho hob hIV hL HF HSM
  cases inv <;> cases a1
  · have HV : Hid (wghV p D false false j z = mulS p (geoS p (mulS p (powS p (rootS p (ordS D false)).1 j) z) D) (powS p (rootS p (ordS D false)).1 0)) := Lib.hid (by first | rfl | (rw [HSJ.out]; rfl) | (rw [HUJ.out]; rfl))
    rw [HV.out]
    have ho : ordS D false = (D : Int) := rfl
    rw [ho] at *
    go_enter Tryd.func57, Tryd.ntmps57
    go_wp2_with fail
    generalize hV : (w.alloc (.cells #[.int .i64 (D : Int), .bool false] 64)) = V at *
    have HK1 : Hid (KB (V.alloc (.cells #[.int .i64 (D : Int), .bool false] 64))) := Lib.hid (HKN.out _ _ HK0.out ((Below.refl _ _).alloc (Nat.le_refl _) _))
    have hr1 : Row (V.alloc (.cells #[.int .i64 (D : Int), .bool false] 64)) (some ⟨V.heap.size, 0, none⟩) (axR [((D : Int), false)]) := row_new V [.int .i64 (D : Int), .bool false] 64
    rw [show V.heap.size = w.heap.size + 1 by rw [← hV]; simp] at hr1
    clear hV
    generalize (V.alloc (.cells #[.int .i64 (D : Int), .bool false] 64)) = W at *
    refine (chk7_calls p _ _ 1 [((D : Int), false)] _ rfl HP.out hr1 (by decide) HAI.out (HT.out.below (HKW.out _ HK1.out))).mono ?_
    clear hr1
    rw [HC.out]
    rintro e w2 ⟨rfl, hb⟩
    have HK2 := Lib.hid (HKN.out _ _ HK1.out hb)
    clear hb
    have hk0 := HKC.out _ HK2.out
    have hk1 := HKD.out _ HK2.out
    go_wp2_with fail
    refine (HRT.out _).mono ?_
    rintro e w3 ⟨rfl, hb⟩
    have HK3 := Lib.hid (HKN.out _ _ HK2.out hb)
    clear hb hk0 hk1
    have hk0 := HKC.out _ HK3.out
    have hk1 := HKD.out _ HK3.out
    generalize hWW : (rootS p (ordS D false)).1 = W0 at *
    have HWW := Lib.hid hWW
    clear hWW
    go_wp2
    go_region_held3 (fun w' => w'.cell? ⟨w.heap.size, 0, none⟩ = some (.int .i64 (D : Int))) (first | assumption | go_keep)
      (first
        | (go_at_call 66; refine (HPC.out W0 j _ HUW.out k1).mono ?_; rintro e w6 ⟨rfl, ⟨q, rfl⟩⟩)
        | (go_at_call 35; refine (mul_calls p (powS p W0 j) z _ HP.out (u64_powS _ _ _) HZ.out).mono ?_; rintro e w6 ⟨rfl, ⟨q, rfl⟩⟩)
        | (go_at_call 110; refine (HSC.out (mulS p (powS p W0 j) z) _ (u64_mulS _ _ _)).mono ?_; rintro e w6 ⟨rfl, ⟨q, rfl⟩⟩))
    have hkq : ∀ q, (w3.drewN q).cell? ⟨w.heap.size, 0, none⟩ = some (.int .i64 (D : Int)) := fun q => hk0
    have HKQ : Hid (∀ q, KB (w3.drewN q)) := Lib.hid fun q => HKN.out _ _ HK3.out (below_drewN (Below.refl _ _) q)
    go_wp2_with fail
    refine (HP0.out W0 _ HUW.out).mono ?_
    rintro e w7 ⟨rfl, ⟨q7, rfl⟩⟩
    go_wp2_with fail
    refine (mul_calls p (geoS p (mulS p (powS p W0 j) z) D) (powS p W0 0) _ HP.out (u64_geoS _ _ _) (u64_powS _ _ _)).mono ?_
    rintro e w8 ⟨rfl, ⟨q8, rfl⟩⟩
    go_wp2
    go_ret2
    exact ⟨by rw [show (rootS p D).1 = W0 from HWW.out]; rfl, HKW.out _ (HKQ.out _)⟩
  · have HV : Hid (wghV p D true false j z = mulS p (geoS p (mulS p (powS p (rootS p (ordS D true)).1 s) z) D) (powS p (rootS p (ordS D true)).1 j)) := Lib.hid (by first | rfl | (rw [HSJ.out]; rfl) | (rw [HUJ.out]; rfl))
    rw [HV.out]
    have ho : ordS D true = (D : Int) * 2 := rfl
    rw [ho] at *
    go_enter Tryd.func57, Tryd.ntmps57
    go_wp2_with fail
    generalize hV : (w.alloc (.cells #[.int .i64 (D : Int), .bool true] 64)) = V at *
    have HK1 : Hid (KB (V.alloc (.cells #[.int .i64 (D : Int), .bool true] 64))) := Lib.hid (HKN.out _ _ HK0.out ((Below.refl _ _).alloc (Nat.le_refl _) _))
    have hr1 : Row (V.alloc (.cells #[.int .i64 (D : Int), .bool true] 64)) (some ⟨V.heap.size, 0, none⟩) (axR [((D : Int), true)]) := row_new V [.int .i64 (D : Int), .bool true] 64
    rw [show V.heap.size = w.heap.size + 1 by rw [← hV]; simp] at hr1
    clear hV
    generalize (V.alloc (.cells #[.int .i64 (D : Int), .bool true] 64)) = W at *
    refine (chk7_calls p _ _ 1 [((D : Int), true)] _ rfl HP.out hr1 (by decide) HAI.out (HT.out.below (HKW.out _ HK1.out))).mono ?_
    clear hr1
    rw [HC.out]
    rintro e w2 ⟨rfl, hb⟩
    have HK2 := Lib.hid (HKN.out _ _ HK1.out hb)
    clear hb
    have hk0 := HKC.out _ HK2.out
    have hk1 := HKD.out _ HK2.out
    go_wp2_with fail
    refine (HRT.out _).mono ?_
    rintro e w3 ⟨rfl, hb⟩
    have HK3 := Lib.hid (HKN.out _ _ HK2.out hb)
    clear hb hk0 hk1
    have hk0 := HKC.out _ HK3.out
    have hk1 := HKD.out _ HK3.out
    generalize hWW : (rootS p (ordS D true)).1 = W0 at *
    have HWW := Lib.hid hWW
    clear hWW
    go_wp2
    go_region_held3 (fun w' => w'.cell? ⟨w.heap.size, 0, none⟩ = some (.int .i64 (D : Int))) (first | assumption | go_keep)
      (first
        | (go_at_call 66; refine (HPC.out W0 s _ HUW.out k2).mono ?_; rintro e w6 ⟨rfl, ⟨q, rfl⟩⟩)
        | (go_at_call 35; refine (mul_calls p (powS p W0 s) z _ HP.out (u64_powS _ _ _) HZ.out).mono ?_; rintro e w6 ⟨rfl, ⟨q, rfl⟩⟩)
        | (go_at_call 110; refine (HSC.out (mulS p (powS p W0 s) z) _ (u64_mulS _ _ _)).mono ?_; rintro e w6 ⟨rfl, ⟨q, rfl⟩⟩))
    have hkq : ∀ q, (w3.drewN q).cell? ⟨w.heap.size, 0, none⟩ = some (.int .i64 (D : Int)) := fun q => hk0
    have HKQ : Hid (∀ q, KB (w3.drewN q)) := Lib.hid fun q => HKN.out _ _ HK3.out (below_drewN (Below.refl _ _) q)
    go_wp2_with fail
    refine (HPC.out W0 j _ HUW.out k1).mono ?_
    rintro e w7 ⟨rfl, ⟨q7, rfl⟩⟩
    go_wp2_with fail
    refine (mul_calls p (geoS p (mulS p (powS p W0 s) z) D) (powS p W0 j) _ HP.out (u64_geoS _ _ _) (u64_powS _ _ _)).mono ?_
    rintro e w8 ⟨rfl, ⟨q8, rfl⟩⟩
    go_wp2
    go_ret2
    exact ⟨by rw [show (rootS p ((D : Int) * 2)).1 = W0 from HWW.out]; rfl, HKW.out _ (HKQ.out _)⟩
  · have HV : Hid (wghV p D false true j z = mulS p (mulS p (geoS p (mulS p (powS p (backS p (ordS D false)).1 j) z) D) (powS p (backS p (ordS D false)).1 0)) (invS p D).1) := Lib.hid (by first | rfl | (rw [HSJ.out]; rfl) | (rw [HUJ.out]; rfl))
    rw [HV.out]
    have ho : ordS D false = (D : Int) := rfl
    rw [ho] at *
    go_enter Tryd.func57, Tryd.ntmps57
    go_wp2_with fail
    generalize hV : (w.alloc (.cells #[.int .i64 (D : Int), .bool false] 64)) = V at *
    have HK1 : Hid (KB (V.alloc (.cells #[.int .i64 (D : Int), .bool false] 64))) := Lib.hid (HKN.out _ _ HK0.out ((Below.refl _ _).alloc (Nat.le_refl _) _))
    have hr1 : Row (V.alloc (.cells #[.int .i64 (D : Int), .bool false] 64)) (some ⟨V.heap.size, 0, none⟩) (axR [((D : Int), false)]) := row_new V [.int .i64 (D : Int), .bool false] 64
    rw [show V.heap.size = w.heap.size + 1 by rw [← hV]; simp] at hr1
    clear hV
    generalize (V.alloc (.cells #[.int .i64 (D : Int), .bool false] 64)) = W at *
    refine (chk7_calls p _ _ 1 [((D : Int), false)] _ rfl HP.out hr1 (by decide) HAI.out (HT.out.below (HKW.out _ HK1.out))).mono ?_
    clear hr1
    rw [HC.out]
    rintro e w2 ⟨rfl, hb⟩
    have HK2 := Lib.hid (HKN.out _ _ HK1.out hb)
    clear hb
    have hk0 := HKC.out _ HK2.out
    have hk1 := HKD.out _ HK2.out
    go_wp2_with fail
    refine (HBT.out _).mono ?_
    rintro e w3 ⟨rfl, hb⟩
    have HK3 := Lib.hid (HKN.out _ _ HK2.out hb)
    clear hb hk0 hk1
    have hk0 := HKC.out _ HK3.out
    have hk1 := HKD.out _ HK3.out
    generalize hWW : (backS p (ordS D false)).1 = W0 at *
    have HWW := Lib.hid hWW
    clear hWW
    go_wp2
    go_region_held3 (fun w' => w'.cell? ⟨w.heap.size, 0, none⟩ = some (.int .i64 (D : Int))) (first | assumption | go_keep)
      (first
        | (go_at_call 66; refine (HPC.out W0 j _ HUB.out k1).mono ?_; rintro e w6 ⟨rfl, ⟨q, rfl⟩⟩)
        | (go_at_call 35; refine (mul_calls p (powS p W0 j) z _ HP.out (u64_powS _ _ _) HZ.out).mono ?_; rintro e w6 ⟨rfl, ⟨q, rfl⟩⟩)
        | (go_at_call 110; refine (HSC.out (mulS p (powS p W0 j) z) _ (u64_mulS _ _ _)).mono ?_; rintro e w6 ⟨rfl, ⟨q, rfl⟩⟩))
    have hkq : ∀ q, (w3.drewN q).cell? ⟨w.heap.size, 0, none⟩ = some (.int .i64 (D : Int)) := fun q => hk0
    have HKQ : Hid (∀ q, KB (w3.drewN q)) := Lib.hid fun q => HKN.out _ _ HK3.out (below_drewN (Below.refl _ _) q)
    go_wp2_with fail
    refine (HP0.out W0 _ HUB.out).mono ?_
    rintro e w7 ⟨rfl, ⟨q7, rfl⟩⟩
    go_wp2_with fail
    refine (mul_calls p (geoS p (mulS p (powS p W0 j) z) D) (powS p W0 0) _ HP.out (u64_geoS _ _ _) (u64_powS _ _ _)).mono ?_
    rintro e w8 ⟨rfl, ⟨q8, rfl⟩⟩
    go_wp2_with fail
    refine (HIC.out _).mono ?_
    rintro e w9 ⟨rfl, ⟨q9, rfl⟩⟩
    go_wp2_with fail
    refine (mul_calls p _ (invS p (D : Int)).1 _ HP.out (u64_mulS _ _ _) HUL.out).mono ?_
    rintro e w10 ⟨rfl, ⟨q10, rfl⟩⟩
    go_wp2
    go_ret2
    exact ⟨by rw [show (backS p D).1 = W0 from HWW.out]; rfl, HKW.out _ (HKQ.out _)⟩
  · have HV : Hid (wghV p D true true j z = mulS p (mulS p (geoS p (mulS p (powS p (backS p (ordS D true)).1 u) z) D) (powS p (backS p (ordS D true)).1 0)) (invS p D).1) := Lib.hid (by first | rfl | (rw [HSJ.out]; rfl) | (rw [HUJ.out]; rfl))
    rw [HV.out]
    have ho : ordS D true = (D : Int) * 2 := rfl
    rw [ho] at *
    go_enter Tryd.func57, Tryd.ntmps57
    go_wp2_with fail
    generalize hV : (w.alloc (.cells #[.int .i64 (D : Int), .bool true] 64)) = V at *
    have HK1 : Hid (KB (V.alloc (.cells #[.int .i64 (D : Int), .bool true] 64))) := Lib.hid (HKN.out _ _ HK0.out ((Below.refl _ _).alloc (Nat.le_refl _) _))
    have hr1 : Row (V.alloc (.cells #[.int .i64 (D : Int), .bool true] 64)) (some ⟨V.heap.size, 0, none⟩) (axR [((D : Int), true)]) := row_new V [.int .i64 (D : Int), .bool true] 64
    rw [show V.heap.size = w.heap.size + 1 by rw [← hV]; simp] at hr1
    clear hV
    generalize (V.alloc (.cells #[.int .i64 (D : Int), .bool true] 64)) = W at *
    refine (chk7_calls p _ _ 1 [((D : Int), true)] _ rfl HP.out hr1 (by decide) HAI.out (HT.out.below (HKW.out _ HK1.out))).mono ?_
    clear hr1
    rw [HC.out]
    rintro e w2 ⟨rfl, hb⟩
    have HK2 := Lib.hid (HKN.out _ _ HK1.out hb)
    clear hb
    have hk0 := HKC.out _ HK2.out
    have hk1 := HKD.out _ HK2.out
    go_wp2_with fail
    refine (HBT.out _).mono ?_
    rintro e w3 ⟨rfl, hb⟩
    have HK3 := Lib.hid (HKN.out _ _ HK2.out hb)
    clear hb hk0 hk1
    have hk0 := HKC.out _ HK3.out
    have hk1 := HKD.out _ HK3.out
    generalize hWW : (backS p (ordS D true)).1 = W0 at *
    have HWW := Lib.hid hWW
    clear hWW
    go_wp2
    go_region_held3 (fun w' => w'.cell? ⟨w.heap.size, 0, none⟩ = some (.int .i64 (D : Int))) (first | assumption | go_keep)
      (first
        | (go_at_call 66; refine (HPC.out W0 u _ HUB.out k3).mono ?_; rintro e w6 ⟨rfl, ⟨q, rfl⟩⟩)
        | (go_at_call 35; refine (mul_calls p (powS p W0 u) z _ HP.out (u64_powS _ _ _) HZ.out).mono ?_; rintro e w6 ⟨rfl, ⟨q, rfl⟩⟩)
        | (go_at_call 110; refine (HSC.out (mulS p (powS p W0 u) z) _ (u64_mulS _ _ _)).mono ?_; rintro e w6 ⟨rfl, ⟨q, rfl⟩⟩))
    have hkq : ∀ q, (w3.drewN q).cell? ⟨w.heap.size, 0, none⟩ = some (.int .i64 (D : Int)) := fun q => hk0
    have HKQ : Hid (∀ q, KB (w3.drewN q)) := Lib.hid fun q => HKN.out _ _ HK3.out (below_drewN (Below.refl _ _) q)
    go_wp2_with fail
    refine (HP0.out W0 _ HUB.out).mono ?_
    rintro e w7 ⟨rfl, ⟨q7, rfl⟩⟩
    go_wp2_with fail
    refine (mul_calls p (geoS p (mulS p (powS p W0 u) z) D) (powS p W0 0) _ HP.out (u64_geoS _ _ _) (u64_powS _ _ _)).mono ?_
    rintro e w8 ⟨rfl, ⟨q8, rfl⟩⟩
    go_wp2_with fail
    refine (HIC.out _).mono ?_
    rintro e w9 ⟨rfl, ⟨q9, rfl⟩⟩
    go_wp2_with fail
    refine (mul_calls p _ (invS p (D : Int)).1 _ HP.out (u64_mulS _ _ _) HUL.out).mono ?_
    rintro e w10 ⟨rfl, ⟨q10, rfl⟩⟩
    go_wp2
    go_ret2
    exact ⟨by rw [show (backS p ((D : Int) * 2)).1 = W0 from HWW.out]; rfl, HKW.out _ (HKQ.out _)⟩
end Go.Proofs.YtnlmmgcjhedjkaaDoor.P
