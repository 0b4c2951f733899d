
/- The law FactorFew, walked: the map of four numbers by the kit's laws on maps. Conditions: numbers of their kinds; the library's table lies as it was laid. -/
import Derived.Test.YtnlmmgcjhedjkaaDoorFacL
import Derived.Maps.OwnSet
namespace Go.Proofs.YtnlmmgcjhedjkaaDoor.P
open Go.RowKit Go.Maps
set_option linter.unusedVariables false
set_option linter.unusedSimpArgs false
/-- The map of the four radices' places. -/
def ordD : DataW Unit := ((((DataW.map []).put (.int .i64 4) (.lit (.int .i64 1))).put (.int .i64 2) (.lit (.int .i64 2))).put (.int .i64 3) (.lit (.int .i64 3))).put (.int .i64 5) (.lit (.int .i64 4))
theorem map_law : Keyed Tryd.prog 3 := int_keyed Tryd.underlying3
theorem int_zero (w : World) : (zeroValue 3).run Tryd.prog w = .ok (.int .i64 0) w := by kernel_rfl
theorem ord_steps (w : World) : ∃ w1 w2 w3 w4,
    (Instr.mapUpdate 27 (.map (some w.heap.size)) (.int .i64 4) (.int .i64 1)).run Tryd.prog (w.alloc (.map #[] 0)) = .ok () w1 ∧
    (Instr.mapUpdate 27 (.map (some w.heap.size)) (.int .i64 2) (.int .i64 2)).run Tryd.prog w1 = .ok () w2 ∧
    (Instr.mapUpdate 27 (.map (some w.heap.size)) (.int .i64 3) (.int .i64 3)).run Tryd.prog w2 = .ok () w3 ∧
    (Instr.mapUpdate 27 (.map (some w.heap.size)) (.int .i64 5) (.int .i64 4)).run Tryd.prog w3 = .ok () w4 ∧
    w4.ownsMap Tryd.prog 3 (plainElem (H := Unit) Tryd.prog 3) w.heap.size 4 ordD ∧ Below w.heap.size w w4 := by
  have h0 := World.ownsMap_made w Tryd.prog 3 (plainElem (H := Unit) Tryd.prog 3)
  have b0 : Below w.heap.size w (w.alloc (.map #[] 0)) := (Below.refl _ _).alloc (Nat.le_refl _) _
  obtain ⟨w1, r1, h1, g1⟩ := h0.update map_law Tryd.underlying27 (by unfold maxLen; omega) (key := .int .i64 4) (val := .int .i64 1) (keyOf_int_mk Tryd.underlying3 (by decide)) (plainElem_int Tryd.underlying3 (by decide))
  obtain ⟨w2, r2, h2, g2⟩ := h1.update map_law Tryd.underlying27 (by unfold maxLen; omega) (key := .int .i64 2) (val := .int .i64 2) (keyOf_int_mk Tryd.underlying3 (by decide)) (plainElem_int Tryd.underlying3 (by decide))
  obtain ⟨w3, r3, h3, g3⟩ := h2.update map_law Tryd.underlying27 (by unfold maxLen; omega) (key := .int .i64 3) (val := .int .i64 3) (keyOf_int_mk Tryd.underlying3 (by decide)) (plainElem_int Tryd.underlying3 (by decide))
  obtain ⟨w4, r4, h4, g4⟩ := h3.update map_law Tryd.underlying27 (by unfold maxLen; omega) (key := .int .i64 5) (val := .int .i64 4) (keyOf_int_mk Tryd.underlying3 (by decide)) (plainElem_int Tryd.underlying3 (by decide))
  have b1 := b0.grown g1 b0.size (fun j hj => by cases hj; exact Nat.le_refl _)
  have b2 := b1.grown g2 b1.size (fun j hj => by cases hj; exact Nat.le_refl _)
  have b3 := b2.grown g3 b2.size (fun j hj => by cases hj; exact Nat.le_refl _)
  have b4 := b3.grown g4 b3.size (fun j hj => by cases hj; exact Nat.le_refl _)
  exact ⟨w1, w2, w3, w4, r1, r2, r3, r4, h4, b4⟩
theorem ord_at {r : Int} (h : oS r ≠ 0) : ordD.atKey (.int .i64 r) (.lit (.int .i64 0)) = .lit (.int .i64 (oS r)) := by
  have h1 : r = 4 ∨ r = 2 ∨ r = 3 ∨ r = 5 := by
    unfold oS at h
    split at h
    · exact .inl ‹_›
    · split at h
      · exact .inr (.inl ‹_›)
      · split at h
        · exact .inr (.inr (.inl ‹_›))
        · split at h
          · exact .inr (.inr (.inr ‹_›))
          · exact absurd rfl h
  rcases h1 with rfl | rfl | rfl | rfl <;> rfl
theorem ord_look {w : World} {b n : Nat} (h : w.ownsMap Tryd.prog 3 (plainElem (H := Unit) Tryd.prog 3) b n ordD) {r : Int} (hr : oS r ≠ 0) (hw : (Lit.int .i64 r).wf = true) :
    (Instr.lookup 27 (.map (some b)) (.int .i64 r) false).run Tryd.prog w = .ok (.int .i64 (oS r)) w := by
  obtain ⟨c, hrun, hat, _⟩ := h.lookup_int map_law Tryd.underlying27 Tryd.underlying3 (int_zero _) (keyOf_int_mk Tryd.underlying3 hw)
  rw [ord_at hr] at hat
  cases hat
  exact hrun
theorem few_at {l : List Int} {k : Nat} (h : fewOk l k = true) : oS (l.getD k 0) ≠ 0 ∧ (k = 0 ∨ (oS (l.getD (k - 1) 0) ≤ oS (l.getD k 0) ∧ ¬ (l.getD k 0 = 2 ∧ oS (l.getD (k - 1) 0) = 2))) := by
  unfold fewOk at h
  simp only [Bool.and_eq_true, Bool.or_eq_true, Bool.not_eq_true', decide_eq_true_eq, Bool.and_eq_false_iff, decide_eq_false_iff_not] at h
  obtain ⟨h1, h2⟩ := h
  refine ⟨h1, ?_⟩
  rcases h2 with h2 | ⟨h2, h3⟩
  · exact .inl h2
  · exact .inr ⟨h2, fun hh => by rcases h3 with h3 | h3; exact h3 hh.1; exact h3 hh.2⟩
theorem pow_le' {b a n : Nat} (hb : 0 < b) (h : a ≤ n) : b ^ a ≤ b ^ n := Nat.pow_le_pow_right hb h
theorem oS_pos {r : Int} (h : oS r ≠ 0) : 0 < oS r ∧ oS r ≤ 4 := by
  unfold oS at h ⊢
  split
  · decide
  · rename_i h1
    rw [if_neg h1] at h
    split
    · decide
    · rename_i h2
      rw [if_neg h2] at h
      split
      · decide
      · rename_i h3
        rw [if_neg h3] at h
        split
        · decide
        · rename_i h4
          rw [if_neg h4] at h
          exact absurd rfl h
theorem wr_mul2 {v v' : Nat} (h : v' = v * 2) (hb : v ≤ 28000000000) : IntKind.i64.wrap ((v : Int) * 2) = (v' : Int) ∧ wrap64 ((v : Int) * 2) = (v' : Int) := by
  subst h
  refine ⟨?_, ?_⟩
  · rw [wrapI (by omega) (by omega)]; omega
  · rw [wrap64_id ⟨by omega, by omega⟩]; omega
theorem pow_b2 {n a : Nat} {B C : Nat} (hB : n ≤ B) (ha : a ≤ C) : n * 2 ^ a ≤ B * 2 ^ C := Nat.mul_le_mul hB (pow_le' (by decide) ha)
theorem wr_mul3 {v v' : Nat} (h : v' = v * 3) (hb : v ≤ 28000000000) : IntKind.i64.wrap ((v : Int) * 3) = (v' : Int) ∧ wrap64 ((v : Int) * 3) = (v' : Int) := by
  subst h
  refine ⟨?_, ?_⟩
  · rw [wrapI (by omega) (by omega)]; omega
  · rw [wrap64_id ⟨by omega, by omega⟩]; omega
theorem pow_b3 {n a : Nat} {B C : Nat} (hB : n ≤ B) (ha : a ≤ C) : n * 3 ^ a ≤ B * 3 ^ C := Nat.mul_le_mul hB (pow_le' (by decide) ha)
theorem wr_mul5 {v v' : Nat} (h : v' = v * 5) (hb : v ≤ 28000000000) : IntKind.i64.wrap ((v : Int) * 5) = (v' : Int) ∧ wrap64 ((v : Int) * 5) = (v' : Int) := by
  subst h
  refine ⟨?_, ?_⟩
  · rw [wrapI (by omega) (by omega)]; omega
  · rw [wrap64_id ⟨by omega, by omega⟩]; omega
theorem pow_b5 {n a : Nat} {B C : Nat} (hB : n ≤ B) (ha : a ≤ C) : n * 5 ^ a ≤ B * 5 ^ C := Nat.mul_le_mul hB (pow_le' (by decide) ha)
theorem few_wraps {k j i n h2 : Nat} (hk : k < 13) (hj : j < 8) (hi : i < 6) (h : h2 = (k + 1) / 2) (hn : n = (k + 1) / 2 + j + i) :
    (IntKind.i64.wrap ((k : Int) + 1) = (k : Int) + 1 ∧ ((k : Int) + 1).tdiv 2 = (h2 : Int) ∧ IntKind.i64.wrap (h2 : Int) = (h2 : Int) ∧ IntKind.i64.wrap ((h2 : Int) + (j : Int)) = (h2 : Int) + (j : Int) ∧ IntKind.i64.wrap ((h2 : Int) + (j : Int) + (i : Int)) = (n : Int)) ∧
    (wrap64 ((k : Int) + 1) = (k : Int) + 1 ∧ wrap64 (h2 : Int) = (h2 : Int) ∧ wrap64 ((h2 : Int) + (j : Int)) = (h2 : Int) + (j : Int) ∧ wrap64 ((h2 : Int) + (j : Int) + (i : Int)) = (n : Int)) := by
  have hb : h2 ≤ 7 := by omega
  have hn2 : n = h2 + j + i := by omega
  have hq : ((k : Int) + 1).tdiv 2 = (h2 : Int) := by rw [Int.tdiv_eq_ediv_of_nonneg (by omega), h]; push_cast; rfl
  clear h hn
  subst hn2
  refine ⟨⟨wrapI (by omega) (by omega), hq, wrapI (by omega) (by omega), wrapI (by omega) (by omega), ?_⟩, wrap64_id ⟨by omega, by omega⟩, wrap64_id ⟨by omega, by omega⟩, wrap64_id ⟨by omega, by omega⟩, ?_⟩
  · rw [wrapI (by omega) (by omega)]; push_cast; rfl
  · rw [wrap64_id ⟨by omega, by omega⟩]; push_cast; rfl
theorem few_small {k j i n : Nat} (hk : k < 13) (hj : j < 8) (hi : i < 6) (hn : n = (k + 1) / 2 + j + i) : n ≤ 40 := by omega
set_option maxRecDepth 100000 in
set_option maxHeartbeats 4000000 in
theorem factorFew_walk (ta tb tc : Int) (w : World) (ha : (0 : Int) ≤ ta ∧ ta < 256) (hb : (0 : Int) ≤ tb ∧ tb < 256) (hc : (0 : Int) ≤ tc ∧ tc < 256) (hT : Tab w) :
    Calls Tryd.prog 3 #[.int .u8 ta, .int .u8 tb, .int .u8 tc] w fun e w' => e = .returned (.bool true) ∧ Below w.heap.size w w' := by
  obtain ⟨ta, rfl⟩ := Int.eq_ofNat_of_zero_le ha.1
  obtain ⟨tb, rfl⟩ := Int.eq_ofNat_of_zero_le hb.1
  obtain ⟨tc, rfl⟩ := Int.eq_ofNat_of_zero_le hc.1
  have HT := Lib.hid hT
  obtain ⟨a, haa⟩ : ∃ a, a = ta % 13 := ⟨_, rfl⟩
  obtain ⟨b, hbb⟩ : ∃ b, b = tb % 8 := ⟨_, rfl⟩
  obtain ⟨c, hcc⟩ : ∃ c, c = tc % 6 := ⟨_, rfl⟩
  have ma : (ta : Int).tmod 13 = (a : Int) := by rw [Int.tmod_eq_emod_of_nonneg (by omega), haa]; push_cast; rfl
  have mb : (tb : Int).tmod 8 = (b : Int) := by rw [Int.tmod_eq_emod_of_nonneg (by omega), hbb]; push_cast; rfl
  have mc : (tc : Int).tmod 6 = (c : Int) := by rw [Int.tmod_eq_emod_of_nonneg (by omega), hcc]; push_cast; rfl
  have a13 : a < 13 := by omega
  have b8 : b < 8 := by omega
  have c6 : c < 6 := by omega
  have ka : IntKind.u8.wrap (a : Int) = (a : Int) := by rw [IntKind.wrap_u8]; omega
  have kb : IntKind.u8.wrap (b : Int) = (b : Int) := by rw [IntKind.wrap_u8]; omega
  have kc : IntKind.u8.wrap (c : Int) = (c : Int) := by rw [IntKind.wrap_u8]; omega
  have ja : IntKind.i64.wrap (a : Int) = (a : Int) := wrapI (by omega) (by omega)
  have jb : IntKind.i64.wrap (b : Int) = (b : Int) := wrapI (by omega) (by omega)
  have jc : IntKind.i64.wrap (c : Int) = (c : Int) := wrapI (by omega) (by omega)
  clear hT ha hb hc haa hbb hcc
  go_enter Tryd.func3, Tryd.ntmps3
  go_wp2_with fail
  refine (live04_calls _ HT.out).mono ?_
  rintro e w1 ⟨rfl, hb1⟩
  have HB1 := Lib.hid hb1
  clear hb1
  go_wp2
  clear ma mb mc ka kb kc ja jb jc
  go_loopw [10, 29] (fun v q wr => ∃ k : Nat, k ≤ a ∧ q = .int .i64 k ∧ v = .int .i64 ((2 ^ k : Nat) : Int) ∧ Hid (Below w.heap.size w wr)) (fun _ q _ => a - (intOf q).toNat)
  case atStart => exact ⟨0, Nat.zero_le _, rfl, rfl, HB1⟩
  case round =>
    obtain ⟨k, hk, rfl, rfl, HB1⟩ := hrel
    by_cases hlt : k < a
    · have hp1 : 2 ^ (k + 1) = 2 ^ k * 2 := Nat.pow_succ 2 k
      have hp2 : (2 : Nat) ^ k ≤ 2 ^ 12 := pow_le' (by decide) (by omega)
      generalize 2 ^ k = v at *
      generalize hv : 2 ^ (k + 1) = v' at *
      have HV := Lib.hid hv
      clear hv
      obtain ⟨o1, o2⟩ := wr_mul2 hp1 (Nat.le_trans hp2 (by decide))
      clear hp1 hp2
      go_wp2
      go_roundw
      case rel => exact ⟨k + 1, by omega, by go_num, by rw [HV.out], HB1⟩
      case measure => simp [intOf]; omega
    · have hke : k = a := by omega
      subst hke
      have hA : (2 : Nat) ^ k ≤ 2 ^ 12 := pow_le' (by decide) (by omega)
      clear hlt hk
      generalize hA0 : 2 ^ k = A0 at *
      have HA0 := Lib.hid hA0.symm
      have hA4 : A0 ≤ 4096 := Nat.le_trans hA (by decide)
      clear hA0 hA
      go_wp2
      go_loopw [10, 35] (fun v q wr => ∃ j : Nat, j ≤ b ∧ q = .int .i64 j ∧ v = .int .i64 ((A0 * 3 ^ j : Nat) : Int) ∧ Hid (Below w.heap.size w wr)) (fun _ q _ => b - (intOf q).toNat)
      case atStart => exact ⟨0, Nat.zero_le _, rfl, by simp, HB1⟩
      case round =>
        obtain ⟨j, hj, rfl, rfl, HB1⟩ := hrel
        by_cases hlt : j < b
        · have hp1 : A0 * 3 ^ (j + 1) = A0 * 3 ^ j * 3 := by rw [Nat.pow_succ, Nat.mul_assoc]
          have hp2 : A0 * 3 ^ j ≤ 4096 * 3 ^ 7 := Nat.mul_le_mul hA4 (pow_le' (by decide) (by omega))
          generalize A0 * 3 ^ j = v at *
          generalize hv : A0 * 3 ^ (j + 1) = v' at *
          have HV := Lib.hid hv
          clear hv
          obtain ⟨o1, o2⟩ := wr_mul3 hp1 (Nat.le_trans hp2 (by decide))
          clear hp1 hp2
          go_wp2
          go_roundw
          case rel => exact ⟨j + 1, by omega, by go_num, by rw [HV.out], HB1⟩
          case measure => simp [intOf]; omega
        · have hje : j = b := by omega
          subst hje
          have hB : A0 * 3 ^ j ≤ 4096 * 3 ^ 7 := Nat.mul_le_mul hA4 (pow_le' (by decide) (by omega))
          clear hlt hj
          generalize hB0 : A0 * 3 ^ j = B0 at *
          have HB0 := Lib.hid hB0.symm
          have hB4 : B0 ≤ 8957952 := Nat.le_trans hB (by decide)
          clear hB0 hB hA4
          go_wp2
          go_loopw [10, 41] (fun v q wr => ∃ i : Nat, i ≤ c ∧ q = .int .i64 i ∧ v = .int .i64 ((B0 * 5 ^ i : Nat) : Int) ∧ Hid (Below w.heap.size w wr)) (fun _ q _ => c - (intOf q).toNat)
          case atStart => exact ⟨0, Nat.zero_le _, rfl, by simp, HB1⟩
          case round =>
            obtain ⟨i, hi, rfl, rfl, HB1⟩ := hrel
            by_cases hlt : i < c
            · have hp1 : B0 * 5 ^ (i + 1) = B0 * 5 ^ i * 5 := by rw [Nat.pow_succ, Nat.mul_assoc]
              have hp2 : B0 * 5 ^ i ≤ 8957952 * 5 ^ 5 := Nat.mul_le_mul hB4 (pow_le' (by decide) (by omega))
              generalize B0 * 5 ^ i = v at *
              generalize hv : B0 * 5 ^ (i + 1) = v' at *
              have HV := Lib.hid hv
              clear hv
              obtain ⟨o1, o2⟩ := wr_mul5 hp1 (Nat.le_trans hp2 (by decide))
              clear hp1 hp2
              go_wp2
              go_roundw
              case rel => exact ⟨i + 1, by omega, by go_num, by rw [HV.out], HB1⟩
              case measure => simp [intOf]; omega
            · have hie : i = c := by omega
              subst hie
              have hC : B0 * 5 ^ i ≤ 8957952 * 5 ^ 5 := Nat.mul_le_mul hB4 (pow_le' (by decide) (by omega))
              have hfn : B0 * 5 ^ i = fewN k j i := by rw [HB0.out, HA0.out]; rfl
              clear hlt hi
              generalize hN : B0 * 5 ^ i = N at *
              have hN4 : N ≤ 27993600000 := Nat.le_trans hC (by decide)
              have HFN := Lib.hid hfn
              clear hN hC hB4 hfn
              go_wp2_with fail
              refine (radices_calls (N : Int) _ ⟨by omega, by omega⟩ (HT.out.below HB1.out)).mono ?_
              by_cases hbig : 4096 < N
              · have HFS : Hid (facS (N : Int) = ([], 4)) := Lib.hid (facS_out (by omega))
                rw [HFS.out]
                rintro e w2 ⟨Z, z, rfl, ho, hb2⟩
                have HB2 := Lib.hid (blT HB1.out hb2)
                have f0 : decide (4096 < (N : Int)) = true := by simp; omega
                clear hbig ho hb2
                go_wp2
                go_ret
                exact ⟨by first | rfl | (simp; done), HB2.out⟩
              have hok := few_ok a13 b8 c6 (by rw [← HFN.out]; omega)
              rw [← HFN.out] at hok
              obtain ⟨hok1, hok2, hok3⟩ := hok
              have hfe : facS (N : Int) = ((facS (N : Int)).1, 0) := (facS_ok hok1).2
              have hlen := (facS_ok hok1).1.len
              have hhi := (facS_ok hok1).1.hi
              have hlo := (facS_ok hok1).1.lo
              generalize (facS (N : Int)).1 = l at *
              have HFE := Lib.hid hfe
              have HL2 := Lib.hid hok2
              have HOK := Lib.hid hok3
              have HLO := Lib.hid hlo
              have HHI := Lib.hid hhi
              rw [HFE.out]
              generalize hln : l.length = n at *
              have HLN := Lib.hid hln
              have f0 : decide (4096 < (N : Int)) = false := by simp; omega
              obtain ⟨h2, hh2⟩ : ∃ h2, h2 = (k + 1) / 2 := ⟨_, rfl⟩
              obtain ⟨⟨q1, q2, q3, q4, q5⟩, p1, p3, p4, p5⟩ := few_wraps a13 b8 c6 hh2 hok2
              have hn12 : n ≤ 12 := hlen
              have hmm := @run_makeMap Tryd.prog
              clear hok1 hok2 hok3 hfe hlen hhi hlo hln hbig hh2
              dsimp only
              rintro e w2 ⟨Z, z, rfl, ho, hb2⟩
              have HB2 := Lib.hid (blT HB1.out hb2)
              have HO2 := Lib.hid ho.row
              obtain ⟨u1, u2, u3, u4, r1, r2, r3, r4, hmap, hbm⟩ := ord_steps w2
              have HMP := Lib.hid hmap
              have HB4 := Lib.hid (blT HB2.out hbm)
              have HO4 := Lib.hid (HO2.out.below hbm)
              clear ho hb2 hmap hbm
              go_wp2
              clear q1 q2 q3 q4 q5 p1 p3 p4 p5 f0 r1 r2 r3 r4 hmm
              go_loopw [13, 73] (fun v q wr => ∃ t : Nat, t ≤ n ∧ q = .int .i64 t ∧ v = .int .i64 (if t = 0 then 0 else oS (l.getD (t - 1) 0)) ∧ Hid (wr.ownsMap Tryd.prog 3 (plainElem (H := Unit) Tryd.prog 3) w2.heap.size 4 ordD) ∧ Hid (Row wr Z (nums .i64 l)) ∧ Hid (Below w.heap.size w wr)) (fun _ q _ => n - (intOf q).toNat)
              case atStart => exact ⟨0, Nat.zero_le _, rfl, rfl, HMP, HO4, HB4⟩
              case round =>
                obtain ⟨t, ht, rfl, rfl, HMP, HO4, HB4⟩ := hrel
                by_cases hlt : t < n
                · have htl : t < l.length := by have := HLN.out; omega
                  obtain ⟨za, rfl⟩ := HO4.out.some_of (by intro h0; have h1 := nums_length .i64 l; rw [h0] at h1; simp at h1; omega)
                  have hcx := HO4.out.num htl
                  obtain ⟨g1, g2⟩ := few_at (HOK.out t (by omega))
                  have hgd : l.getD t 0 = l[t] := getD_at htl 0
                  have hrw : (Lit.int .i64 l[t]).wf = true := WalkArith.wf_i64 (by have h1 := HLO.out _ (List.getElem_mem htl); have h2 := HHI.out _ (List.getElem_mem htl); omega)
                  have hlk := ord_look HMP.out (by rw [← hgd]; exact g1) hrw
                  have hnext : (if t + 1 = 0 then 0 else oS (l.getD (t + 1 - 1) 0)) = oS l[t] := by rw [if_neg (by omega), Nat.add_sub_cancel, hgd]
                  have HNX := Lib.hid hnext
                  rw [hgd] at g1 g2
                  have g3 := oS_pos g1
                  obtain ⟨o', ho'⟩ : ∃ o', o' = (if t = 0 then 0 else oS (l.getD (t - 1) 0)) := ⟨_, rfl⟩
                  have g4 : o' ≤ oS l[t] ∧ ¬ (l[t] = 2 ∧ o' = 2) := by
                    rcases g2 with g2 | g2
                    · rw [ho', if_pos g2]; exact ⟨by omega, fun h => by omega⟩
                    · by_cases h0 : t = 0
                      · rw [ho', if_pos h0]; exact ⟨by omega, fun h => by omega⟩
                      · rw [ho', if_neg h0]; exact g2
                  rw [← ho']
                  generalize oS l[t] = o at *
                  generalize l[t] = r at *
                  clear ho' g2 hgd hnext hrw
                  have t1 : decide (o < o') = false := by simp; omega
                  have t2 : (o == 0) = false := by simp; omega
                  by_cases h2 : r = 2
                  case' pos =>
                    have t3 : (r == 2) = true := by simp [h2]
                    have t4 : (o' == 2) = false := by simp; omega
                  case' neg =>
                    have t3 : (r == 2) = false := by simp [h2]
                  all_goals
                    clear h2 g1 g3 g4
                    go_wp2
                    go_roundw
                    case rel => exact ⟨t + 1, by omega, by go_num, by rw [HNX.out], HMP, HO4, HB4⟩
                    case measure => simp [intOf]; omega
                · generalize (if t = 0 then (0 : Int) else oS (l.getD (t - 1) 0)) = o' at *
                  go_wp2
                  go_ret
                  exact ⟨rfl, HB4.out⟩
end Go.Proofs.YtnlmmgcjhedjkaaDoor.P
