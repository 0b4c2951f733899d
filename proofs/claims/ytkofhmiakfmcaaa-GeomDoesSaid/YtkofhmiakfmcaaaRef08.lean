/- The contracts of brackenref08's Eval, Sum and Roots. Conditions: words of their kinds; the slices read as lists. -/
import Derived.Test.YtkofhmiakfmcaaaRoots0
import Derived.Test.YtkofhmiakfmcaaaApp2
import Derived.Test.YtkofhmiakfmcaaaRef02
import Derived.WalkMore
namespace Go.Proofs.Ytkofhmiakfmcaaa.P
open Go.RowKit
set_option linter.unusedVariables false
set_option linter.unusedSimpArgs false
theorem getD_in {l : List Int} {k : Nat} (h : k < l.length) (v : Int) : l.getD k v = l[k] := by
  rw [List.getD_eq_getElem?_getD, List.getElem?_eq_getElem h]; rfl
theorem evF_zero (p r : Int) (l : List Int) : evF p r l 0 = 0 := redS_zero p
theorem u64_evF (p r : Int) (l : List Int) (k : Nat) : U64 (evF p r l k) := u64_redS _ _
set_option maxRecDepth 100000 in
theorem r08_eval (p r : Int) (A : Option Addr) (n c : Nat) (l : List Int) (w : World) (hn : l.length = n) (hp : U64 p) (hr : U64 r) (hR : Row w A (nums .u64 l)) (hl : n ≤ 9223372036854775807) (hw : ∀ a ∈ l, U64 a) :
    Calls Try.prog 80 #[.int .u64 p, .slice A n c, .int .u64 r] w fun e w' => e = .returned (.tuple #[.int .u64 (evalS p r l).1, .int .i64 (evalS p r l).2]) ∧ Drawn0 w w' := by
  have HP := Lib.hid hp
  have HRU := Lib.hid hr
  have HR := Lib.hid hR
  have HW := Lib.hid hw
  have HN := Lib.hid hn
  clear hp hr hR hw
  by_cases hk : knownS p = true
  case neg =>
    have HF : Hid (evalS p r l = (0, 2)) := Lib.hid (by rw [evalS, if_neg hk])
    have hk2 : knownS p = false := by simpa using hk
    rw [HF.out]
    clear hk hn
    go_enter Try.func80, Try.ntmps80
    go_wp2_with (go_at_call 52; refine (r01_known _ _).mono ?_; rintro e w' ⟨rfl, rfl⟩)
    go_ret2
    exact ⟨rfl, ⟨0, rfl⟩⟩
  by_cases hlen : n ≤ 65536
  case neg =>
    have HF : Hid (evalS p r l = (0, 1)) := Lib.hid (by rw [evalS, if_pos hk, if_neg (by rw [hn]; exact hlen)])
    have f1 : decide (65536 < (n : Int)) = true := by simp; omega
    rw [HF.out]
    clear hn
    go_enter Try.func80, Try.ntmps80
    go_wp2_with (go_at_call 52; refine (r01_known _ _).mono ?_; rintro e w' ⟨rfl, rfl⟩)
    go_ret2
    exact ⟨rfl, ⟨0, rfl⟩⟩
  have HF : Hid (evalS p r l = (evF p r l n, 0)) := Lib.hid (by rw [evalS, if_pos hk, if_pos (by rw [hn]; exact hlen), ← evF_all, hn])
  have HP0 : Hid (powS p r 0 = 1) := Lib.hid (by rw [powS_zero, one_red hk])
  have f1 : decide (65536 < (n : Int)) = false := by simp; omega
  rw [HF.out]
  clear hn
  go_enter Try.func80, Try.ntmps80
  go_wp2_with (go_at_call 52; refine (r01_known _ _).mono ?_; rintro e w' ⟨rfl, rfl⟩)
  go_loopw [8, 9, 20] (fun s t q wr => ∃ k : Nat, k ≤ n ∧ q = .int .i64 k ∧ s = .int .u64 (evF p r l k) ∧ t = .int .u64 (powS p r k) ∧ Drawn0 w' wr) (fun _ _ q _ => n - (intOf q).toNat)
  case atStart => exact ⟨0, Nat.zero_le _, rfl, by rw [evF_zero], by rw [HP0.out], ⟨0, rfl⟩⟩
  case round =>
    obtain ⟨k, hkn, rfl, rfl, rfl, ⟨q, rfl⟩⟩ := hrel
    by_cases hlt : k < n
    · obtain ⟨x, rfl⟩ := HR.out.some_of (by intro h0; have h1 := nums_length .u64 l; rw [h0, HN.out] at h1; simp at h1; omega)
      have hltl : k < l.length := by have := HN.out; omega
      have hc : w'.cell? (x.add k) = some (.int .u64 l[k]) := HR.out.num hltl
      have HU : Hid (U64 l[k]) := Lib.hid (HW.out _ (List.getElem_mem hltl))
      have HS := Lib.hid (evF_step p r l k)
      rw [getD_in hltl] at HS
      have HT := Lib.hid (powS_succ p r k)
      have HU1 := Lib.hid (u64_evF p r l k)
      have HU2 := Lib.hid (u64_powS p r k)
      generalize l[k] = a at *
      generalize evF p r l k = s at *
      generalize powS p r k = t at *
      go_wp2_with fail
      refine (r01_mul p a t _ HP.out HU.out HU2.out).mono ?_
      rintro e w3 ⟨rfl, rfl⟩
      go_wp2_with fail
      refine (r01_add p s (mulS p a t) _ HP.out HU1.out (u64_mulS _ _ _)).mono ?_
      rintro e w3 ⟨rfl, ⟨q2, rfl⟩⟩
      go_wp2_with fail
      refine (r01_mul p t r _ HP.out HU2.out HRU.out).mono ?_
      rintro e w3 ⟨rfl, rfl⟩
      go_wp2
      go_roundw
      case rel => exact ⟨k + 1, by omega, by go_num, by rw [HS.out], by rw [HT.out], ⟨_, rfl⟩⟩
      case measure => simp [intOf]; omega
    · have hke : k = n := by omega
      subst hke
      go_wp2
      go_ret2
      exact ⟨rfl, ⟨_, rfl⟩⟩
set_option maxRecDepth 100000 in
theorem r08_sum (p z n : Int) (w : World) (hp : U64 p) (hz : U64 z) :
    Calls Try.prog 79 #[.int .u64 p, .int .u64 z, .int .i64 n] w fun e w' => e = .returned (.tuple #[.int .u64 (sumS p z n).1, .int .i64 (sumS p z n).2]) ∧ Below w.heap.size w w' := by
  have HP := Lib.hid hp
  have HZ := Lib.hid hz
  clear hp hz
  by_cases hk : knownS p = true
  case neg =>
    have HF : Hid (sumS p z n = (0, 2)) := Lib.hid (by rw [sumS, if_neg hk])
    have hk2 : knownS p = false := by simpa using hk
    rw [HF.out]
    clear hk
    go_enter Try.func79, Try.ntmps79
    go_wp2_with (go_at_call 52; refine (r01_known _ _).mono ?_; rintro e w' ⟨rfl, rfl⟩)
    go_ret2
    exact ⟨rfl, Below.refl _ _⟩
  by_cases h0 : n < 0
  · have HF : Hid (sumS p z n = (0, 1)) := Lib.hid (by rw [sumS, if_pos hk, if_neg (by omega)])
    have f0 : decide (n < 0) = true := by simpa using h0
    rw [HF.out]
    clear h0
    go_enter Try.func79, Try.ntmps79
    go_wp2_with (go_at_call 52; refine (r01_known _ _).mono ?_; rintro e w' ⟨rfl, rfl⟩)
    go_ret2
    exact ⟨rfl, Below.refl _ _⟩
  by_cases h1 : 65536 < n
  · have HF : Hid (sumS p z n = (0, 1)) := Lib.hid (by rw [sumS, if_pos hk, if_neg (by omega)])
    have f0 : decide (n < 0) = false := by simpa using h0
    have f1 : decide (65536 < n) = true := by simpa using h1
    rw [HF.out]
    clear h0 h1
    go_enter Try.func79, Try.ntmps79
    go_wp2_with (go_at_call 52; refine (r01_known _ _).mono ?_; rintro e w' ⟨rfl, rfl⟩)
    go_ret2
    exact ⟨rfl, Below.refl _ _⟩
  obtain ⟨N, rfl⟩ := Int.eq_ofNat_of_zero_le (show 0 ≤ n by omega)
  have hN : N ≤ 65536 := by omega
  have HF : Hid (sumS p z N = (evalG p z (List.replicate N 1), 0)) := Lib.hid (by rw [sumS, if_pos hk, if_pos ⟨by omega, by omega⟩, evalG_ones, Int.toNat_natCast])
  have HE : Hid (evalS p z (List.replicate N 1) = (evalG p z (List.replicate N 1), 0)) := Lib.hid (evalS_ok hk (by simpa using hN))
  have f0 : decide ((N : Int) < 0) = false := by simp
  have f1 : decide (65536 < (N : Int)) = false := by simp; omega
  have f2 : decide (65536 < N) = false := by simp; omega
  rw [HF.out]
  clear h0 h1
  go_enter Try.func79, Try.ntmps79
  go_wp2_with (go_at_call 52; refine (r01_known _ _).mono ?_; rintro e w' ⟨rfl, rfl⟩)
  go_loopw [8, 19] (fun o q wr => ∃ (k : Nat) (Z : Option Addr) (y : Nat), k ≤ N ∧ q = .int .i64 k ∧ o = .slice Z k y ∧ Hid (Own wr w'.heap.size 37 1 Z k y (nums .u64 (List.replicate k 1))) ∧ Hid (Below w'.heap.size w' wr)) (fun _ q _ => N - (intOf q).toNat)
  case atStart => exact ⟨0, none, 0, Nat.zero_le _, rfl, rfl, Lib.hid (Own.nil _ _ _ _), Lib.hid (Below.refl _ _)⟩
  case round =>
    obtain ⟨k, Z, y, hkN, rfl, rfl, HO2, HB2⟩ := hrel
    by_cases hlt : k < N
    · have HSR : Hid (List.replicate (k + 1) (1 : Int) = List.replicate k 1 ++ [1]) := Lib.hid (List.replicate_succ')
      have HSQ := Lib.hid HB2.out.size
      go_wp2_with (at_builtin; refine append_row _ Try.underlying47 info_u64 rfl _ _ rfl w'.heap.size k y 1 1 Z ⟨wr.heap.size, 0, none⟩ (List.replicate k 1) [1] rfl rfl (HO2.out.grown ((Below.refl _ _).alloc (Nat.le_refl _) _)) (row_new wr [.int .u64 1] 37) rfl (by decide) (Nat.le_trans HSQ.out (by simp)) (by omega) (by omega) ?_; intro g cap2 w6 hown hbel hgrow hlt5)
      have HO6 : Hid (Own w6 w'.heap.size 37 1 (some ⟨g, 0, none⟩) (k + 1) cap2 (nums .u64 (List.replicate (k + 1) 1))) := Lib.hid (by rw [HSR.out]; exact hown)
      have HB6 : Hid (Below w'.heap.size w' w6) := Lib.hid ((HB2.out.alloc HSQ.out _).trans (hbel.mono (Nat.le_refl _)))
      clear hown hbel hgrow hlt5
      go_roundw
      case rel => exact ⟨k + 1, some ⟨g, 0, none⟩, cap2, by omega, by go_num, rfl, HO6, HB6⟩
      case measure => simp [intOf]; omega
    · have hke : k = N := by omega
      subst hke
      have HRL : Hid ((List.replicate k (1 : Int)).length = k) := Lib.hid (by simp)
      have HRU : Hid (∀ a ∈ List.replicate k (1 : Int), U64 a) := Lib.hid fun a ha => by
        rw [(List.mem_replicate.1 ha).2]; decide
      go_wp2_with fail
      refine (r08_eval p z Z k y (List.replicate k 1) _ HRL.out HP.out HZ.out HO2.out.row (by omega) HRU.out).mono ?_
      rw [HE.out]
      rintro e w7 ⟨rfl, ⟨q, rfl⟩⟩
      go_wp2
      go_ret2
      exact ⟨rfl, below_drewN HB2.out q⟩
/-- Whether one of the first seeds is the same as the seed number k. -/
def metS (p : Int) (ss : List Int) (k j : Nat) : Bool := (ss.take j).any fun s => redS p s == redS p (ss.getD k 0)
theorem metS_zero (p : Int) (ss : List Int) (k : Nat) : metS p ss k 0 = false := by simp [metS]
theorem metS_succ (p : Int) (ss : List Int) (k : Nat) {j : Nat} (h : j < ss.length) : metS p ss k (j + 1) = (metS p ss k j || (redS p ss[j] == redS p (ss.getD k 0))) := by
  unfold metS
  rw [List.take_succ_eq_append_getElem h, List.any_append]
  simp
theorem metS_iff (p : Int) (ss : List Int) {k : Nat} (h : k < ss.length) : metS p ss k k = true ↔ ∃ j, j < k ∧ redS p (ss.getD j 0) = redS p (ss.getD k 0) := by
  unfold metS
  rw [List.any_eq_true]
  constructor
  · rintro ⟨s, hs, he⟩
    obtain ⟨j, hj, rfl⟩ := List.getElem_of_mem hs
    rw [List.length_take] at hj
    refine ⟨j, by omega, ?_⟩
    rw [getD_in (show j < ss.length by omega)]
    simpa using he
  · rintro ⟨j, hj, he⟩
    refine ⟨ss.getD j 0, ?_, by simpa using he⟩
    rw [getD_in (show j < ss.length by omega), List.mem_take_iff_getElem]
    exact ⟨j, by omega, rfl⟩
set_option maxRecDepth 100000 in
set_option maxHeartbeats 2000000 in
theorem r08_roots (p : Int) (A C : Option Addr) (n ca m cc : Nat) (l ss : List Int) (w : World) (hn : l.length = n) (hm : ss.length = m) (hp : U64 p) (hr : Row w A (nums .u64 l)) (hl : n ≤ 9223372036854775807) (hw : ∀ a ∈ l, U64 a) (hrs : Row w C (nums .u64 ss)) (hls : m ≤ 9223372036854775807) (hcs : m ≤ cc) (hws : ∀ a ∈ ss, U64 a) :
    Calls Try.prog 82 #[.int .u64 p, .slice A n ca, .slice C m cc] w fun e w' => e = .returned (.tuple #[.int .i64 (rootsS p l ss).1, .int .i64 (rootsS p l ss).2]) ∧ Drawn0 w w' := by
  have HP := Lib.hid hp
  have HN := Lib.hid hn
  have HM := Lib.hid hm
  have HR := Lib.hid hr
  have HW := Lib.hid hw
  have HRS := Lib.hid hrs
  have HWS := Lib.hid hws
  have HL := Lib.hid hl
  clear hp hr hw hrs hws
  by_cases hk : knownS p = true
  case neg =>
    have HF : Hid (rootsS p l ss = (0, 2)) := Lib.hid (by rw [rootsS, if_neg hk])
    have hk2 : knownS p = false := by simpa using hk
    rw [HF.out]
    clear hk hn hm
    go_enter Try.func82, Try.ntmps82
    go_wp2_with (go_at_call 52; refine (r01_known _ _).mono ?_; rintro e w' ⟨rfl, rfl⟩)
    go_ret2
    exact ⟨rfl, ⟨0, rfl⟩⟩
  by_cases hn6 : n ≤ 65536
  case neg =>
    have HF : Hid (rootsS p l ss = (0, 1)) := Lib.hid (by rw [rootsS, if_pos hk, if_neg (by rw [hn]; omega)])
    have f0 : decide (65536 < (n : Int)) = true := by simp; omega
    rw [HF.out]
    clear hn hm
    go_enter Try.func82, Try.ntmps82
    go_wp2_with (go_at_call 52; refine (r01_known _ _).mono ?_; rintro e w' ⟨rfl, rfl⟩)
    go_ret2
    exact ⟨rfl, ⟨0, rfl⟩⟩
  have f0 : decide (65536 < (n : Int)) = false := by simp; omega
  by_cases hm6 : m ≤ 65536
  case neg =>
    have HF : Hid (rootsS p l ss = (0, 1)) := Lib.hid (by rw [rootsS, if_pos hk, if_neg (by rw [hm]; omega)])
    have f1 : decide (65536 < (m : Int)) = true := by simp; omega
    rw [HF.out]
    clear hn hm
    go_enter Try.func82, Try.ntmps82
    go_wp2_with (go_at_call 52; refine (r01_known _ _).mono ?_; rintro e w' ⟨rfl, rfl⟩)
    go_ret2
    exact ⟨rfl, ⟨0, rfl⟩⟩
  have f1 : decide (65536 < (m : Int)) = false := by simp; omega
  have HF : Hid (rootsS p l ss = (((setL p l ss m).length : Int), 0)) := Lib.hid (by rw [rootsS, if_pos hk, if_pos ⟨by rw [hn]; exact hn6, by rw [hm]; exact hm6⟩, hm])
  have HE : Hid (∀ r, evalS p r l = (evalG p r l, 0)) := Lib.hid fun r => evalS_ok hk (by rw [hn]; exact hn6)
  rw [HF.out]
  clear hn hm
  go_enter Try.func82, Try.ntmps82
  go_wp2_with (go_at_call 52; refine (r01_known _ _).mono ?_; rintro e w' ⟨rfl, rfl⟩)
  go_loopw [8, 29] (fun s q wr => ∃ k : Nat, k ≤ m ∧ q = .int .i64 k ∧ s = .int .i64 ((setL p l ss k).length : Int) ∧ Drawn0 w' wr) (fun _ q _ => m - (intOf q).toNat)
  case atStart => exact ⟨0, Nat.zero_le _, rfl, rfl, ⟨0, rfl⟩⟩
  case round =>
    obtain ⟨k, hkm, rfl, rfl, ⟨q, rfl⟩⟩ := hrel
    by_cases hlt : k < m
    · obtain ⟨x, rfl⟩ := HRS.out.some_of (by intro h0; have h1 := nums_length .u64 ss; rw [h0, HM.out] at h1; simp at h1; omega)
      have hlts : k < ss.length := by have := HM.out; omega
      have hc : w'.cell? (x.add k) = some (.int .u64 ss[k]) := HRS.out.num hlts
      have HU : Hid (U64 ss[k]) := Lib.hid (HWS.out _ (List.getElem_mem hlts))
      have HG : Hid (ss.getD k 0 = ss[k]) := Lib.hid (getD_in hlts 0)
      have HSL := Lib.hid (setL_le p l ss k)
      have hsl := HSL.out
      have d0 : decide (k < m) = true := by simp; omega
      have d1 : decide ((k : Int) < (m : Int)) = true := by simp; omega
      have d2 : decide (cc < k) = false := by simp; omega
      have HMS0 := Lib.hid (metS_zero p ss k)
      generalize ss[k] = r at *
      go_wp2
      go_hide hQ
      go_loopw [11, 38] (fun b q wr => ∃ j : Nat, j ≤ k ∧ q = .int .i64 j ∧ b = .bool (metS p ss k j) ∧ Drawn0 w' wr) (fun _ q _ => k - (intOf q).toNat)
      case atStart => exact ⟨0, Nat.zero_le _, rfl, by rw [HMS0.out], ⟨q, rfl⟩⟩
      case round =>
        obtain ⟨j, hjk, rfl, rfl, ⟨q2, rfl⟩⟩ := hrel
        by_cases hlt2 : j < k
        · have hltj : j < ss.length := by omega
          have hc2 : w'.cell? (x.add j) = some (.int .u64 ss[j]) := HRS.out.num hltj
          have HU2 : Hid (U64 ss[j]) := Lib.hid (HWS.out _ (List.getElem_mem hltj))
          have HS := Lib.hid (metS_succ p ss k hltj)
          rw [HG.out] at HS
          generalize ss[j] = s at *
          cases hb : metS p ss k j with
          | true =>
            rw [hb] at HS
            have HS2 : Hid (metS p ss k (j + 1) = true) := Lib.hid (by rw [HS.out]; rfl)
            go_wp2
            go_roundw
            case rel => exact ⟨j + 1, by omega, by go_num, by rw [HS2.out], ⟨_, rfl⟩⟩
            case measure => simp [intOf]; omega
          | false =>
            rw [hb] at HS
            have HS2 : Hid (metS p ss k (j + 1) = (redS p s == redS p r)) := Lib.hid (by rw [HS.out]; rfl)
            go_wp2_with fail
            refine (r01_reduce p s _ HP.out HU2.out).mono ?_
            rintro e w3 ⟨rfl, rfl⟩
            go_wp2_with fail
            refine (r01_reduce p r _ HP.out HU.out).mono ?_
            rintro e w3 ⟨rfl, rfl⟩
            go_wp2
            go_roundw
            case rel => exact ⟨j + 1, by omega, by go_num, by rw [HS2.out], ⟨_, rfl⟩⟩
            case measure => simp [intOf]; omega
        · have hje : j = k := by omega
          subst hje
          have HMI := Lib.hid (metS_iff p ss hlts)
          go_wp2
          subst hQ
          go_wp2_with fail
          refine (r08_eval p r A n ca l _ HN.out HP.out HU.out (HR.out.drewN q2) HL.out HW.out).mono ?_
          rw [HE.out r]
          rintro e w4 ⟨rfl, ⟨q3, rfl⟩⟩
          by_cases hz : evalG p r l = 0
          · rw [hz]
            cases hb : metS p ss j j with
            | true =>
              have HSN : Hid (setL p l ss (j + 1) = setL p l ss j) := Lib.hid (setL_in ((setL_iff (by rw [HG.out]; exact hz)).2 (HMI.out.1 hb)))
              clear hb
              go_wp2
              go_roundw
              case rel => exact ⟨j + 1, by omega, by go_num, by rw [HSN.out], ⟨_, rfl⟩⟩
              case measure => simp [intOf]; omega
            | false =>
              have HSN : Hid ((setL p l ss (j + 1)).length = (setL p l ss j).length + 1) := Lib.hid (by
                have h1 := setL_yes (p := p) (l := l) (ss := ss) (k := j) (by rw [HG.out]; exact hz) (fun h2 => by
                  have h3 := (setL_iff (by rw [HG.out]; exact hz)).1 h2
                  rw [← metS_iff p ss hlts, hb] at h3
                  cases h3)
                rw [h1, List.length_append]; rfl)
              clear hb
              go_wp2
              go_roundw
              case rel => exact ⟨j + 1, by omega, by go_num, by rw [HSN.out]; go_num, ⟨_, rfl⟩⟩
              case measure => simp [intOf]; omega
          · have t0 : (evalG p r l == 0) = false := by simpa using hz
            have HSN : Hid (setL p l ss (j + 1) = setL p l ss j) := Lib.hid (setL_no (by rw [HG.out]; exact hz))
            clear hz
            go_wp2
            go_roundw
            case rel => exact ⟨j + 1, by omega, by go_num, by rw [HSN.out], ⟨_, rfl⟩⟩
            case measure => simp [intOf]; omega
    · have hke : k = m := by omega
      subst hke
      go_wp2
      go_ret2
      exact ⟨rfl, ⟨_, rfl⟩⟩
end Go.Proofs.Ytkofhmiakfmcaaa.P
