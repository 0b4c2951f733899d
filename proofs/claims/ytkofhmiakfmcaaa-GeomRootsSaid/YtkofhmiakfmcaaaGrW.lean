/- The law GeomRoots, walked. Conditions: words of their kinds; the slices read as lists. -/
import Derived.Test.YtkofhmiakfmcaaaRoots0
namespace Go.Proofs.Ytkofhmiakfmcaaa.P
open Go.RowKit
set_option linter.unusedVariables false
set_option linter.unusedSimpArgs false
/-- Whether the first ones are noughts. -/
def noL (p : Int) (l : List Int) (k : Nat) : Bool := (l.take k).all fun a => redS p a == 0
theorem noL_zero (p : Int) (l : List Int) : noL p l 0 = true := by simp [noL]
theorem noL_succ (p : Int) (l : List Int) {k : Nat} (h : k < l.length) : noL p l (k + 1) = (noL p l k && (redS p l[k] == 0)) := by
  unfold noL
  rw [List.take_succ_eq_append_getElem h, List.all_append]
  simp
theorem noL_all (p : Int) (l : List Int) : noL p l l.length = true ↔ ∀ a ∈ l, redS p a = 0 := by
  unfold noL
  rw [List.take_length, List.all_eq_true]
  exact ⟨fun h a ha => by simpa using h a ha, fun h a ha => by simpa using h a ha⟩
set_option maxRecDepth 100000 in
set_option maxHeartbeats 2000000 in
theorem geomRoots_walk (p : Int) (A : Option Addr) (ca : Nat) (l : List Int) (C : Option Addr) (cc : Nat) (ss : List Int) (w : World) (hp : U64 p)
    (hr : Row w A (nums .u64 l)) (hy : l.length * 8 ≤ 140737488351232) (hw : ∀ d ∈ l, (Lit.int .u64 d).wf = true) (hrs : Row w C (nums .u64 ss)) (hys : ss.length * 8 ≤ 140737488351232) (hws : ∀ d ∈ ss, (Lit.int .u64 d).wf = true) :
    Calls Try.prog 23 #[.int .u64 p, .slice A l.length ca, .slice C ss.length cc] w fun e w' => e = .returned (.bool true) ∧ Below w.heap.size w w' := by
  have HP := Lib.hid hp
  have HR := Lib.hid hr
  have HW : Hid (∀ d ∈ l, U64 d) := Lib.hid fun d hd => u64_wf (hw d hd)
  have HRS := Lib.hid hrs
  have HWS : Hid (∀ d ∈ ss, U64 d) := Lib.hid fun d hd => u64_wf (hws d hd)
  clear hp hr hw hrs hws
  generalize hn : l.length = n at *
  generalize hm : ss.length = m at *
  have HN := Lib.hid hn
  have HM := Lib.hid hm
  have HL : Hid (n ≤ 9223372036854775807) := Lib.hid (by omega)
  have HLM : Hid (m ≤ 9223372036854775807) := Lib.hid (by omega)
  clear hn hm
  go_enter Try.func23, Try.ntmps23
  go_wp2_with fail
  refine (live08_calls _).mono ?_
  rintro e w1 ⟨rfl, ⟨q0, rfl⟩⟩
  have HB1 : Hid (Below w.heap.size w (w.drewN q0)) := Lib.hid (below_drewN (Below.refl _ _) _)
  have HR1 := Lib.hid (HR.out.drewN q0)
  have HRS1 := Lib.hid (HRS.out.drewN q0)
  by_cases g0 : 30 < n
  · have f0 : decide (30 < (n : Int)) = true := by simp; omega
    clear g0
    go_wp2
    go_ret
    exact ⟨rfl, HB1.out⟩
  have f0 : decide (30 < (n : Int)) = false := by simp; omega
  by_cases g1 : 60 < m
  · have f1 : decide (60 < (m : Int)) = true := by simp; omega
    go_wp2
    go_ret
    exact ⟨rfl, HB1.out⟩
  have f1 : decide (60 < (m : Int)) = false := by simp; omega
  have hn30 : n ≤ 30 := by omega
  have hm60 : m ≤ 60 := by omega
  generalize w.drewN q0 = w1 at *
  go_wp2_with fail
  refine (roots_calls p A C n ca m cc l ss _ HN.out HM.out HP.out HR1.out HL.out HW.out HRS1.out HLM.out HWS.out).mono ?_
  by_cases hk : knownS p = true
  case neg =>
    have HF : Hid (rootsS p l ss = (0, 2)) := Lib.hid (by rw [rootsS, if_neg hk])
    have hk2 : knownS p = false := by simpa using hk
    rw [HF.out]
    rintro e w2 ⟨rfl, hb2⟩
    have HB2 : Hid (Below w.heap.size w w2) := Lib.hid (blE HB1.out hb2)
    clear hb2
    go_wp2_with (go_at_call 43; refine (known_calls _ _).mono ?_; rintro e w3 ⟨rfl, rfl⟩)
    go_ret
    exact ⟨by first | rfl | (simp; done), HB2.out⟩
  have HF : Hid (rootsS p l ss = (((setL p l ss m).length : Int), 0)) := Lib.hid (by rw [rootsS, if_pos hk, if_pos ⟨by rw [HN.out]; omega, by rw [HM.out]; omega⟩, HM.out])
  have HF2 : Hid (rootsS p [] ss = (((setL p [] ss m).length : Int), 0)) := Lib.hid (by rw [rootsS, if_pos hk, if_pos ⟨by decide, by rw [HM.out]; omega⟩, HM.out])
  have HNO : Hid (noL p l n = true → (setL p l ss m).length = (setL p [] ss m).length) := Lib.hid fun h => by
    rw [← HN.out, noL_all] at h
    rw [setL_noughts h]
  have HFE : Hid (noL p l n = false → (setL p l ss m).length < n) := Lib.hid fun h => by
    rw [← HN.out]
    refine setL_few hk (fun h2 => ?_) ss m
    rw [← noL_all, HN.out, h] at h2
    cases h2
  have h1 := setL_all p l ss m
  have h2 := setL_le p [] ss m
  rw [HF.out]
  generalize (setL p l ss m).length = x at *
  generalize (setL p [] ss m).length = y at *
  rintro e w2 ⟨rfl, hb2⟩
  have HB2 : Hid (Below w.heap.size w w2) := Lib.hid (blE HB1.out hb2)
  have HR2 := Lib.hid (HR1.out.below hb2)
  have HRS2 := Lib.hid (HRS1.out.below hb2)
  clear hb2 HB1 HR1 HRS1
  go_wp2
  go_loopw [9, 42] (fun b q wr => ∃ k : Nat, k ≤ n ∧ q = .int .i64 k ∧ b = .bool (noL p l k) ∧ wr = w2) (fun _ q _ => n - (intOf q).toNat)
  case atStart => exact ⟨0, Nat.zero_le _, rfl, by rw [noL_zero], rfl⟩
  case round =>
    obtain ⟨k, hkn, rfl, rfl, rfl⟩ := hrel
    by_cases hlt : k < n
    · obtain ⟨xa, rfl⟩ := HR2.out.some_of (by intro h0; have h1 := nums_length .u64 l; rw [h0, HN.out] at h1; simp at h1; omega)
      have hltl : k < l.length := by have := HN.out; omega
      have hc := HR2.out.num hltl
      have HU : Hid (U64 l[k]) := Lib.hid (HW.out _ (List.getElem_mem hltl))
      have HS := Lib.hid (noL_succ p l hltl)
      generalize l[k] = a at *
      cases hb : noL p l k with
      | true =>
        rw [hb] at HS
        have HS2 : Hid (noL p l (k + 1) = (redS p a == 0)) := Lib.hid (by rw [HS.out]; rfl)
        go_wp2_with (go_at_call 45; refine (reduce_calls _ _ _ HP.out HU.out).mono ?_; rintro e w3 ⟨rfl, rfl⟩)
        go_roundw
        case rel => exact ⟨k + 1, by omega, by go_num, by rw [HS2.out], by trivial⟩
        case measure => simp [intOf]; omega
      | false =>
        rw [hb] at HS
        have HS2 : Hid (noL p l (k + 1) = false) := Lib.hid (by rw [HS.out]; rfl)
        go_wp2
        go_roundw
        case rel => exact ⟨k + 1, by omega, by go_num, by rw [HS2.out], by trivial⟩
        case measure => simp [intOf]; omega
    · have hke : k = n := by omega
      subst hke
      go_wp2_with fail
      refine (roots_calls p none C 0 0 m cc [] ss _ rfl HM.out HP.out (Row.nil _ _) (by decide) (by simp) HRS2.out HLM.out HWS.out).mono ?_
      rw [HF2.out]
      rintro e w4 ⟨rfl, hb4⟩
      have HB4 : Hid (Below w.heap.size w w4) := Lib.hid (blE HB2.out hb4)
      clear hb4
      have t1 : decide ((x : Int) < 0) = false := by simp
      have t2 : decide ((y : Int) < (x : Int)) = false := by simp; omega
      have t3 : decide ((m : Int) < (y : Int)) = false := by simp; omega
      have t4 : decide (y < x) = false := by simp; omega
      have t5 : decide (m < y) = false := by simp; omega
      cases hb : noL p l k with
      | true =>
        have hxy : x = y := HNO.out hb
        subst hxy
        go_wp2
        go_ret
        exact ⟨by first | rfl | (simp; done), HB4.out⟩
      | false =>
        have hxn : x < k := HFE.out hb
        have t6 : decide ((x : Int) < (k : Int)) = true := by simp; omega
        have t7 : decide (x < k) = true := by simp; omega
        go_wp2
        go_ret
        exact ⟨by first | rfl | (simp; done) | (simp; omega), HB4.out⟩
end Go.Proofs.Ytkofhmiakfmcaaa.P
