/- The contract of brackenref02's Powers. Conditions: words of their kinds. -/
import Derived.Test.YtkofhmiakfmcaaaRef03
import Derived.Test.YtkofhmiakfmcaaaApp
namespace Go.Proofs.Ytkofhmiakfmcaaa.P
open Go.RowKit
set_option linter.unusedVariables false
set_option linter.unusedSimpArgs false
theorem r02_powers (p a many : Int) (w : World) (hp : U64 p) (ha : U64 a) (hm : i64 many) :
    Calls Try.prog 66 #[.int .u64 p, .int .u64 a, .int .i64 many] w fun e w' => ∃ A c,
      e = .returned (.tuple #[.slice A (powersS p a many).1.length c, .int .i64 (powersS p a many).2]) ∧ Own w' w.heap.size 37 1 A (powersS p a many).1.length c (nums .u64 (powersS p a many).1) ∧ Below w.heap.size w w' := by
  have HA := Lib.hid ha
  have HP := Lib.hid hp
  clear ha hp
  obtain ⟨m0, m1⟩ := hm
  by_cases hk : knownS p = true
  · by_cases hr : 0 ≤ many ∧ many ≤ 65536
    · obtain ⟨r0, r1⟩ := hr
      obtain ⟨n, rfl⟩ := Int.eq_ofNat_of_zero_le r0
      have HF : Hid (powersS p a n = ((List.range n).map (powS p a), 0)) := Lib.hid (by rw [powersS, if_pos hk, if_pos ⟨r0, r1⟩, Int.toNat_natCast])
      have HL : Hid (((List.range n).map (powS p a)).length = n) := Lib.hid (by simp)
      have H1 : Hid (redS p 1 = powS p a 0) := Lib.hid (powS_zero p a).symm
      rw [HF.out, show (((List.range n).map (powS p a), (0 : Int)).1) = (List.range n).map (powS p a) from rfl, show (((List.range n).map (powS p a), (0 : Int)).2) = 0 from rfl, HL.out]
      clear m0 m1
      have hn : n ≤ 65536 := by omega
      have hlt0 : decide ((n : Int) < 0) = false := by simp
      have hlt1 : decide (65536 < (n : Int)) = false := by simp; omega
      go_enter Try.func66, Try.ntmps66
      go_wp2_with (first
        | (go_at_call 52; refine (r01_known _ _).mono ?_; rintro e w' ⟨rfl, rfl⟩)
        | (go_at_call 59; refine (r01_reduce _ _ _ HP.out (by decide)).mono ?_; rintro e w' ⟨rfl, rfl⟩))
      rw [H1.out]
      go_loopw [8, 9, 22] (fun o x q wr => ∃ (k : Nat) (Z : Option Addr) (z : Nat), k ≤ n ∧ q = .int .i64 k ∧ o = .slice Z k z ∧ x = .int .u64 (powS p a k) ∧ Hid (Own wr w'.heap.size 37 1 Z k z (nums .u64 ((List.range k).map (powS p a)))) ∧ Hid (Below w'.heap.size w' wr)) (fun _ _ q _ => n - (intOf q).toNat)
      case atStart => exact ⟨0, none, 0, Nat.zero_le _, rfl, rfl, rfl, Lib.hid (Own.nil _ _ _ _), Lib.hid (Below.refl _ _)⟩
      case round =>
        obtain ⟨k, Z, z, hk, rfl, rfl, rfl, HO2, HB2⟩ := hrel
        by_cases hlt : k < n
        · have HSZ := Lib.hid HB2.out.size
          have HX : Hid (mulS p (powS p a k) a = powS p a (k + 1)) := Lib.hid (powS_succ _ _ _)
          go_wp2_with (at_builtin; refine append_row _ Try.underlying47 info_u64 rfl _ _ rfl w'.heap.size k z 1 1 Z ⟨wr.heap.size, 0, none⟩ ((List.range k).map (powS p a)) [powS p a k] rfl rfl (HO2.out.grown ((Below.refl _ _).alloc (Nat.le_refl _) _)) (row_new wr [.int .u64 (powS p a k)] 37) rfl (by decide) (Nat.le_trans HSZ.out (by simp)) (by omega) (by omega) ?_; intro g cap2 w5 hown hbel hgrow hlt5)
          have HO5 : Hid (Own w5 w'.heap.size 37 1 (some ⟨g, 0, none⟩) (k + 1) cap2 (nums .u64 ((List.range (k + 1)).map (powS p a)))) := Lib.hid (by
            rw [List.range_succ, List.map_append, List.map_singleton]; exact hown)
          have HB5 : Hid (Below w'.heap.size w' w5) := Lib.hid ((HB2.out.alloc HSZ.out _).trans (hbel.mono (Nat.le_refl _)))
          clear hown hbel hgrow hlt5
          go_wp2_with fail
          refine (r01_mul _ _ _ _ HP.out (u64_powS _ _ _) HA.out).mono ?_
          rintro e w6 ⟨rfl, rfl⟩
          rw [HX.out]
          go_wp2
          go_roundw
          case rel => exact ⟨k + 1, some ⟨g, 0, none⟩, cap2, by omega, by go_num, rfl, rfl, HO5, HB5⟩
          case measure => simp [intOf]; omega
        · have hke : k = n := by omega
          subst hke
          go_wp2
          go_ret2
          exact ⟨_, _, rfl, HO2.out, HB2.out⟩
    · have HF : Hid (powersS p a many = ([], 1)) := Lib.hid (by rw [powersS, if_pos hk, if_neg hr])
      rw [HF.out]
      by_cases h0 : many < 0
      · have hlt0 : decide (many < 0) = true := by simpa using h0
        go_enter Try.func66, Try.ntmps66
        go_wp2_with (go_at_call 52; refine (r01_known _ _).mono ?_; rintro e w' ⟨rfl, rfl⟩)
        go_ret2
        exact ⟨none, 0, rfl, Own.nil _ _ _ _, Below.refl _ _⟩
      · have hlt0 : decide (many < 0) = false := by simpa using h0
        have hlt1 : decide (65536 < many) = true := by simp; omega
        go_enter Try.func66, Try.ntmps66
        go_wp2_with (go_at_call 52; refine (r01_known _ _).mono ?_; rintro e w' ⟨rfl, rfl⟩)
        go_ret2
        exact ⟨none, 0, rfl, Own.nil _ _ _ _, Below.refl _ _⟩
  · have HF : Hid (powersS p a many = ([], 2)) := Lib.hid (by rw [powersS, if_neg hk])
    have hk2 : knownS p = false := by simpa using hk
    clear hk
    rw [HF.out]
    go_enter Try.func66, Try.ntmps66
    go_wp2_with (go_at_call 52; refine (r01_known _ _).mono ?_; rintro e w' ⟨rfl, rfl⟩)
    go_ret2
    exact ⟨none, 0, rfl, Own.nil _ _ _ _, Below.refl _ _⟩
/-- What All tells. -/
def undoS (p : Int) (l : List Int) : List Int × Int :=
  if knownS p then (if l.length ≤ 65536 then (if ∀ a ∈ l, redS p a ≠ 0 then (l.map fun a => powS p a (p - 2).toNat, 0) else ([], 9)) else ([], 1)) else ([], 2)
theorem r02_all (p : Int) (A : Option Addr) (c : Nat) (l : List Int) (w : World) (hp : U64 p) (hr : Row w A (nums .u64 l)) (hl : l.length ≤ 9223372036854775807) (hw : ∀ a ∈ l, U64 a) :
    Calls Try.prog 65 #[.int .u64 p, .slice A l.length c] w fun e w' => ∃ B b,
      e = .returned (.tuple #[.slice B (undoS p l).1.length b, .int .i64 (undoS p l).2]) ∧ Own w' w.heap.size 37 1 B (undoS p l).1.length b (nums .u64 (undoS p l).1) ∧ Below w.heap.size w w' := by
  have HP := Lib.hid hp
  have HR := Lib.hid hr
  have HW := Lib.hid hw
  clear hp hr hw
  by_cases hk : knownS p = true
  · by_cases hlen : l.length ≤ 65536
    · have HF1 : Hid ((∀ a ∈ l, redS p a ≠ 0) → undoS p l = (l.map fun a => powS p a (p - 2).toNat, 0)) := Lib.hid fun h => by rw [undoS, if_pos hk, if_pos hlen, if_pos h]
      have HF2 : Hid (¬ (∀ a ∈ l, redS p a ≠ 0) → undoS p l = ([], 9)) := Lib.hid fun h => by rw [undoS, if_pos hk, if_pos hlen, if_neg h]
      have HK := Lib.hid hk
      have f1 : decide (65536 < (l.length : Int)) = false := by simp; omega
      go_enter Try.func65, Try.ntmps65
      go_wp2_with (go_at_call 52; refine (r01_known _ _).mono ?_; rintro e w' ⟨rfl, rfl⟩)
      go_loopw [6, 19] (fun o q wr => ∃ (k : Nat) (Z : Option Addr) (z : Nat), k ≤ l.length ∧ q = .int .i64 k ∧ o = .slice Z k z ∧ Hid (∀ j, (hj : j < l.length) → j < k → redS p l[j] ≠ 0) ∧ Hid (Own wr w'.heap.size 37 1 Z k z (nums .u64 ((l.take k).map fun a => powS p a (p - 2).toNat))) ∧ Hid (Below w'.heap.size w' wr)) (fun _ q _ => l.length - (intOf q).toNat)
      case atStart => exact ⟨0, none, 0, Nat.zero_le _, rfl, rfl, Lib.hid fun _ _ h => absurd h (Nat.not_lt_zero _), Lib.hid (Own.nil _ _ _ _), Lib.hid (Below.refl _ _)⟩
      case round =>
        obtain ⟨k, Z, z, hkl, rfl, rfl, HZ, HO2, HB2⟩ := hrel
        by_cases hlt : k < l.length
        · obtain ⟨x, rfl⟩ := HR.out.some_of (by intro h0; have := nums_length .u64 l; rw [h0] at this; simp at this; omega)
          have hc : wr.cell? (x.add k) = some (.int .u64 l[k]) := (HR.out.below HB2.out).num hlt
          have HU : Hid (U64 l[k]) := Lib.hid (HW.out _ (List.getElem_mem hlt))
          have HSZ := Lib.hid HB2.out.size
          have HT : Hid ((l.take (k + 1)).map (fun a => powS p a (p - 2).toNat) = (l.take k).map (fun a => powS p a (p - 2).toNat) ++ [powS p l[k] (p - 2).toNat]) := Lib.hid (by
            rw [List.take_succ_eq_append_getElem hlt, List.map_append, List.map_singleton])
          have HM := Lib.hid (List.getElem_mem hlt)
          generalize hd : l[k] = d at *
          have HD := Lib.hid hd
          clear hd
          by_cases hz : redS p d = 0
          · have HI : Hid (invS p d = (0, 9)) := Lib.hid (by rw [invS, if_pos HK.out, if_pos hz])
            have HF : Hid (undoS p l = ([], 9)) := Lib.hid (HF2.out fun h => h d HM.out hz)
            clear hz
            go_wp2_with fail
            refine (r02_inv _ _ _ HP.out HU.out).mono ?_
            rw [HI.out]
            rintro e w3 ⟨rfl, ⟨q, rfl⟩⟩
            go_wp2
            go_ret2
            exact ⟨none, 0, by rw [HF.out]; rfl, by rw [HF.out]; exact Own.nil _ _ _ _, below_drewN HB2.out _⟩
          · have HI : Hid (invS p d = (powS p d (p - 2).toNat, 0)) := Lib.hid (by rw [invS, if_pos HK.out, if_neg hz])
            have HZ2 : Hid (∀ j, (hj : j < l.length) → j < k + 1 → redS p l[j] ≠ 0) := Lib.hid fun j hj hjk => by
              by_cases e : j = k
              · subst e; rw [HD.out]; exact hz
              · exact HZ.out j hj (by omega)
            clear hz
            go_wp2_with fail
            refine (r02_inv _ _ _ HP.out HU.out).mono ?_
            rw [HI.out]
            rintro e w3 ⟨rfl, ⟨q, rfl⟩⟩
            generalize powS p d (p - 2).toNat = v at *
            have HOQ : Hid (Own (wr.drewN q) w'.heap.size 37 1 Z k z (nums .u64 ((l.take k).map fun a => powS p a (p - 2).toNat))) := Lib.hid (HO2.out.drewN q)
            have HBQ : Hid (Below w'.heap.size w' (wr.drewN q)) := Lib.hid (below_drewN HB2.out q)
            have HSQ := Lib.hid HBQ.out.size
            generalize wr.drewN q = wq at *
            go_wp2_with (at_builtin; refine append_row _ Try.underlying47 info_u64 rfl _ _ rfl w'.heap.size k z 1 1 Z ⟨wq.heap.size, 0, none⟩ ((l.take k).map fun a => powS p a (p - 2).toNat) [v] rfl rfl (HOQ.out.grown ((Below.refl _ _).alloc (Nat.le_refl _) _)) (row_new wq [.int .u64 v] 37) rfl (by decide) (Nat.le_trans HSQ.out (by simp)) (by omega) (by omega) ?_; intro g cap2 w5 hown hbel hgrow hlt5)
            have HO5 : Hid (Own w5 w'.heap.size 37 1 (some ⟨g, 0, none⟩) (k + 1) cap2 (nums .u64 ((l.take (k + 1)).map fun a => powS p a (p - 2).toNat))) := Lib.hid (by
              rw [HT.out]; exact hown)
            have HB5 : Hid (Below w'.heap.size w' w5) := Lib.hid ((HBQ.out.alloc HSQ.out _).trans (hbel.mono (Nat.le_refl _)))
            clear hown hbel hgrow hlt5
            go_roundw
            case rel => exact ⟨k + 1, some ⟨g, 0, none⟩, cap2, by omega, by go_num, rfl, HZ2, HO5, HB5⟩
            case measure => simp [intOf]; omega
        · have hke : k = l.length := by omega
          subst hke
          have HTK : Hid (l.take l.length = l) := Lib.hid List.take_length
          have HF : Hid (undoS p l = (l.map fun a => powS p a (p - 2).toNat, 0)) := Lib.hid (HF1.out fun a ha => by
            obtain ⟨j, hj, rfl⟩ := List.getElem_of_mem ha
            exact HZ.out j hj hj)
          have HLM : Hid ((l.map fun a => powS p a (p - 2).toNat).length = l.length) := Lib.hid (by simp)
          have HOE : Hid (Own wr w'.heap.size 37 1 Z l.length z (nums .u64 (l.map fun a => powS p a (p - 2).toNat))) := Lib.hid (by
            have h1 := HO2.out
            rw [HTK.out] at h1
            exact h1)
          go_wp2
          go_ret2
          refine ⟨Z, z, ?_, ?_, HB2.out⟩
          · rw [HF.out, show ((l.map fun a => powS p a (p - 2).toNat, (0 : Int)).1.length) = l.length from HLM.out]; rfl
          · rw [HF.out, show ((l.map fun a => powS p a (p - 2).toNat, (0 : Int)).1.length) = l.length from HLM.out]; exact HOE.out
    · have HF : Hid (undoS p l = ([], 1)) := Lib.hid (by rw [undoS, if_pos hk, if_neg hlen])
      have f1 : decide (65536 < (l.length : Int)) = true := by simp; omega
      rw [HF.out]
      go_enter Try.func65, Try.ntmps65
      go_wp2_with (go_at_call 52; refine (r01_known _ _).mono ?_; rintro e w' ⟨rfl, rfl⟩)
      go_ret2
      exact ⟨none, 0, rfl, Own.nil _ _ _ _, Below.refl _ _⟩
  · have HF : Hid (undoS p l = ([], 2)) := Lib.hid (by rw [undoS, if_neg hk])
    have hk2 : knownS p = false := by simpa using hk
    clear hk
    rw [HF.out]
    go_enter Try.func65, Try.ntmps65
    go_wp2_with (go_at_call 52; refine (r01_known _ _).mono ?_; rintro e w' ⟨rfl, rfl⟩)
    go_ret2
    exact ⟨none, 0, rfl, Own.nil _ _ _ _, Below.refl _ _⟩
end Go.Proofs.Ytkofhmiakfmcaaa.P
