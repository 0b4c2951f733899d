/- The law PowerAll, walked. Conditions: words of their kinds; the slice reads as a list. -/
import Derived.Test.YtkofhmiakfmcaaaAll0
import Derived.Test.YtkofhmiakfmcaaaEvalN
import Derived.Test.YtkofhmiakfmcaaaSameU
namespace Go.Proofs.Ytkofhmiakfmcaaa.P
open Go.RowKit
set_option linter.unusedVariables false
set_option linter.unusedSimpArgs false
/-- All, told with the length as a number. -/
theorem all_n (p : Int) (A : Option Addr) (n c : Nat) (l : List Int) (w : World) (hn : l.length = n) (hp : U64 p) (hr : Row w A (nums .u64 l)) (hl : n ≤ 9223372036854775807) (hw : ∀ a ∈ l, U64 a) :
    Calls Try.prog 63 #[.int .u64 p, .slice A n c] w fun e w' => ∃ B b,
      e = .returned (.tuple #[.slice B (undoS p l).1.length b, .int .i64 (undoS p l).2]) ∧ Own w' w.heap.size 37 1 B (undoS p l).1.length b (nums .u64 (undoS p l).1) ∧ Below w.heap.size w w' := by
  subst hn; exact all_calls p A c l w hp hr hl hw
theorem all_no (p : Int) (A : Option Addr) (n c : Nat) (l : List Int) (w : World) (t : Int) (h : undoS p l = ([], t)) (hn : l.length = n) (hp : U64 p) (hr : Row w A (nums .u64 l)) (hl : n ≤ 9223372036854775807) (hw : ∀ a ∈ l, U64 a) :
    Calls Try.prog 63 #[.int .u64 p, .slice A n c] w fun e w' => ∃ B b, e = .returned (.tuple #[.slice B 0 b, .int .i64 t]) ∧ Below w.heap.size w w' := by
  refine (all_n p A n c l w hn hp hr hl hw).mono ?_
  rw [h]
  rintro e w' ⟨B, b, h1, _, h3⟩
  exact ⟨B, b, h1, h3⟩
theorem all_yes (p : Int) (A : Option Addr) (n c : Nat) (l m : List Int) (w : World) (h : undoS p l = (m, 0)) (hm : m.length = n) (hn : l.length = n) (hp : U64 p) (hr : Row w A (nums .u64 l)) (hl : n ≤ 9223372036854775807) (hw : ∀ a ∈ l, U64 a) :
    Calls Try.prog 63 #[.int .u64 p, .slice A n c] w fun e w' => ∃ B b, e = .returned (.tuple #[.slice B n b, .int .i64 0]) ∧ Row w' B (nums .u64 m) ∧ Below w.heap.size w w' := by
  refine (all_n p A n c l w hn hp hr hl hw).mono ?_
  rw [h]
  rintro e w' ⟨B, b, h1, h2, h3⟩
  exact ⟨B, b, by rw [h1, hm], h2.row, h3⟩
set_option maxRecDepth 100000 in
set_option maxHeartbeats 2000000 in
theorem powerAll_walk (p : Int) (A : Option Addr) (ca : Nat) (l : List Int) (w : World) (hp : U64 p)
    (hr : Row w A (nums .u64 l)) (hy : l.length * 8 ≤ 140737488351232) (hw : ∀ d ∈ l, (Lit.int .u64 d).wf = true) :
    Calls Try.prog 16 #[.int .u64 p, .slice A l.length ca] w fun e w' => e = .returned (.bool true) ∧ Below w.heap.size w w' := by
  have HP := Lib.hid hp
  have HR := Lib.hid hr
  have HW : Hid (∀ d ∈ l, U64 d) := Lib.hid fun d hd => u64_wf (hw d hd)
  clear hp hr hw
  generalize hn : l.length = n at *
  have HN := Lib.hid hn
  have HL : Hid (n ≤ 9223372036854775807) := Lib.hid (by omega)
  clear hy
  go_enter Try.func16, Try.ntmps16
  go_wp2_with fail
  refine (live02_calls _).mono ?_
  rintro e w1 ⟨rfl, ⟨q0, rfl⟩⟩
  have HB1 : Hid (Below w.heap.size w (w.drewN q0)) := Lib.hid (below_drewN (Below.refl _ _) _)
  have HR1 := Lib.hid (HR.out.drewN q0)
  generalize w.drewN q0 = w1 at *
  by_cases g : 40 < n
  · have f0 : decide (40 < (n : Int)) = true := by simp; omega
    clear g hn
    go_wp2
    go_ret
    exact ⟨rfl, HB1.out⟩
  have f0 : decide (40 < (n : Int)) = false := by simp; omega
  have g6 : n ≤ 65536 := by omega
  by_cases hk : knownS p = true
  case neg =>
    have HF : Hid (undoS p l = ([], 2)) := Lib.hid (by rw [undoS, if_neg hk])
    have HI : Hid (∀ a, invS p a = (0, 2)) := Lib.hid fun a => by rw [invS, if_neg hk]
    have hk2 : knownS p = false := by simpa using hk
    clear hk hn g
    go_wp2_with fail
    refine (all_no p A n ca l _ 2 HF.out HN.out HP.out HR1.out HL.out HW.out).mono ?_
    rintro e w2 ⟨B, b, rfl, hb2⟩
    have HB2 : Hid (Below w.heap.size w w2) := Lib.hid (blE HB1.out hb2)
    have HR2 := Lib.hid (HR1.out.below hb2)
    clear hb2
    go_wp2
    go_loopw [7, 25] (fun x q wr => ∃ k : Nat, k ≤ n ∧ q = .int .i64 k ∧ x = .bool false ∧ Drawn0 w2 wr) (fun _ q _ => n - (intOf q).toNat)
    case atStart => exact ⟨0, Nat.zero_le _, rfl, rfl, ⟨0, rfl⟩⟩
    case round =>
      obtain ⟨k, hkn, rfl, rfl, ⟨q3, rfl⟩⟩ := hrel
      by_cases hlt : k < n
      · obtain ⟨x, rfl⟩ := HR.out.some_of (by intro h0; have h1 := nums_length .u64 l; rw [h0, HN.out] at h1; simp at h1; omega)
        have hlts : k < l.length := by have := HN.out; omega
        have hc := HR2.out.num hlts
        have HU : Hid (U64 l[k]) := Lib.hid (HW.out _ (List.getElem_mem hlts))
        generalize l[k] = d at *
        go_wp2_with fail
        refine (inv_calls _ _ _ HP.out HU.out).mono ?_
        rw [HI.out]
        rintro e w4 ⟨rfl, ⟨q4, rfl⟩⟩
        go_wp2
        go_roundw
        case rel => exact ⟨k + 1, by omega, by go_num, rfl, ⟨_, rfl⟩⟩
        case measure => simp [intOf]; omega
      · go_wp2_with (go_at_call 43; refine (known_calls _ _).mono ?_; rintro e w' ⟨rfl, rfl⟩)
        go_ret
        exact ⟨by first | rfl | (simp; done), below_drewN HB2.out _⟩
  by_cases hz : ∀ a ∈ l, redS p a ≠ 0
  case pos =>
    have HF : Hid (undoS p l = (l.map fun a => powS p a (p - 2).toNat, 0)) := Lib.hid (by rw [undoS, if_pos hk, if_pos (by omega), if_pos hz])
    have HI : Hid (∀ a ∈ l, invS p a = (powS p a (p - 2).toNat, 0)) := Lib.hid fun a ha => by rw [invS, if_pos hk, if_neg (hz a ha)]
    clear hz hn g
    go_wp2_with fail
    refine (all_yes p A n ca l _ _ HF.out (by rw [List.length_map]; exact HN.out) HN.out HP.out HR1.out HL.out HW.out).mono ?_
    rintro e w2 ⟨B, b, rfl, ho, hb2⟩
    have HB2 : Hid (Below w.heap.size w w2) := Lib.hid (blE HB1.out hb2)
    have HR2 := Lib.hid (HR1.out.below hb2)
    have HO2 := Lib.hid ho
    clear hb2 ho
    go_wp2
    go_loopw [7, 25] (fun x q wr => ∃ k : Nat, k ≤ n ∧ q = .int .i64 k ∧ x = .bool false ∧ Drawn0 w2 wr) (fun _ q _ => n - (intOf q).toNat)
    case atStart => exact ⟨0, Nat.zero_le _, rfl, rfl, ⟨0, rfl⟩⟩
    case round =>
      obtain ⟨k, hkn, rfl, rfl, ⟨q3, rfl⟩⟩ := hrel
      by_cases hlt : k < n
      · obtain ⟨x, rfl⟩ := HR.out.some_of (by intro h0; have h1 := nums_length .u64 l; rw [h0, HN.out] at h1; simp at h1; omega)
        obtain ⟨y, rfl⟩ := HO2.out.some_of (by intro h0; have h1 := nums_length .u64 (l.map fun a => powS p a (p - 2).toNat); rw [h0, List.length_map, HN.out] at h1; simp at h1; omega)
        have hlts : k < l.length := by have := HN.out; omega
        have hc := HR2.out.num hlts
        have hc2 : w2.cell? (y.add k) = some (.int .u64 (powS p l[k] (p - 2).toNat)) := by
          have h1 := HO2.out.num (i := k) (by rw [List.length_map]; exact hlts)
          rw [List.getElem_map] at h1; exact h1
        have HU : Hid (U64 l[k]) := Lib.hid (HW.out _ (List.getElem_mem hlts))
        have HIK := Lib.hid (HI.out _ (List.getElem_mem hlts))
        have hge : decide ((n : Int) ≤ (k : Int)) = false := by simp; omega
        generalize l[k] = d at *
        generalize powS p d (p - 2).toNat = v at *
        go_wp2_with fail
        refine (inv_calls _ _ _ HP.out HU.out).mono ?_
        rw [HIK.out]
        rintro e w4 ⟨rfl, ⟨q4, rfl⟩⟩
        go_wp2
        go_roundw
        case rel => exact ⟨k + 1, by omega, by go_num, rfl, ⟨_, rfl⟩⟩
        case measure => simp [intOf]; omega
      · go_wp2_with (go_at_call 43; refine (known_calls _ _).mono ?_; rintro e w' ⟨rfl, rfl⟩)
        go_ret
        exact ⟨by first | rfl | (simp; done), below_drewN HB2.out _⟩
  have HF : Hid (undoS p l = ([], 9)) := Lib.hid (by rw [undoS, if_pos hk, if_pos (by omega), if_neg hz])
  have HI : Hid (∀ a, redS p a ≠ 0 → invS p a = (powS p a (p - 2).toNat, 0)) := Lib.hid fun a ha => by rw [invS, if_pos hk, if_neg ha]
  have HI0 : Hid (∀ a, redS p a = 0 → invS p a = (0, 9)) := Lib.hid fun a ha => by rw [invS, if_pos hk, if_pos ha]
  have HZ : Hid (∃ j, j < n ∧ redS p (l.getD j 0) = 0) := Lib.hid (by
    rw [Classical.not_forall] at hz
    obtain ⟨a, h⟩ := hz
    rw [Classical.not_imp] at h
    obtain ⟨ha, hz⟩ := h
    rw [Classical.not_not] at hz
    obtain ⟨j, hj, rfl⟩ := List.getElem_of_mem ha
    refine ⟨j, by omega, ?_⟩
    rw [List.getD_eq_getElem?_getD, List.getElem?_eq_getElem hj]; exact hz)
  clear hz hn g
  go_wp2_with fail
  refine (all_no p A n ca l _ 9 HF.out HN.out HP.out HR1.out HL.out HW.out).mono ?_
  rintro e w2 ⟨B, b, rfl, hb2⟩
  have HB2 : Hid (Below w.heap.size w w2) := Lib.hid (blE HB1.out hb2)
  have HR2 := Lib.hid (HR1.out.below hb2)
  clear hb2
  go_wp2
  go_loopw [7, 25] (fun x q wr => ∃ (k : Nat) (t : Bool), k ≤ n ∧ q = .int .i64 k ∧ x = .bool t ∧ Hid (t = true ↔ ∃ j, j < k ∧ redS p (l.getD j 0) = 0) ∧ Drawn0 w2 wr) (fun _ q _ => n - (intOf q).toNat)
  case atStart => exact ⟨0, false, Nat.zero_le _, rfl, rfl, Lib.hid (by simp), ⟨0, rfl⟩⟩
  case round =>
    obtain ⟨k, t, hkn, rfl, rfl, HT, ⟨q3, rfl⟩⟩ := hrel
    by_cases hlt : k < n
    · obtain ⟨x, rfl⟩ := HR.out.some_of (by intro h0; have h1 := nums_length .u64 l; rw [h0, HN.out] at h1; simp at h1; omega)
      have hlts : k < l.length := by have := HN.out; omega
      have hc := HR2.out.num hlts
      have HU : Hid (U64 l[k]) := Lib.hid (HW.out _ (List.getElem_mem hlts))
      have HG : Hid (l.getD k 0 = l[k]) := Lib.hid (by rw [List.getD_eq_getElem?_getD, List.getElem?_eq_getElem hlts]; rfl)
      generalize l[k] = d at *
      by_cases hd : redS p d = 0
      · have HIK := Lib.hid (HI0.out _ hd)
        have HTN : Hid (∃ j, j < k + 1 ∧ redS p (l.getD j 0) = 0) := Lib.hid ⟨k, by omega, by rw [HG.out]; exact hd⟩
        clear hd
        cases t
        all_goals
          go_wp2_with fail
          refine (inv_calls _ _ _ HP.out HU.out).mono ?_
          rw [HIK.out]
          rintro e w4 ⟨rfl, ⟨q4, rfl⟩⟩
          go_wp2
          go_roundw
          case rel => exact ⟨k + 1, true, by omega, by go_num, rfl, Lib.hid ⟨fun _ => HTN.out, fun _ => rfl⟩, ⟨_, rfl⟩⟩
          case measure => simp [intOf]; omega
      · have HIK := Lib.hid (HI.out _ hd)
        have HTN : Hid ((∃ j, j < k + 1 ∧ redS p (l.getD j 0) = 0) ↔ ∃ j, j < k ∧ redS p (l.getD j 0) = 0) := Lib.hid (by
          constructor
          · rintro ⟨j, hj, h⟩
            by_cases e : j = k
            · subst e; rw [HG.out] at h; exact absurd h hd
            · exact ⟨j, by omega, h⟩
          · rintro ⟨j, hj, h⟩
            exact ⟨j, by omega, h⟩)
        clear hd
        generalize powS p d (p - 2).toNat = v at *
        cases t
        all_goals
          go_wp2_with fail
          refine (inv_calls _ _ _ HP.out HU.out).mono ?_
          rw [HIK.out]
          rintro e w4 ⟨rfl, ⟨q4, rfl⟩⟩
          go_wp2
          go_roundw
          case rel => exact ⟨k + 1, _, by omega, by go_num, rfl, Lib.hid (by first | exact HT.out.trans HTN.out.symm | (have h := HT.out.trans HTN.out.symm; exact ⟨fun _ => h.1 trivial, fun _ => rfl⟩)), ⟨_, rfl⟩⟩
          case measure => simp [intOf]; omega
    · have hke : k = n := by omega
      subst hke
      have ht : t = true := HT.out.2 HZ.out
      subst ht
      go_wp2_with (go_at_call 43; refine (known_calls _ _).mono ?_; rintro e w' ⟨rfl, rfl⟩)
      go_ret
      exact ⟨by first | rfl | (simp; done), below_drewN HB2.out _⟩
end Go.Proofs.Ytkofhmiakfmcaaa.P
