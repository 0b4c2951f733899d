/- The contract of package power's Powers. Conditions: words of 64 bits. -/
import Derived.Test.YtkofhmiakfmcaaaPow1
import Derived.Test.YtkofhmiakfmcaaaMem2
namespace Go.Proofs.Ytkofhmiakfmcaaa.P
open Go.RowKit
set_option linter.unusedVariables false
set_option linter.unusedSimpArgs false
/-- A list that is being filled. -/
def fillL (f : Nat → Int) (n k : Nat) : List Int := (List.range n).map fun i => if i < k then f i else 0
theorem fillL_length (f : Nat → Int) (n k : Nat) : (fillL f n k).length = n := by simp [fillL]
theorem fillL_zero (f : Nat → Int) (n : Nat) : fillL f n 0 = List.replicate n 0 := by
  apply List.ext_getElem <;> simp [fillL]
theorem fillL_set (f : Nat → Int) (n k : Nat) (h : k < n) : (fillL f n k).set k (f k) = fillL f n (k + 1) := by
  apply List.ext_getElem
  · simp [fillL]
  · intro i h1 h2
    rw [List.getElem_set]
    simp only [fillL, List.getElem_map, List.getElem_range]
    split
    · rename_i e; subst e; rw [if_pos (by omega)]
    · rename_i e
      by_cases hik : i < k
      · rw [if_pos hik, if_pos (by omega)]
      · rw [if_neg hik, if_neg (by omega)]
theorem fillL_all (f : Nat → Int) (n : Nat) : fillL f n n = (List.range n).map f := by
  apply List.ext_getElem
  · simp [fillL]
  · intro i h1 h2
    simp only [fillL, List.getElem_map, List.getElem_range]
    rw [if_pos (by simpa [fillL] using h1)]
/-- What Powers tells: the list, and the error's number. -/
def powersS (p a many : Int) : List Int × Int :=
  if knownS p then (if 0 ≤ many ∧ many ≤ 65536 then ((List.range many.toNat).map (powS p a), 0) else ([], 1)) else ([], 2)
theorem info_u64 : (Try.prog.info? 37).map (fun i => (i.zero, i.size, i.bytes)) = some (some (.int .u64 0), 1, 8) := by kernel_rfl
theorem info_int : (Try.prog.info? 3).map (fun i => (i.zero, i.size, i.bytes)) = some (some (.int .i64 0), 1, 8) := by kernel_rfl
theorem make_u64 (n : Nat) (hn : n ≤ 35184372088832) (w : World) : (Instr.makeSlice 47 (.int .i64 (n : Int)) (.int .i64 (n : Int))).run Try.prog w =
    .ok (.slice (some ⟨w.heap.size, 0, none⟩) n n) (w.alloc (.cells (madeCells #[.int .u64 0] n) 37)) := by
  obtain ⟨i0, hi, hz⟩ := Option.map_eq_some_iff.1 info_u64
  simp only [Prod.mk.injEq] at hz
  obtain ⟨h0, h1, h2⟩ := hz
  rw [run_make w 47 37 i0 (.int .u64 0) Try.underlying47 hi h0 .i64 .i64 n n (by omega) (by omega) (by rw [h2]; omega) (by omega), h1]
  simp [Value.cells]
theorem powers_calls (p a many : Int) (w : World) (hp : U64 p) (ha : U64 a) (hm : i64 many) :
    Calls Try.prog 60 #[.int .u64 p, .int .u64 a, .int .i64 many] w fun e w' => ∃ A c,
      e = .returned (.tuple #[.slice A (powersS p a many).1.length c, .int .i64 (powersS p a many).2]) ∧ Own w' w.heap.size 37 1 A (powersS p a many).1.length c (nums .u64 (powersS p a many).1) ∧ Below w.heap.size w w' := by
  have HA := Lib.hid ha
  have HP := Lib.hid hp
  clear ha hp
  obtain ⟨m0, m1⟩ := hm
  by_cases hk : knownS p = true
  · by_cases hr : 0 ≤ many ∧ many ≤ 65536
    · obtain ⟨r0, r1⟩ := hr
      obtain ⟨n, rfl⟩ := Int.eq_ofNat_of_zero_le r0
      have HF : Hid (powersS p a n = ((List.range n).map (powS p a), 0)) := Lib.hid (by rw [powersS, if_pos hk, if_pos ⟨r0, r1⟩, Int.toNat_natCast])
      have HL : Hid (((List.range n).map (powS p a)).length = n) := Lib.hid (by simp)
      have H1 : Hid (powS p a 0 = 1) := Lib.hid (by rw [powS_zero, one_red hk])
      have hmk := make_u64 n (by omega)
      rw [HF.out, show (((List.range n).map (powS p a), (0 : Int)).1) = (List.range n).map (powS p a) from rfl, show (((List.range n).map (powS p a), (0 : Int)).2) = 0 from rfl, HL.out]
      clear m0 m1
      have hlt0 : decide ((n : Int) < 0) = false := by simp
      have hlt1 : decide (65536 < (n : Int)) = false := by simp; omega
      go_enter Try.func60, Try.ntmps60
      go_wp2_with (go_at_call 43; refine (known_calls _ _).mono ?_; rintro e w' ⟨rfl, rfl⟩)
      have hown := own_made w' w'.heap.size 37 (.int .u64 0) n (Nat.le_refl _) (by omega)
      have hbel : Below w'.heap.size w' (w'.alloc (.cells (madeCells #[.int .u64 0] n) 37)) := (Below.refl _ _).alloc (Nat.le_refl _) _
      rw [nums_replicate, ← fillL_zero (powS p a)] at hown
      generalize (w'.alloc (.cells (madeCells #[.int .u64 0] n) 37)) = W at *
      have HO := Lib.hid hown
      have HB := Lib.hid hbel
      clear hown hbel hmk
      go_loopw [9, 10, 26] (fun x _ i wr => ∃ k : Nat, k ≤ n ∧ i = .int .i64 k ∧ x = .int .u64 (powS p a k) ∧ Hid (Own wr w'.heap.size 37 1 (some ⟨w'.heap.size, 0, none⟩) n n (nums .u64 (fillL (powS p a) n k))) ∧ Hid (Below w'.heap.size w' wr)) (fun _ _ i _ => n - (intOf i).toNat)
      case atStart => exact ⟨0, Nat.zero_le _, rfl, by rw [H1.out], HO, HB⟩
      case round =>
        obtain ⟨k, hkn, rfl, rfl, HO2, HB2⟩ := hrel
        by_cases hlt : k < n
        · have hc : wr.cell? ⟨w'.heap.size, k, none⟩ = some (.int .u64 ((fillL (powS p a) n k)[k]'(by rw [fillL_length]; exact hlt))) := by
            rw [HO2.out.cellAt k hlt]; exact nums_get .u64 _ k (by rw [fillL_length]; exact hlt)
          have hf : wr.frozen? ⟨w'.heap.size, k, none⟩ = false := HO2.out.frozenAt k
          go_wp2_with (go_at_call 44; refine (mul_calls _ _ _ _ HP.out (u64_powS _ _ _) HA.out).mono ?_; rintro e w2 ⟨rfl, ⟨n2, rfl⟩⟩)
          go_roundw
          case rel => exact ⟨k + 1, by omega, by go_num, by rw [powS_succ], by
            have h1 := HO2.out.stored k (.int .u64 (powS p a k))
            rw [nums_set, fillL_set _ _ _ hlt] at h1
            exact h1.drewN n2, below_drewN (HB2.out.setCell (Nat.le_refl _) _) n2⟩
          case measure => simp [intOf]; omega
        · have hkn2 : k = n := by omega
          subst hkn2
          have HZ : Hid (fillL (powS p a) k k = (List.range k).map (powS p a)) := Lib.hid (fillL_all _ _)
          go_wp2
          go_ret2
          exact ⟨_, _, rfl, by rw [← HZ.out]; exact HO2.out, HB2.out⟩
    · have HF : Hid (powersS p a many = ([], 1)) := Lib.hid (by rw [powersS, if_pos hk, if_neg hr])
      rw [HF.out]
      by_cases h0 : many < 0
      · have hlt0 : decide (many < 0) = true := by simpa using h0
        go_enter Try.func60, Try.ntmps60
        go_wp2_with (go_at_call 43; refine (known_calls _ _).mono ?_; rintro e w' ⟨rfl, rfl⟩)
        go_ret2
        exact ⟨none, 0, rfl, Own.nil _ _ _ _, Below.refl _ _⟩
      · have hlt0 : decide (many < 0) = false := by simpa using h0
        have hlt1 : decide (65536 < many) = true := by simp; omega
        go_enter Try.func60, Try.ntmps60
        go_wp2_with (go_at_call 43; refine (known_calls _ _).mono ?_; rintro e w' ⟨rfl, rfl⟩)
        go_ret2
        exact ⟨none, 0, rfl, Own.nil _ _ _ _, Below.refl _ _⟩
  · have HF : Hid (powersS p a many = ([], 2)) := Lib.hid (by rw [powersS, if_neg hk])
    have hk2 : knownS p = false := by simpa using hk
    clear hk
    rw [HF.out]
    go_enter Try.func60, Try.ntmps60
    go_wp2_with (go_at_call 43; refine (known_calls _ _).mono ?_; rintro e w' ⟨rfl, rfl⟩)
    go_ret2
    exact ⟨none, 0, rfl, Own.nil _ _ _ _, Below.refl _ _⟩
end Go.Proofs.Ytkofhmiakfmcaaa.P
