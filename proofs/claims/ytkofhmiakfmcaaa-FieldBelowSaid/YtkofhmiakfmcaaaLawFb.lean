/- The law FieldBelow, walked. Conditions: words of 64 bits. -/
import Derived.Test.YtkofhmiakfmcaaaLawRing
import Derived.Laws.Rows
namespace Go.Proofs.Ytkofhmiakfmcaaa.P
open Go.RowKit
set_option linter.unusedVariables false
set_option linter.unusedSimpArgs false
theorem in_one (p n : Int) (x : Addr) (w : World) (hc : w.cell? x = some (.int .u64 n)) :
    Calls Try.prog 53 #[.int .u64 p, .slice (some x) 1 1] w fun e w' => e = .returned (.bool (decide (n < p) && knownS p)) ∧ w' = w := by
  refine (in_calls p (some x) 1 [n] w (.inr ⟨x, rfl, fun i u hi => ?_⟩) (by simp)).mono fun e w' ⟨he, hw⟩ => ⟨by rw [he]; simp [inS], hw⟩
  have hi0 : i = 0 := by
    rcases Nat.eq_zero_or_pos i with h | h
    · exact h
    · simp [nums, show ¬ i = 0 by omega] at hi
  subst hi0
  simp [nums] at hi
  subst hi
  simpa [Addr.add] using hc
theorem fieldBelow_walk (p a b : Int) (w : World) (hp : u64 p) (ha : u64 a) (hb : u64 b) :
    Calls Try.prog 12 #[.int .u64 p, .int .u64 a, .int .u64 b] w fun e w' => e = .returned (.bool true) ∧ Below w.heap.size w w' := by
  have HA := Lib.hid ha
  have HB := Lib.hid hb
  have HP := Lib.hid hp
  have HE : Hid (redS p (redS p a) = redS p a) := Lib.hid (redS_redS p a)
  clear ha hb hp
  go_enter Try.func12, Try.ntmps12
  go_wp2_with (first
    | (go_at_call 42; refine (live01_calls _).mono ?_; rintro e w' ⟨rfl, rfl⟩)
    | (go_at_call 49; refine (add_calls _ _ _ _ HP.out HA.out HB.out).mono ?_; rintro e w' ⟨rfl, rfl⟩)
    | (go_at_call 50; refine (sub_calls _ _ _ _ HP.out HA.out HB.out).mono ?_; rintro e w' ⟨rfl, rfl⟩)
    | (go_at_call 44; refine (mul_calls _ _ _ _ HP.out HA.out HB.out).mono ?_; rintro e w' ⟨rfl, ⟨n, rfl⟩⟩)
    | (go_at_call 51; refine (neg_calls _ _ _ HP.out HA.out).mono ?_; rintro e w' ⟨rfl, rfl⟩)
    | (go_at_call 45; refine (reduce_calls _ _ _ HP.out HA.out).mono ?_; rintro e w' ⟨rfl, rfl⟩))
  have hL : ∀ m ∈ [addS p a b, subS p a b, mulS p a b, negS p a, redS p a], ∃ q, m = redS p q := by
    intro m hm
    simp only [List.mem_cons, List.mem_nil_iff, or_false] at hm
    rcases hm with rfl | rfl | rfl | rfl | rfl <;> exact ⟨_, rfl⟩
  have hrow : Row ((w'.drewN n).alloc (.cells #[.int .u64 (addS p a b), .int .u64 (subS p a b), .int .u64 (mulS p a b), .int .u64 (negS p a), .int .u64 (redS p a)] 37)) (some ⟨w'.heap.size, 0, none⟩) (nums .u64 [addS p a b, subS p a b, mulS p a b, negS p a, redS p a]) := row_new (w'.drewN n) (nums .u64 [addS p a b, subS p a b, mulS p a b, negS p a, redS p a]) 37
  have hbel : Below w'.heap.size w' ((w'.drewN n).alloc (.cells #[.int .u64 (addS p a b), .int .u64 (subS p a b), .int .u64 (mulS p a b), .int .u64 (negS p a), .int .u64 (redS p a)] 37)) := (below_drewN (Below.refl _ _) n).alloc (Nat.le_refl _) _
  generalize (w'.drewN n).alloc (.cells #[.int .u64 (addS p a b), .int .u64 (subS p a b), .int .u64 (mulS p a b), .int .u64 (negS p a), .int .u64 (redS p a)] 37) = W at *
  generalize hLL : [addS p a b, subS p a b, mulS p a b, negS p a, redS p a] = L at *
  generalize hX : ({ block := w'.heap.size, off := 0 } : Addr) = X at *
  clear hX
  have hlen : L.length = 5 := by rw [← hLL]; rfl
  have HLEN := Lib.hid hlen
  have HL := Lib.hid hL
  have HR := Lib.hid hrow
  have HBEL := Lib.hid hbel
  clear hlen hLL hL hrow hbel
  go_loopw [8, 31] (fun _ i wr => ∃ k : Nat, k ≤ 5 ∧ i = .int .i64 k ∧ Hid (Row wr (some X) (nums .u64 L)) ∧ Hid (Below w'.heap.size w' wr)) (fun _ i _ => 5 - (intOf i).toNat)
  case atStart => exact ⟨0, by omega, rfl, HR, HBEL⟩
  case round =>
    obtain ⟨k, hk, rfl, HR2, HB2⟩ := hrel
    by_cases hlt : k < 5
    · have hk5 : k < L.length := by rw [HLEN.out]; exact hlt
      have hc := HR2.out.num hk5
      obtain ⟨q, hq⟩ := HL.out _ (List.getElem_mem hk5)
      rw [hq] at hc
      have hq2 := Lib.hid hq
      clear hq
      have hlt2 : knownS p = true → decide (redS p q < p) = true := fun hk => by simpa using redS_hi q hk
      have hz : knownS p = false → (redS p q != 0) = false := fun hk => by rw [redS_not (by simp [hk])]; rfl
      cases hk : knownS p with
      | true =>
        have hlt3 := hlt2 hk
        clear hlt2 hz
        go_wp2_with (first
          | (go_at_call 43; refine (known_calls _ _).mono ?_; rintro e w' ⟨rfl, rfl⟩)
          | (go_at_call 53; refine (in_one _ _ _ _ (cell_new1 _ _ _)).mono ?_; rintro e w' ⟨rfl, rfl⟩))
        go_roundw
        case rel => exact ⟨k + 1, by omega, by go_num, HR2.out.below ((Below.refl _ _).alloc (Nat.le_refl _) _), HB2.out.alloc HB2.out.size _⟩
        case measure => simp [intOf]; omega
      | false =>
        have hz2 := hz hk
        clear hlt2 hz
        go_wp2_with (first
          | (go_at_call 43; refine (known_calls _ _).mono ?_; rintro e w' ⟨rfl, rfl⟩))
        go_roundw
        case rel => exact ⟨k + 1, by omega, by go_num, HR2, HB2⟩
        case measure => simp [intOf]; omega
    · have : k = 5 := by omega
      subst this
      have hE : (redS p (redS p a) == redS p a) = true := by rw [HE.out]; simp
      go_wp2_with (go_at_call 45; refine (reduce_calls _ _ _ HP.out (by first | exact HA.out | exact u64_redS _ _)).mono ?_; rintro e w' ⟨rfl, rfl⟩)
      go_ret
      exact ⟨rfl, HB2.out⟩
end Go.Proofs.Ytkofhmiakfmcaaa.P
