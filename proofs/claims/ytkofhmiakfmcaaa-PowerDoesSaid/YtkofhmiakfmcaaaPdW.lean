/- The law PowerDoes, walked. Conditions: words of their kinds; the slice reads as a list. -/
import Derived.Test.YtkofhmiakfmcaaaPaW
import Derived.Test.YtkofhmiakfmcaaaFlyTwo
import Derived.Test.YtkofhmiakfmcaaaApp2
import Derived.Test.YtkofhmiakfmcaaaRef02
namespace Go.Proofs.Ytkofhmiakfmcaaa.P
open Go.RowKit
set_option linter.unusedVariables false
set_option linter.unusedSimpArgs false
theorem r02all_n (p : Int) (A : Option Addr) (n c : Nat) (l : List Int) (w : World) (hn : l.length = n) (hp : U64 p) (hr : Row w A (nums .u64 l)) (hl : n ≤ 9223372036854775807) (hw : ∀ a ∈ l, U64 a) :
    Calls Try.prog 65 #[.int .u64 p, .slice A n c] w fun e w' => ∃ B b,
      e = .returned (.tuple #[.slice B (undoS p l).1.length b, .int .i64 (undoS p l).2]) ∧ Own w' w.heap.size 37 1 B (undoS p l).1.length b (nums .u64 (undoS p l).1) ∧ Below w.heap.size w w' := by
  subst hn; exact r02_all p A c l w hp hr hl hw
theorem r02pow_i (p a n : Int) (w : World) (hp : U64 p) (ha : U64 a) (hn : U64 n) :
    Calls Try.prog 67 #[.int .u64 p, .int .u64 a, .int .u64 n] w fun e w' => e = .returned (.int .u64 (powS p a n.toNat)) ∧ Drawn0 w w' := by
  obtain ⟨k, rfl⟩ := Int.eq_ofNat_of_zero_le hn.1
  exact r02_pow p a hp ha k w (by have := hn.2; omega)
set_option maxRecDepth 100000 in
set_option maxHeartbeats 2000000 in
theorem powerDoes_walk (p a t : Int) (A : Option Addr) (ca : Nat) (l : List Int) (i : Int) (w : World) (hp : U64 p) (ha : U64 a) (ht : U64 t)
    (hr : Row w A (nums .u64 l)) (hy : l.length * 8 ≤ 140737488351232) (hw : ∀ d ∈ l, (Lit.int .u64 d).wf = true) (hi : i64 i) :
    Calls Try.prog 17 #[.int .u64 p, .int .u64 a, .int .u64 t, .slice A l.length ca, .int .i64 i] w fun e w' => e = .returned (.bool true) ∧ Below w.heap.size w w' := by
  have HP := Lib.hid hp
  have HA := Lib.hid ha
  have HT := Lib.hid ht
  have HR := Lib.hid hr
  have HI := Lib.hid hi
  have HW : Hid (∀ d ∈ l, U64 d) := Lib.hid fun d hd => u64_wf (hw d hd)
  clear hp hr hw ha ht
  generalize hn : l.length = n at *
  have HN := Lib.hid hn
  have HL : Hid (n ≤ 9223372036854775807) := Lib.hid (by omega)
  have HY : Hid (n * 8 ≤ 140737488351232) := Lib.hid hy
  clear hn
  go_enter Try.func17, Try.ntmps17
  go_wp2_with fail
  refine (live02_calls _).mono ?_
  rintro e w1 ⟨rfl, ⟨q0, rfl⟩⟩
  have HB1 : Hid (Below w.heap.size w (w.drewN q0)) := Lib.hid (below_drewN (Below.refl _ _) _)
  have HR1 := Lib.hid (HR.out.drewN q0)
  generalize w.drewN q0 = w1 at *
  by_cases c1 : 40 < n ∧ n ≤ 65536
  · have a1 : decide (40 < (n : Int)) = true := by simp; omega
    have a2 : decide ((n : Int) ≤ 65536) = true := by simp; omega
    clear c1
    go_wp2
    go_ret
    exact ⟨rfl, HB1.out⟩
  by_cases c2 : 65540 < n
  · have a1 : decide (40 < (n : Int)) = true := by simp; omega
    have a2 : decide ((n : Int) ≤ 65536) = false := by simp; omega
    have a3 : decide (65540 < (n : Int)) = true := by simp; omega
    clear c1 c2
    go_wp2
    go_ret
    exact ⟨rfl, HB1.out⟩
  have a3 : decide (65540 < (n : Int)) = false := by simp; omega
  have hnn : ∃ b1 b2 : Bool, decide (40 < (n : Int)) = b1 ∧ decide ((n : Int) ≤ 65536) = b2 ∧ ((b1 = false ∧ b2 = true) ∨ (b1 = true ∧ b2 = false)) := by
    by_cases h : 40 < n
    · exact ⟨true, false, by simp; omega, by simp; omega, .inr ⟨rfl, rfl⟩⟩
    · exact ⟨false, true, by simp; omega, by simp; omega, .inl ⟨rfl, rfl⟩⟩
  by_cases c4 : 300 < i ∧ i ≤ 65536
  · have a5 : decide (300 < i) = true := by simp; omega
    have a6 : decide (i ≤ 65536) = true := by simp; omega
    obtain ⟨b1, b2, a1, a2, ⟨rfl, rfl⟩ | ⟨rfl, rfl⟩⟩ := hnn
    all_goals
      clear c1 c2 c4
      go_wp2
      go_ret
      exact ⟨rfl, HB1.out⟩
  have hii : ∃ b1 b2 : Bool, decide (300 < i) = b1 ∧ decide (i ≤ 65536) = b2 ∧ ((b1 = false ∧ b2 = true) ∨ (b1 = true ∧ b2 = false)) := by
    by_cases h : 300 < i
    · exact ⟨true, false, by simp; omega, by simp; omega, .inr ⟨rfl, rfl⟩⟩
    · exact ⟨false, true, by simp; omega, by simp; omega, .inl ⟨rfl, rfl⟩⟩
  obtain ⟨b1, b2, a1, a2, ⟨rfl, rfl⟩ | ⟨rfl, rfl⟩⟩ := hnn
  all_goals
    obtain ⟨b3, b4, a5, a6, ⟨rfl, rfl⟩ | ⟨rfl, rfl⟩⟩ := hii
  all_goals
    clear c1 c2 c4 hi
    go_wp2_with (at_builtin; refine append_any _ Try.underlying47 info_u64 rfl _ _ rfl w1.heap.size 0 0 n ca none A [] l rfl rfl (Own.nil _ _ _ _) HR1.out HN.out (Nat.le_refl _) (by omega) (by omega) ?_; intro V cv w2 hown hbel hgrow)
    have HO2 : Hid (Row w2 V (nums .u64 l)) := Lib.hid (by
      have h1 := hown.row
      simpa using h1)
    have HB2 : Hid (Below w.heap.size w w2) := Lib.hid (HB1.out.trans (hbel.mono HB1.out.size))
    have HR2 := Lib.hid (HR1.out.below hbel)
    clear hown hbel hgrow HB1 HR1 hy
    refine (inv_calls p a _ HP.out HA.out).mono ?_
    rintro e w3 ⟨rfl, ⟨q1, rfl⟩⟩
    go_wp2_with fail
    refine (r02_inv p a _ HP.out HA.out).mono ?_
    rintro e w4 ⟨rfl, ⟨q2, rfl⟩⟩
    have HB4 : Hid (Below w.heap.size w (w2.drewN (q1 + q2))) := Lib.hid (below_drewN HB2.out _)
    have HR4 := Lib.hid (HR2.out.drewN (q1 + q2))
    have HO4 := Lib.hid (HO2.out.drewN (q1 + q2))
    clear HB2 HR2 HO2
    go_wp2_with fail
    generalize hw4 : w2.drewN (q1 + q2) = w4 at *
    clear hw4
    refine (all_n p A n ca l _ HN.out HP.out HR4.out HL.out HW.out).mono ?_
    rintro e w5 ⟨C, cc, rfl, ho5, hb5⟩
    have HB5 : Hid (Below w4.heap.size w4 w5) := Lib.hid hb5
    have HC5 := Lib.hid ho5
    have HUL : Hid ((undoS p l).1.length ≤ 9223372036854775807) := Lib.hid (by have := ho5.cap; omega)
    clear ho5 hb5
    go_wp2_with fail
    refine (r02all_n p A n ca l _ HN.out HP.out (HR4.out.below HB5.out) HL.out HW.out).mono ?_
    rintro e w6 ⟨D, cd, rfl, ho6, hb6⟩
    have HC6 := Lib.hid (HC5.out.grown hb6)
    have HD6 := Lib.hid ho6.row
    have HB6 : Hid (Below w4.heap.size w4 w6) := Lib.hid (blC HB5.out hb6)
    clear ho6 hb6 HB5 HC5
    go_wp2_with fail
    refine (powers_calls p a i _ HP.out HA.out HI.out).mono ?_
    rintro e w7 ⟨E1, c1, rfl, ho7, hb7⟩
    have HC7 := Lib.hid (HC6.out.grown hb7)
    have HD7 := Lib.hid (HD6.out.below hb7)
    have HE7 := Lib.hid ho7.row
    have HPL : Hid ((powersS p a i).1.length ≤ 9223372036854775807) := Lib.hid (by have := ho7.cap; omega)
    have HB7 : Hid (Below w4.heap.size w4 w7) := Lib.hid (blC HB6.out hb7)
    clear ho7 hb7 HB6 HC6 HD6
    go_wp2_with fail
    refine (r02_powers p a i _ HP.out HA.out HI.out).mono ?_
    rintro e w8 ⟨E2, c2, rfl, ho8, hb8⟩
    have HC8 := Lib.hid (HC7.out.grown hb8)
    have HD8 := Lib.hid (HD7.out.below hb8)
    have HE8 := Lib.hid (HE7.out.below hb8)
    have HF8 := Lib.hid ho8.row
    have HB8 : Hid (Below w4.heap.size w4 w8) := Lib.hid (blC HB7.out hb8)
    clear ho8 hb8 HB7 HC7 HD7 HE7
    go_wp2_with fail
    refine (pow_calls p a t _ HP.out HA.out HT.out).mono ?_
    rintro e w9 ⟨rfl, ⟨q3, rfl⟩⟩
    go_wp2_with fail
    refine (r02pow_i p a t _ HP.out HA.out HT.out).mono ?_
    rintro e w9 ⟨rfl, ⟨q4, rfl⟩⟩
    go_wp2_with fail
    refine (sameU_calls _ _ _ _ (undoS p l).1 (undoS p l).1 _ (HC8.out.row.drewN _) HUL.out (HD8.out.drewN _)).mono ?_
    rw [show decide ((undoS p l).1 = (undoS p l).1) = true from decide_eq_true rfl]
    rintro e w9 ⟨rfl, ⟨q5, rfl⟩⟩
    go_wp2_with fail
    refine (sameU_calls _ _ _ _ (powersS p a i).1 (powersS p a i).1 _ (HE8.out.drewN _) HPL.out (HF8.out.drewN _)).mono ?_
    rw [show decide ((powersS p a i).1 = (powersS p a i).1) = true from decide_eq_true rfl]
    rintro e w9 ⟨rfl, ⟨q6, rfl⟩⟩
    have HB9 : Hid (Below w4.heap.size w4 (w8.drewN (q3 + q4 + q5 + q6))) := Lib.hid (below_drewN HB8.out _)
    have HC9 := Lib.hid (HC8.out.drewN (q3 + q4 + q5 + q6))
    generalize hds : (undoS p l).1 = ds at *
    have HLD : Hid (ds.length ≤ 9223372036854775807) := HUL
    clear HC8 HD8 HB8 HE8 HF8
    go_wp2
    go_loopw [130] (fun i wr => ∃ (k : Nat) (cs : List Int), k ≤ ds.length ∧ i = .int .i64 k ∧ Hid (Own wr w4.heap.size 37 1 C ds.length cc (nums .u64 cs)) ∧ Hid (Below w4.heap.size w4 wr)) (fun i _ => ds.length - (intOf i).toNat)
    case atStart => exact ⟨0, ds, Nat.zero_le _, rfl, HC9, HB9⟩
    case round =>
      obtain ⟨k, cs, hk, rfl, HCR, HBR⟩ := hrel
      by_cases hlt : k < ds.length
      · obtain ⟨g, cap, hzv, _, _⟩ := World.ownsRow.form HCR.out (show 0 < ds.length by omega)
        cases hzv
        have hlen : cs.length = ds.length := by
          have h1 := HCR.out.len
          rw [nums_length] at h1
          omega
        have hcz : wr.cell? ⟨g, k, none⟩ = some (.int .u64 (cs[k]'(by omega))) := by
          rw [HCR.out.cellAt k hlt]; exact nums_get .u64 _ k (by omega)
        have hfz : wr.frozen? ⟨g, k, none⟩ = false := HCR.out.frozenAt k
        have HG := Lib.hid HCR.out.base
        generalize cs[k]'(by omega) = u at *
        have hld := HLD.out
        have HST : Hid (Own (wr.setCell ⟨g, k, none⟩ (.int .u64 (IntKind.u64.wrap (u + 1)))) w4.heap.size 37 1 (some ⟨g, 0, none⟩) ds.length cc (nums .u64 (cs.set k (IntKind.u64.wrap (u + 1))))) := Lib.hid (by
          have h1 := HCR.out.stored k (.int .u64 (IntKind.u64.wrap (u + 1)))
          rw [nums_set] at h1
          exact h1)
        have HSB := Lib.hid (Below.setCell (p := ⟨g, k, none⟩) HBR.out HG.out.1 (.int .u64 (IntKind.u64.wrap (u + 1))))
        generalize hz : IntKind.u64.wrap (u + 1) = z at *
        go_wp2
        go_roundw
        case rel => exact ⟨k + 1, cs.set k z, by omega, by go_num, HST, HSB⟩
        case measure => simp [intOf]; omega
      · go_wp2_with fail
        have hcall := sameU_calls A V ca cv l l wr (HR4.out.below HBR.out) (by rw [HN.out]; exact HL.out) (HO4.out.below HBR.out)
        rw [show decide (l = l) = true from decide_eq_true rfl, HN.out] at hcall
        refine hcall.mono ?_
        clear hcall
        rintro e w11 ⟨rfl, ⟨q7, rfl⟩⟩
        go_wp2
        go_ret
        exact ⟨by first | rfl | (simp; done), below_drewN (blC HB4.out HBR.out) _⟩
end Go.Proofs.Ytkofhmiakfmcaaa.P
