
/- The contracts of brackenref06's order, step, Check, Forward and Inverse. Conditions: words of their kinds; the slice reads as a list. -/
import Derived.Test.YtnlmmgcjhedjkaaDoorDftD
import Derived.Test.YtnlmmgcjhedjkaaDoorDftL
import Derived.Test.YtnlmmgcjhedjkaaDoorRefB
import Derived.Test.YtnlmmgcjhedjkaaDoorFac3
namespace Go.Proofs.YtnlmmgcjhedjkaaDoor.P
open Go.RowKit
set_option linter.unusedVariables false
set_option linter.unusedSimpArgs false
theorem rorder6_calls (n : Nat) (neg : Bool) (w : World) (hn : n ≤ 4096) : Calls Tryd.prog 88 #[.int .i64 (n : Int), .bool neg] w fun e w' => e = .returned (.int .i64 (ordS n neg)) ∧ w' = w := by
  have w1 : IntKind.i64.wrap (2 * (n : Int)) = 2 * (n : Int) := wrapI (by omega) (by omega)
  have w2 : wrap64 (2 * (n : Int)) = 2 * (n : Int) := wrap64_id ⟨by omega, by omega⟩
  have HF : Hid (ordS n neg = if neg then 2 * (n : Int) else n) := Lib.hid (by unfold ordS; split <;> omega)
  rw [HF.out]
  cases neg
  all_goals
    go_enter Tryd.func88, Tryd.ntmps88
    go_wp2
    go_ret
    exact ⟨rfl, rfl⟩
theorem rstep6_calls (neg : Bool) (i k n : Nat) (w : World) (hn : n ≤ 4096) (hi : i < n) (hk : k < n) : Calls Tryd.prog 92 #[.int .i64 (i : Int), .int .i64 (k : Int), .bool neg] w fun e w' => e = .returned (.int .u64 ((stp neg i k : Nat) : Int)) ∧ w' = w := by
  have hb := stp_le (neg := neg) hi hk hn
  have w1 : IntKind.i64.wrap (2 * (k : Int)) = 2 * (k : Int) := wrapI (by omega) (by omega)
  have w2 : wrap64 (2 * (k : Int)) = 2 * (k : Int) := wrap64_id ⟨by omega, by omega⟩
  have w3 : IntKind.i64.wrap (2 * (k : Int) + 1) = 2 * (k : Int) + 1 := wrapI (by omega) (by omega)
  have w4 : wrap64 (2 * (k : Int) + 1) = 2 * (k : Int) + 1 := wrap64_id ⟨by omega, by omega⟩
  cases neg
  case' false => have e1 : (i : Int) * (k : Int) = ((stp false i k : Nat) : Int) := by rw [stp, if_neg (by decide)]; push_cast; rfl
  case' true => have e1 : (i : Int) * (2 * (k : Int) + 1) = ((stp true i k : Nat) : Int) := by rw [stp, if_pos rfl]; push_cast; rfl
  all_goals
    generalize stp _ i k = v at *
    have w5 : IntKind.i64.wrap (v : Int) = (v : Int) := wrapI (by omega) (by omega)
    have w6 : wrap64 (v : Int) = (v : Int) := wrap64_id ⟨by omega, by omega⟩
    have w7 : IntKind.u64.wrap (v : Int) = (v : Int) := by rw [IntKind.wrap_u64]; exact Int.emod_eq_of_lt (Int.natCast_nonneg _) (Int.lt_of_le_of_lt (Int.ofNat_le.2 hb) (by decide))
    clear hb hi hk
    go_enter Tryd.func92, Tryd.ntmps92
    go_wp2
    go_ret
    exact ⟨rfl, rfl⟩
theorem r01_in_n (p : Int) (A : Option Addr) (c n : Nat) (l : List Int) (w : World) (hn : l.length = n) (hr : Row w A (nums .u64 l)) (hl : n ≤ 9223372036854775807) :
    Calls Tryd.prog 97 #[.int .u64 p, .slice A n c] w fun e w' => e = .returned (.bool (inS p l)) ∧ w' = w := by
  subst hn; exact r01_in p A c l w hr hl
theorem rchk6_calls (p : Int) (A : Option Addr) (c n : Nat) (x : List Int) (neg : Bool) (w : World) (hn : x.length = n) (hp : U64 p) (hr : Row w A (nums .u64 x)) (hl : n ≤ 9223372036854775807) :
    Calls Tryd.prog 43 #[.int .u64 p, .slice A n c, .bool neg] w fun e w' => e = .returned (.int .i64 (chk6 p x neg)) ∧ Below w.heap.size w w' := by
  subst hn
  have HP := Lib.hid hp
  have HR := Lib.hid hr
  have HL := Lib.hid hl
  have HI : Hid (i64 (x.length : Int)) := Lib.hid ⟨by omega, by omega⟩
  clear hp hr hl
  by_cases hk : knownS p = true
  case neg =>
    have HF : Hid (chk6 p x neg = 2) := Lib.hid (by rw [chk6, if_neg hk])
    have hk2 : knownS p = false := by simpa using hk
    rw [HF.out]
    clear hk
    go_enter Tryd.func43, Tryd.ntmps43
    go_wp2_with (go_at_call 96; refine (r01_known _ _).mono ?_; rintro e w' ⟨rfl, rfl⟩)
    go_ret
    exact ⟨rfl, Below.refl _ _⟩
  by_cases hs : smoothS x.length = true
  case neg =>
    have HF : Hid (chk6 p x neg = 4) := Lib.hid (by rw [chk6, if_pos hk, if_neg hs])
    have hs2 : smoothS x.length = false := by simpa using hs
    rw [HF.out]
    clear hs
    go_enter Tryd.func43, Tryd.ntmps43
    go_wp2_with (go_at_call 96; refine (r01_known _ _).mono ?_; rintro e w' ⟨rfl, rfl⟩)
    refine (r04_smooth _ _ HI.out).mono ?_
    rintro e w2 ⟨rfl, hb⟩
    have HB := Lib.hid hb
    clear hb
    go_wp2
    go_ret
    exact ⟨rfl, HB.out⟩
  have hs4 := (smooth_pos hs).2
  have hn4 : x.length ≤ 4096 := by omega
  by_cases ho : (rootS p (ordS x.length neg)).2 = 0
  case neg =>
    have HF : Hid (chk6 p x neg = (rootS p (ordS x.length neg)).2) := Lib.hid (by rw [chk6, if_pos hk, if_pos hs, if_neg ho])
    have t0 : ((rootS p (ordS x.length neg)).2 != 0) = true := by simpa using ho
    rw [HF.out]
    clear ho hs4
    go_enter Tryd.func43, Tryd.ntmps43
    go_wp2_with (go_at_call 96; refine (r01_known _ _).mono ?_; rintro e w' ⟨rfl, rfl⟩)
    refine (r04_smooth _ _ HI.out).mono ?_
    rintro e w2 ⟨rfl, hb⟩
    have HB := Lib.hid hb
    clear hb
    go_wp2_with (go_at_call 88; refine (rorder6_calls _ _ _ hn4).mono ?_; rintro e w' ⟨rfl, rfl⟩)
    refine (r03_root _ _ _ HP.out).mono ?_
    rintro e w3 ⟨rfl, hb⟩
    have HB2 := Lib.hid (blT HB.out hb)
    clear hb
    go_wp2
    go_ret
    exact ⟨rfl, HB2.out⟩
  clear hs4
  cases hin : inS p x
  case' false => have HF : Hid (chk6 p x neg = 7) := Lib.hid (by rw [chk6, if_pos hk, if_pos hs, if_pos ho, hin]; rfl)
  case' true => have HF : Hid (chk6 p x neg = 0) := Lib.hid (by rw [chk6, if_pos hk, if_pos hs, if_pos ho, hin]; rfl)
  all_goals
    rw [HF.out]
    have t0 : ((rootS p (ordS x.length neg)).2 != 0) = false := by simpa using ho
    go_enter Tryd.func43, Tryd.ntmps43
    go_wp2_with (go_at_call 96; refine (r01_known _ _).mono ?_; rintro e w' ⟨rfl, rfl⟩)
    refine (r04_smooth _ _ HI.out).mono ?_
    rintro e w2 ⟨rfl, hb⟩
    have HB := Lib.hid hb
    clear hb
    go_wp2_with (go_at_call 88; refine (rorder6_calls _ _ _ hn4).mono ?_; rintro e w' ⟨rfl, rfl⟩)
    refine (r03_root _ _ _ HP.out).mono ?_
    rintro e w3 ⟨rfl, hb⟩
    have HB2 := Lib.hid (blT HB.out hb)
    clear hb
    go_wp2_with fail
    refine (r01_in_n _ _ _ _ x _ rfl (HR.out.below HB2.out) HL.out).mono ?_
    rw [hin]
    rintro e w4 ⟨rfl, rfl⟩
    go_wp2
    go_ret
    exact ⟨rfl, HB2.out⟩
end Go.Proofs.YtnlmmgcjhedjkaaDoor.P
