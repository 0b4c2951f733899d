/- The law RootDoes, walked. Conditions: words of their kinds. -/
import Derived.Test.YtkofhmiakfmcaaaRef03b
import Derived.Test.YtkofhmiakfmcaaaLawRoot
namespace Go.Proofs.Ytkofhmiakfmcaaa.P
open Go.RowKit
set_option linter.unusedVariables false
set_option linter.unusedSimpArgs false
theorem rootDoes_walk (p a n : Int) (w : World) (hp : U64 p) (ha : U64 a) (hn : i64 n) :
    Calls Try.prog 19 #[.int .u64 p, .int .u64 a, .int .i64 n] w fun e w' => e = .returned (.bool true) ∧ Below w.heap.size w w' := by
  have HP := Lib.hid hp
  have HA := Lib.hid ha
  clear hp ha hn
  go_enter Try.func19, Try.ntmps19
  go_wp2_with fail
  refine (live03_calls _).mono ?_
  rintro e w1 ⟨rfl, hb1⟩
  have HB1 := Lib.hid hb1
  clear hb1
  go_wp2_with fail
  refine (root_calls _ _ _ HP.out).mono ?_
  rintro e w2 ⟨rfl, hb2⟩
  have HB2 : Hid (Below w.heap.size w w2) := Lib.hid (HB1.out.trans (hb2.mono HB1.out.size))
  clear hb2 HB1
  go_wp2_with fail
  refine (r03_root _ _ _ HP.out).mono ?_
  rintro e w3 ⟨rfl, hb2⟩
  have HB3 : Hid (Below w.heap.size w w3) := Lib.hid (HB2.out.trans (hb2.mono HB2.out.size))
  clear hb2 HB2
  go_wp2_with fail
  refine (back_calls _ _ _ HP.out).mono ?_
  rintro e w4 ⟨rfl, hb2⟩
  have HB4 : Hid (Below w.heap.size w w4) := Lib.hid (HB3.out.trans (hb2.mono HB3.out.size))
  clear hb2 HB3
  go_wp2_with fail
  refine (r03_back _ _ _ HP.out).mono ?_
  rintro e w5 ⟨rfl, hb2⟩
  have HB5 : Hid (Below w.heap.size w w5) := Lib.hid (HB4.out.trans (hb2.mono HB4.out.size))
  clear hb2 HB4
  go_wp2_with fail
  refine (order_calls _ _ _ _ HP.out HA.out).mono ?_
  rintro e w6 ⟨rfl, ⟨q1, rfl⟩⟩
  go_wp2_with fail
  refine (r03_order _ _ _ _ HP.out HA.out).mono ?_
  rintro e w7 ⟨rfl, ⟨q2, rfl⟩⟩
  generalize (rootS p n).1 = x1 at *
  generalize (rootS p n).2 = x2 at *
  generalize (backS p n).1 = x3 at *
  generalize (backS p n).2 = x4 at *
  generalize (orderS p a n).1 = x5 at *
  generalize (orderS p a n).2 = x6 at *
  go_wp2_with fail
  refine (gen_calls _ _).mono ?_
  rintro e w8 ⟨rfl, hb2⟩
  have HB6 : Hid (Below w.heap.size w w8) := Lib.hid ((below_drewN HB5.out _).trans (hb2.mono HB5.out.size))
  clear hb2 HB5
  go_wp2_with fail
  refine (r03_gen _ _).mono ?_
  rintro e w9 ⟨rfl, rfl⟩
  go_wp2
  go_ret
  exact ⟨by first | rfl | (simp; done), HB6.out⟩
end Go.Proofs.Ytkofhmiakfmcaaa.P
