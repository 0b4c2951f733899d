
/- The contract of step.base. Conditions: words of their kinds; numbers that do not overflow. -/
import Derived.Test.YtohcoidbncbijaaDoorStC
namespace Go.Proofs.YtohcoidbncbijaaDoor.P
open Go.RowKit
set_option linter.unusedVariables false
set_option linter.unusedSimpArgs false
/-- The number whose powers factors are, or why not: of a twist, or a stage. -/
def baseS (p a0 : Int) (neg inv tw : Bool) (rm : Int) : Int × Int := if tw && !neg then (1, 0) else if inv then backS p (if tw then 2 * a0 else rm) else rootS p (if tw then 2 * a0 else rm)
set_option maxRecDepth 100000 in
set_option maxHeartbeats 2000000 in
theorem sbase_calls (p a0 : Int) (neg inv : Bool) (s0 : Int) (s1 : Bool) (s2 s3 s4 : Int) (w : World) (hp : U64 p) (ha0 : 0 ≤ a0) (ha4 : a0 ≤ 4096) (hm0 : 0 ≤ s2 * s4) (hm4 : s2 * s4 ≤ 4096) :
    Calls Tryd.prog 72 #[.int .u64 p, .agg #[.int .i64 a0, .bool neg], .bool inv, .agg #[.int .i64 s0, .bool s1, .int .i64 s2, .int .i64 s3, .int .i64 s4]] w fun e w' =>
      e = .returned (.tuple #[.int .u64 (baseS p a0 neg inv s1 (s2 * s4)).1, .int .i64 (baseS p a0 neg inv s1 (s2 * s4)).2]) ∧ Below w.heap.size w w' := by
  have HP := Lib.hid hp
  have o1 : IntKind.i64.wrap (s2 * s4) = s2 * s4 := wrapI (by omega) (by omega)
  have o2 : IntKind.i64.wrap (2 * a0) = 2 * a0 := wrapI (by omega) (by omega)
  have HB9 : Hid (Below w.heap.size w ((w.alloc (.cells #[.int .i64 a0, .bool neg] 32)).alloc (.cells #[.int .i64 s0, .bool s1, .int .i64 s2, .int .i64 s3, .int .i64 s4] 39))) := Lib.hid (((Below.refl _ _).alloc (Nat.le_refl _) _).alloc (by simp) _)
  clear hp ha0 ha4 hm0 hm4
  cases s1 <;> cases neg <;> cases inv
  all_goals
    go_enter Tryd.func72, Tryd.ntmps72
    first
      | (go_wp2_with fail
         refine (root_calls p _ _ HP.out).mono ?_
         rintro e w2 ⟨rfl, hb⟩
         have HB := Lib.hid (blT HB9.out hb)
         clear hb
         go_wp2
         go_ret2
         exact ⟨rfl, HB.out⟩)
      | (go_wp2_with fail
         refine (back_calls p _ _ HP.out).mono ?_
         rintro e w2 ⟨rfl, hb⟩
         have HB := Lib.hid (blT HB9.out hb)
         clear hb
         go_wp2
         go_ret2
         exact ⟨rfl, HB.out⟩)
      | (go_wp2
         go_ret2
         exact ⟨by first | rfl | (simp [baseS]; done), HB9.out⟩)
end Go.Proofs.YtohcoidbncbijaaDoor.P
