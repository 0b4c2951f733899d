
/- The contracts of plan.Check, of its three closures and of plan.between. Conditions: words of their kinds; slices read as lists; the library's table lies as it was laid. -/
import Derived.Test.YtohcoidbncbijaaDoorPlF
import Derived.Test.YtohcoidbncbijaaDoorGrC
import Derived.Test.YtohcoidbncbijaaDoorDftL
namespace Go.Proofs.YtohcoidbncbijaaDoor.P
open Go.RowKit
set_option linter.unusedVariables false
set_option linter.unusedSimpArgs false
def btw (n lo hi : Int) : Bool := decide (lo ≤ n) && decide (n ≤ hi)
/-- Why a request can not be. -/
def chk17 (p : Int) (ax : List (Int × Bool)) (b rt ag : Int) (x sd : List Int) : Int :=
  if (btw b 1 16 && btw rt 0 8 && btw ag 0 8) = true then (if chk7 p ax = 0 then (if (x.length : Int) = prodL (dimsA ax) * b then (if inS p x = true then (if btw sd.length 1 4 = true then 0 else 8) else 7) else 6) else chk7 p ax) else 1
set_option maxRecDepth 100000 in
theorem between_calls (n lo hi : Int) (w : World) : Calls Tryd.prog 64 #[.int .i64 n, .int .i64 lo, .int .i64 hi] w fun e w' => e = .returned (.bool (btw n lo hi)) ∧ w' = w := by
  unfold btw
  cases h1 : decide (lo ≤ n) <;> cases h2 : decide (n ≤ hi)
  all_goals
    go_enter Tryd.func64, Tryd.ntmps64
    go_wp2
    go_ret
    exact ⟨rfl, rfl⟩
set_option maxRecDepth 100000 in
theorem c17a_calls (p : Int) (A : Option Addr) (ca n : Nat) (inv : Bool) (b : Int) (X : Option Addr) (cx m : Nat) (S : Option Addr) (cs s : Nat) (rt ag : Int) (N : Int) (a : Addr) (w : World) (hc : w.cell? a = some (.int .i64 N)) (h0 : 0 ≤ N) (h1 : N ≤ 4096) (hb1 : 1 ≤ b) (hb2 : b ≤ 16) :
    Calls Tryd.prog 66 #[.agg #[.int .u64 p, .slice A n ca, .bool inv, .int .i64 b, .slice X m cx, .slice S s cs, .int .i64 rt, .int .i64 ag], .pointer (some a)] w fun e w' => e = .returned (.bool ((m : Int) != N * b)) ∧ Below w.heap.size w w' := by
  have hlt := World.block_lt_of_cell? w _ hc
  have hcV : (w.alloc (.cells #[.int .u64 p, .slice A n ca, .bool inv, .int .i64 b, .slice X m cx, .slice S s cs, .int .i64 rt, .int .i64 ag] 43)).cell? a = some (.int .i64 N) := (((Below.refl w.heap.size w).alloc (Nat.le_refl _) _).cell hlt).trans hc
  have hb9 : Below w.heap.size w (w.alloc (.cells #[.int .u64 p, .slice A n ca, .bool inv, .int .i64 b, .slice X m cx, .slice S s cs, .int .i64 rt, .int .i64 ag] 43)) := (Below.refl _ _).alloc (Nat.le_refl _) _
  have hbo : 0 ≤ N * b ∧ N * b ≤ 65536 := ⟨Int.mul_nonneg h0 (by omega), Int.le_trans (Int.mul_le_mul h1 hb2 (by omega) (by decide)) (by decide)⟩
  have o1 : IntKind.i64.wrap (N * b) = N * b := wrapI (by omega) (by omega)
  have o2 : wrap64 (N * b) = N * b := wrap64_id ⟨by omega, by omega⟩
  have HB9 := Lib.hid hb9
  clear hbo h0 h1 hb1 hb2 hlt hb9
  go_enter Tryd.func66, Tryd.ntmps66
  go_wp2
  go_ret
  exact ⟨rfl, HB9.out⟩
set_option maxRecDepth 100000 in
theorem c17b_calls (p : Int) (A : Option Addr) (ca n : Nat) (inv : Bool) (b : Int) (X : Option Addr) (cx m : Nat) (S : Option Addr) (cs s : Nat) (rt ag : Int) (x : List Int) (w : World) (hm : x.length = m) (hr : Row w X (nums .u64 x)) (hl : m ≤ 9223372036854775807) :
    Calls Tryd.prog 67 #[.agg #[.int .u64 p, .slice A n ca, .bool inv, .int .i64 b, .slice X m cx, .slice S s cs, .int .i64 rt, .int .i64 ag]] w fun e w' => e = .returned (.bool (!inS p x)) ∧ Below w.heap.size w w' := by
  have HR := Lib.hid (hr.below ((Below.refl w.heap.size w).alloc (Nat.le_refl _) (.cells #[.int .u64 p, .slice A n ca, .bool inv, .int .i64 b, .slice X m cx, .slice S s cs, .int .i64 rt, .int .i64 ag] 43)))
  have HM := Lib.hid hm
  have hb9 : Below w.heap.size w (w.alloc (.cells #[.int .u64 p, .slice A n ca, .bool inv, .int .i64 b, .slice X m cx, .slice S s cs, .int .i64 rt, .int .i64 ag] 43)) := (Below.refl _ _).alloc (Nat.le_refl _) _
  have HB9 := Lib.hid hb9
  clear hr hm hb9
  go_enter Tryd.func67, Tryd.ntmps67
  go_wp2_with fail
  refine (in_n p X cx m x _ HM.out HR.out hl).mono ?_
  rintro e w2 ⟨rfl, rfl⟩
  go_wp2
  go_ret
  exact ⟨rfl, HB9.out⟩
set_option maxRecDepth 100000 in
theorem c17c_calls (p : Int) (A : Option Addr) (ca n : Nat) (inv : Bool) (b : Int) (X : Option Addr) (cx m : Nat) (S : Option Addr) (cs s : Nat) (rt ag : Int) (w : World) :
    Calls Tryd.prog 68 #[.agg #[.int .u64 p, .slice A n ca, .bool inv, .int .i64 b, .slice X m cx, .slice S s cs, .int .i64 rt, .int .i64 ag]] w fun e w' => e = .returned (.bool (!btw (s : Int) 1 4)) ∧ Below w.heap.size w w' := by
  have hb9 : Below w.heap.size w (w.alloc (.cells #[.int .u64 p, .slice A n ca, .bool inv, .int .i64 b, .slice X m cx, .slice S s cs, .int .i64 rt, .int .i64 ag] 43)) := (Below.refl _ _).alloc (Nat.le_refl _) _
  have HB9 := Lib.hid hb9
  clear hb9
  go_enter Tryd.func68, Tryd.ntmps68
  go_wp2_with fail
  refine (between_calls _ _ _ _).mono ?_
  rintro e w2 ⟨rfl, rfl⟩
  go_wp2
  go_ret
  exact ⟨rfl, HB9.out⟩
end Go.Proofs.YtohcoidbncbijaaDoor.P
