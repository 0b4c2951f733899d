/- The contracts of package root's Gen, ready and Root. Conditions: words of their kinds. -/
import Derived.Test.YtkofhmiakfmcaaaPow1
import Derived.Test.YtkofhmiakfmcaaaMem2
import Derived.LoopN
namespace Go.Proofs.Ytkofhmiakfmcaaa.P
open Go.RowKit
set_option linter.unusedVariables false
set_option linter.unusedSimpArgs false
theorem wp_loop_first {P : Program} {Q : Exit → Act → World → Prop} {a : Act} {w : World} {c : Code} (n : Nat) (h : c.wp P (Exit.then (Code.rounds P c Q n) Q) a w) : (Code.loop c).wp P Q a w :=
  wp_loop_rounds (n + 1) h
theorem wp_loop_next {P : Program} {Q : Exit → Act → World → Prop} {a : Act} {w : World} {c : Code} (n : Nat) (h : c.wp P (Exit.then (Code.rounds P c Q n) Q) a w) : Code.rounds P c Q (n + 1) a w := h
def genS (p : Int) : Int := if p = 18446744069414584321 then 7 else if p = 998244353 then 3 else if p = 2013265921 then 31 else 0
theorem gen_index0 (Z : Int) (w : World) : (Instr.index 94 (.agg #[.int .u64 Z, .int .u64 7, .int .u64 998244353, .int .u64 3, .int .u64 2013265921, .int .u64 31]) (.int .i64 0)).run Try.prog w = .ok (.agg #[.int .u64 Z, .int .u64 7]) w := by kernel_rfl
theorem gen_index1 (Z : Int) (w : World) : (Instr.index 94 (.agg #[.int .u64 Z, .int .u64 7, .int .u64 998244353, .int .u64 3, .int .u64 2013265921, .int .u64 31]) (.int .i64 1)).run Try.prog w = .ok (.agg #[.int .u64 998244353, .int .u64 3]) w := by kernel_rfl
theorem gen_index2 (Z : Int) (w : World) : (Instr.index 94 (.agg #[.int .u64 Z, .int .u64 7, .int .u64 998244353, .int .u64 3, .int .u64 2013265921, .int .u64 31]) (.int .i64 2)).run Try.prog w = .ok (.agg #[.int .u64 2013265921, .int .u64 31]) w := by kernel_rfl
theorem gen_calls (p : Int) (w : World) :
    Calls Try.prog 76 #[.int .u64 p] w fun e w' => e = .returned (.int .u64 (genS p)) ∧ Below w.heap.size w w' := by
  have hG : ∀ Z : Int, Z = 18446744069414584321 → genS p = if Z = p then 7 else if 998244353 = p then 3 else if 2013265921 = p then 31 else 0 := by
    intro Z hZ; subst hZ; unfold genS; simp only [eq_comm]
  have HG := Lib.hid hG
  clear hG
  go_enter Try.func76, Try.ntmps76
  go_wp2
  generalize hZ : (18446744069414584321 : Int) = Z
  have HV := Lib.hid (HG.out Z hZ.symm)
  clear hZ HG
  have i0 := gen_index0 Z
  have i1 := gen_index1 Z
  have i2 := gen_index2 Z
  by_cases h0 : Z = p
  · have HX : Hid (genS p = 7) := Lib.hid (by rw [HV.out, if_pos h0])
    have f0 : (Z == p) = true := by simpa using h0
    clear h0
    refine wp_loop_first 3 ?_
    go_wp2
    go_ret
    exact ⟨by rw [HX.out]; rfl, (Below.refl _ _).alloc (Nat.le_refl _) _⟩
  · have f0 : (Z == p) = false := by simpa using h0
    by_cases h1 : 998244353 = p
    · have HX : Hid (genS p = 3) := Lib.hid (by rw [HV.out, if_neg h0, if_pos h1])
      have f1 : ((998244353 : Int) == p) = true := by simpa using h1
      clear h0 h1
      refine wp_loop_first 3 ?_
      go_wp2
      refine wp_loop_next 2 ?_
      go_wp2
      go_ret
      exact ⟨by rw [HX.out]; rfl, ((Below.refl _ _).alloc (Nat.le_refl _) _).alloc (by simp) _⟩
    · have f1 : ((998244353 : Int) == p) = false := by simpa using h1
      by_cases h2 : 2013265921 = p
      · have HX : Hid (genS p = 31) := Lib.hid (by rw [HV.out, if_neg h0, if_neg h1, if_pos h2])
        have f2 : ((2013265921 : Int) == p) = true := by simpa using h2
        clear h0 h1 h2
        refine wp_loop_first 3 ?_
        go_wp2
        refine wp_loop_next 2 ?_
        go_wp2
        refine wp_loop_next 1 ?_
        go_wp2
        go_ret
        exact ⟨by rw [HX.out]; rfl, (((Below.refl _ _).alloc (Nat.le_refl _) _).alloc (by simp) _).alloc (by simp; omega) _⟩
      · have HX : Hid (genS p = 0) := Lib.hid (by rw [HV.out, if_neg h0, if_neg h1, if_neg h2])
        have f2 : ((2013265921 : Int) == p) = false := by simpa using h2
        clear h0 h1 h2
        refine wp_loop_first 3 ?_
        go_wp2
        refine wp_loop_next 2 ?_
        go_wp2
        refine wp_loop_next 1 ?_
        go_wp2
        refine wp_loop_next 0 ?_
        go_wp2
        go_ret
        exact ⟨by rw [HX.out]; rfl, (((Below.refl _ _).alloc (Nat.le_refl _) _).alloc (by simp) _).alloc (by simp; omega) _⟩
end Go.Proofs.Ytkofhmiakfmcaaa.P
