
/- The laws FactorDoes and FactorBack, walked. Conditions: numbers of their kinds; slices read as lists; the library's table lies as it was laid. -/
import Derived.Test.YtnlmmgcjhedjkaaDoorFacL
import Derived.Test.YtnlmmgcjhedjkaaDoorFac4
namespace Go.Proofs.YtnlmmgcjhedjkaaDoor.P
open Go.RowKit
set_option linter.unusedVariables false
set_option linter.unusedSimpArgs false
theorem chk4_self (n : Int) : chk4 n (stgS n).1 = (stgS n).2 := by
  unfold chk4
  split
  · rename_i h; rw [if_pos rfl, h]
  · rfl
theorem facS_len (n : Int) : (facS n).1.length ≤ 9223372036854775807 := by
  by_cases h : (facS n).2 = 0
  · have := (facS_ok h).1.len; omega
  · rw [facS_err h]; simp
set_option maxRecDepth 100000 in
theorem factorDoes_walk (n : Int) (A : Option Addr) (ca : Nat) (l : List (Int × Int × Int)) (w : World) (hn : i64 n) (hr : Row w A (stR3 l)) (hy : l.length * 24 ≤ 140737488351232) (hz : l.length ≤ ca)
    (hw : ∀ x ∈ l, (Lit.int .i64 x.1).wf = true ∧ (Lit.int .i64 x.2.1).wf = true ∧ (Lit.int .i64 x.2.2).wf = true) (hT : Tab w) :
    Calls Tryd.prog 6 #[.int .i64 n, .slice A l.length ca] w fun e w' => e = .returned (.bool true) ∧ Below w.heap.size w w' := by
  have HR := Lib.hid hr
  have HN := Lib.hid hn
  have HT := Lib.hid hT
  have HL : Hid (l.length ≤ 9223372036854775807) := Lib.hid (by omega)
  clear hr hn hT hw hy hz
  go_enter Tryd.func6, Tryd.ntmps6
  go_wp2_with fail
  refine (live04_calls _ HT.out).mono ?_
  rintro e w1 ⟨rfl, hb⟩
  have HB1 := Lib.hid hb
  clear hb
  go_wp2_with fail
  refine (radices_calls n _ HN.out (HT.out.below HB1.out)).mono ?_
  rintro e w2 ⟨Z2, z2, rfl, ho, hb⟩
  have HB2 := Lib.hid (blT HB1.out hb)
  have HA2 := Lib.hid ho.row
  clear ho hb
  go_wp2_with fail
  refine (r04_radices n _ HN.out).mono ?_
  rintro e w3 ⟨Z3, z3, rfl, ho, hb⟩
  have HB3 := Lib.hid (blT HB2.out hb)
  have HA3 := Lib.hid (HA2.out.below hb)
  have HD3 := Lib.hid ho.row
  clear ho hb HA2
  go_wp2_with fail
  refine (stages_calls n _ HN.out (HT.out.below HB3.out)).mono ?_
  rintro e w4 ⟨Z4, z4, rfl, ho, hb⟩
  have HB4 := Lib.hid (blT HB3.out hb)
  have HA4 := Lib.hid (HA3.out.below hb)
  have HD4 := Lib.hid (HD3.out.below hb)
  have HS4 := Lib.hid ho.row
  clear ho hb HA3 HD3
  go_wp2_with fail
  refine (r04_stages n _ HN.out).mono ?_
  rintro e w5 ⟨Z5, z5, rfl, ho, hb⟩
  have HB5 := Lib.hid (blT HB4.out hb)
  have HA5 := Lib.hid (HA4.out.below hb)
  have HD5 := Lib.hid (HD4.out.below hb)
  have HS5 := Lib.hid (HS4.out.below hb)
  have HX5 := Lib.hid ho.row
  clear ho hb HA4 HD4 HS4
  go_wp2_with fail
  refine (smooth_calls n _ HN.out (HT.out.below HB5.out)).mono ?_
  rintro e w6 ⟨rfl, hb6⟩
  go_wp2_with fail
  refine (r04_smooth n _ HN.out).mono ?_
  rintro e w7 ⟨rfl, hb7⟩
  have hb : Below w5.heap.size w5 w7 := blT hb6 hb7
  have HB7 := Lib.hid (blT HB5.out hb)
  have HA7 := Lib.hid (HA5.out.below hb)
  have HD7 := Lib.hid (HD5.out.below hb)
  have HS7 := Lib.hid (HS5.out.below hb)
  have HX7 := Lib.hid (HX5.out.below hb)
  clear hb6 hb7 hb HA5 HD5 HS5 HX5
  have HFL := Lib.hid (facS_len n)
  have HGL := Lib.hid (stgS_len n)
  have HCS := Lib.hid (chk4_self n)
  go_wp2_with fail
  refine (sameInts_calls _ _ _ _ _ _ _ HA7.out HFL.out HD7.out).mono ?_
  rintro e w8 ⟨rfl, ⟨q8, rfl⟩⟩
  have HB8 := Lib.hid (below_drewN HB7.out q8)
  have HS8 := Lib.hid (HS7.out.drewN q8)
  have HX8 := Lib.hid (HX7.out.drewN q8)
  clear HA7 HD7 HS7 HX7
  generalize w7.drewN q8 = w8 at *
  go_wp2_with fail
  refine (sameStg_calls _ _ _ _ _ _ _ HS8.out HGL.out HX8.out).mono ?_
  rintro e w9 ⟨rfl, ⟨q9, rfl⟩⟩
  have HB9 := Lib.hid (below_drewN HB8.out q9)
  have HS9 := Lib.hid (HS8.out.drewN q9)
  clear HS8 HX8
  generalize w8.drewN q9 = w9 at *
  go_wp2_with fail
  refine (chk4_calls n _ _ _ _ HN.out (HR.out.below HB9.out) HL.out (HT.out.below HB9.out)).mono ?_
  rintro e w10 ⟨rfl, hb⟩
  have HB10 := Lib.hid (blT HB9.out hb)
  have HS10 := Lib.hid (HS9.out.below hb)
  clear hb HS9
  go_wp2_with fail
  refine (r04_check_calls n _ _ _ _ HN.out (HR.out.below HB10.out) HL.out).mono ?_
  rintro e w11 ⟨rfl, hb⟩
  have HB11 := Lib.hid (blT HB10.out hb)
  have HS11 := Lib.hid (HS10.out.below hb)
  clear hb HS10
  go_wp2_with fail
  refine (chk4_calls n _ _ _ _ HN.out HS11.out HGL.out (HT.out.below HB11.out)).mono ?_
  rw [HCS.out]
  rintro e w12 ⟨rfl, hb⟩
  have HB12 := Lib.hid (blT HB11.out hb)
  clear hb
  go_wp2
  go_ret
  exact ⟨by first | rfl | (simp; done), HB12.out⟩
end Go.Proofs.YtnlmmgcjhedjkaaDoor.P
