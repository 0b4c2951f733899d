
/- The chapter's example of layer 6; the law DftBack, walked. Conditions: words of their kinds; the slice reads as a list; the library's table lies as it was laid. -/
import Derived.Test.YtnlmmgcjhedjkaaDoorDftD
import Derived.Test.YtnlmmgcjhedjkaaDoorRef05B
namespace Go.Proofs.YtnlmmgcjhedjkaaDoor.P
open Go.RowKit
set_option linter.unusedVariables false
set_option linter.unusedSimpArgs false
theorem lin_unit (w b l : Int) (o : Nat) : linF 998244353 (fun i => wgt w b l false false i o) [1, 0, 0, 0] = 1 := by
  have e : S 4 (fun i => ([1, 0, 0, 0] : List Int).getD i 0 * wgt w b l false false i o) = 1 := by
    have e0 : wgt w b l false false 0 o = 1 := by
      simp only [wgt, stp, Bool.false_eq_true, if_false]
      rw [Nat.zero_mul, Int.pow_zero]
    simp only [S]
    rw [e0]
    generalize wgt w b l false false 1 o = q1
    generalize wgt w b l false false 2 o = q2
    generalize wgt w b l false false 3 o = q3
    simp
  unfold linF
  rw [show ([1, 0, 0, 0] : List Int).length = 4 from rfl, e]
  decide
theorem fwd_unit : trS 998244353 false false [1, 0, 0, 0] = ([1, 1, 1, 1], 0) := by
  have hc : chk6 998244353 [1, 0, 0, 0] false = 0 := by
    have hk : knownS 998244353 = true := by decide
    have hs : smoothS (([1, 0, 0, 0] : List Int).length : Int) = true := by decide +kernel
    have hr : (rootS 998244353 (ordS ([1, 0, 0, 0] : List Int).length false)).2 = 0 := by
      have e : ordS ([1, 0, 0, 0] : List Int).length false = 4 := rfl
      rw [e]
      unfold rootS
      rw [if_pos (by decide), if_pos (by decide)]
    have hi : inS 998244353 [1, 0, 0, 0] = true := by decide
    rw [chk6, if_pos hk, if_pos hs, if_pos hr, if_pos hi]
  have e : ∀ o, trF 998244353 false false [1, 0, 0, 0] o = 1 := fun o => lin_unit _ _ _ o
  have hl : trL 998244353 false false [1, 0, 0, 0] = [1, 1, 1, 1] := by
    unfold trL
    rw [show (List.range ([1, 0, 0, 0] : List Int).length) = [0, 1, 2, 3] from rfl]
    simp only [List.map_cons, List.map_nil, e]
  rw [trS, if_pos hc, hl]
theorem live06_calls (w : World) (hT : Tab w) : Calls Tryd.prog 31 #[] w fun e w' => e = .returned (.bool true) ∧ Below w.heap.size w w' := by
  have HF := Lib.hid fwd_unit
  have HT := Lib.hid hT
  have HU : Hid (∀ d ∈ ([1, 0, 0, 0] : List Int), U64 d) := Lib.hid (by decide)
  clear hT
  go_enter Tryd.func31, Tryd.ntmps31
  go_wp2_with fail
  have hb0 : Below w.heap.size w (w.alloc (.cells #[.int .u64 1, .int .u64 0, .int .u64 0, .int .u64 0] 40)) := (Below.refl _ _).alloc (Nat.le_refl _) _
  have hr0 : Row (w.alloc (.cells #[.int .u64 1, .int .u64 0, .int .u64 0, .int .u64 0] 40)) (some ⟨w.heap.size, 0, none⟩) (nums .u64 [1, 0, 0, 0]) := row_new w [.int .u64 1, .int .u64 0, .int .u64 0, .int .u64 0] 40
  generalize (w.alloc (.cells #[.int .u64 1, .int .u64 0, .int .u64 0, .int .u64 0] 40)) = W at *
  refine (fwd6_calls _ _ _ 4 [1, 0, 0, 0] _ _ rfl (by decide) hr0 (by decide) HU.out (HT.out.below hb0)).mono ?_
  rw [HF.out]
  rintro e w1 ⟨B, b, rfl, ho, hb⟩
  have HB : Hid (Below w.heap.size w w1) := Lib.hid (blT hb0 hb)
  have HO := Lib.hid ho
  clear hb0 hr0 ho hb
  go_wp2_with fail
  have hb1 : Below w1.heap.size w1 (w1.alloc (.cells #[.int .u64 1, .int .u64 1, .int .u64 1, .int .u64 1] 40)) := (Below.refl _ _).alloc (Nat.le_refl _) _
  have hr1 : Row (w1.alloc (.cells #[.int .u64 1, .int .u64 1, .int .u64 1, .int .u64 1] 40)) (some ⟨w1.heap.size, 0, none⟩) (nums .u64 [1, 1, 1, 1]) := row_new w1 [.int .u64 1, .int .u64 1, .int .u64 1, .int .u64 1] 40
  generalize (w1.alloc (.cells #[.int .u64 1, .int .u64 1, .int .u64 1, .int .u64 1] 40)) = W1 at *
  refine (sameU_calls _ _ _ _ [1, 1, 1, 1] [1, 1, 1, 1] _ ((HO.out.grown hb1).row) (by decide) hr1).mono ?_
  rintro e w2 ⟨rfl, ⟨q, rfl⟩⟩
  have HB2 : Hid (Below w.heap.size w W1) := Lib.hid (blT HB.out hb1)
  clear hb1 hr1
  go_wp2
  go_ret
  exact ⟨by first | rfl | (simp; done), below_drewN HB2.out _⟩
theorem same_n (A B : Option Addr) (ca cb n m : Nat) (l k : List Int) (w : World) (hn : l.length = n) (hm : k.length = m) (hr : Row w A (nums .u64 l)) (hl : n ≤ 9223372036854775807) (hrm : Row w B (nums .u64 k)) :
    Calls Tryd.prog 34 #[.slice A n ca, .slice B m cb] w fun e w' => e = .returned (.bool (decide (l = k))) ∧ Drawn0 w w' := by
  subst hn; subst hm; exact sameU_calls A B ca cb l k w hr hl hrm
theorem in_n (p : Int) (A : Option Addr) (c n : Nat) (l : List Int) (w : World) (hn : l.length = n) (hr : Row w A (nums .u64 l)) (hl : n ≤ 9223372036854775807) :
    Calls Tryd.prog 38 #[.int .u64 p, .slice A n c] w fun e w' => e = .returned (.bool (inS p l)) ∧ w' = w := by
  subst hn; exact in_calls p A c l w hr hl
theorem trS_err {p : Int} {neg inv : Bool} {x : List Int} (h : chk6 p x neg ≠ 0) : trS p neg inv x = ([], chk6 p x neg) := by rw [trS, if_neg h]
theorem trS_yes {p : Int} {neg inv : Bool} {x : List Int} (h : chk6 p x neg = 0) : trS p neg inv x = (trL p neg inv x, 0) := by rw [trS, if_pos h]
set_option maxRecDepth 100000 in
theorem dftBack_walk (p : Int) (A : Option Addr) (ca : Nat) (x : List Int) (neg : Bool) (w : World) (hp : U64 p)
    (hr : Row w A (nums .u64 x)) (hy : x.length * 8 ≤ 140737488351232) (hw : ∀ d ∈ x, (Lit.int .u64 d).wf = true) (hT : Tab w) :
    Calls Tryd.prog 8 #[.int .u64 p, .slice A x.length ca, .bool neg] w fun e w' => e = .returned (.bool true) ∧ Below w.heap.size w w' := by
  have HP := Lib.hid hp
  have HR := Lib.hid hr
  have HT := Lib.hid hT
  have HW : Hid (∀ d ∈ x, U64 d) := Lib.hid fun d hd => u64_wf (hw d hd)
  generalize hn : x.length = n at *
  have HN := Lib.hid hn
  have HL : Hid (n ≤ 9223372036854775807) := Lib.hid (by omega)
  clear hp hr hw hT hn hy
  go_enter Tryd.func8, Tryd.ntmps8
  go_wp2_with fail
  refine (live06_calls _ HT.out).mono ?_
  rintro e w1 ⟨rfl, hb⟩
  have HB1 := Lib.hid hb
  clear hb
  by_cases g0 : 32 < n
  · have f0 : decide (32 < (n : Int)) = true := by simp; omega
    clear g0
    go_wp2
    go_ret
    exact ⟨rfl, HB1.out⟩
  have f0 : decide (32 < (n : Int)) = false := by simp; omega
  by_cases hc : chk6 p x neg = 0
  case neg =>
    have HE : Hid (∀ inv, trS p neg inv x = ([], chk6 p x neg)) := Lib.hid fun inv => trS_err hc
    have t0 : (chk6 p x neg != 0) = true := by simpa using hc
    clear hc
    go_wp2_with fail
    refine (fwd6_calls p _ _ _ x neg _ HN.out HP.out (HR.out.below HB1.out) HL.out HW.out (HT.out.below HB1.out)).mono ?_
    rw [HE.out]
    rintro e w2 ⟨Z2, z2, rfl, ho, hb⟩
    have HB2 := Lib.hid (blT HB1.out hb)
    clear ho hb
    go_wp2_with fail
    refine (inv6_calls p _ _ _ x neg _ HN.out HP.out (HR.out.below HB2.out) HL.out HW.out (HT.out.below HB2.out)).mono ?_
    rw [HE.out]
    rintro e w3 ⟨Z3, z3, rfl, ho, hb⟩
    have HB3 := Lib.hid (blT HB2.out hb)
    clear ho hb
    go_wp2_with fail
    refine (chk6_calls p _ _ _ x neg _ HN.out HP.out (HR.out.below HB3.out) HL.out (HT.out.below HB3.out)).mono ?_
    rintro e w4 ⟨rfl, hb⟩
    have HB4 := Lib.hid (blT HB3.out hb)
    clear hb
    go_wp2
    go_ret
    exact ⟨by first | rfl | (simp; done), HB4.out⟩
  have HE : Hid (∀ inv, trS p neg inv x = (trL p neg inv x, 0)) := Lib.hid fun inv => trS_yes hc
  have HCK := Lib.hid hc
  have HBK := Lib.hid (fun inv => trS_back hc HW.out inv)
  have HLL : Hid (∀ inv, (trL p neg inv x).length = n) := Lib.hid fun inv => by rw [trL_length]; exact HN.out
  have HU : Hid (∀ inv, ∀ d ∈ trL p neg inv x, U64 d) := Lib.hid fun inv => trL_u64 p neg inv x
  have HIN : Hid (inS p (trL p neg false x) = true) := Lib.hid (trL_in (chk6_ok hc).1.known neg false x)
  have HNX : Hid (((x, (0 : Int)).1).length = n) := Lib.hid HN.out
  have HBF : Hid (trS p neg true (trL p neg false x) = (x, 0)) := Lib.hid (HBK.out false)
  have HBT : Hid (trS p neg false (trL p neg true x) = (x, 0)) := Lib.hid (HBK.out true)
  have HLF := Lib.hid (HLL.out false)
  have HLT := Lib.hid (HLL.out true)
  have HUF := Lib.hid (HU.out false)
  have HUT := Lib.hid (HU.out true)
  have HEF := Lib.hid (HE.out false)
  have HET := Lib.hid (HE.out true)
  clear hc HBK HLL HU HE
  generalize trL p neg false x = y at *
  generalize trL p neg true x = z at *
  go_wp2_with fail
  refine (fwd6_calls p _ _ _ x neg _ HN.out HP.out (HR.out.below HB1.out) HL.out HW.out (HT.out.below HB1.out)).mono ?_
  rw [HEF.out, show ((y, (0 : Int)).1).length = n from HLF.out]
  rintro e w2 ⟨Z2, z2, rfl, ho, hb⟩
  have HB2 := Lib.hid (blT HB1.out hb)
  have HY2 : Hid (Row w2 Z2 (nums .u64 y)) := Lib.hid ho.row
  clear ho hb
  go_wp2_with fail
  refine (inv6_calls p _ _ _ x neg _ HN.out HP.out (HR.out.below HB2.out) HL.out HW.out (HT.out.below HB2.out)).mono ?_
  rw [HET.out, show ((z, (0 : Int)).1).length = n from HLT.out]
  rintro e w3 ⟨Z3, z3, rfl, ho, hb⟩
  have HB3 := Lib.hid (blT HB2.out hb)
  have HY3 := Lib.hid (HY2.out.below hb)
  have HZ3 : Hid (Row w3 Z3 (nums .u64 z)) := Lib.hid ho.row
  clear ho hb HY2
  go_wp2_with fail
  refine (chk6_calls p _ _ _ x neg _ HN.out HP.out (HR.out.below HB3.out) HL.out (HT.out.below HB3.out)).mono ?_
  rw [HCK.out]
  rintro e w4 ⟨rfl, hb⟩
  have HB4 := Lib.hid (blT HB3.out hb)
  have HY4 := Lib.hid (HY3.out.below hb)
  have HZ4 := Lib.hid (HZ3.out.below hb)
  clear hb HY3 HZ3
  go_wp2_with fail
  refine (inv6_calls p _ _ _ y neg _ HLF.out HP.out HY4.out HL.out HUF.out (HT.out.below HB4.out)).mono ?_
  rw [HBF.out, HNX.out]
  rintro e w5 ⟨Z5, z5, rfl, ho, hb⟩
  have HB5 := Lib.hid (blT HB4.out hb)
  have HY5 := Lib.hid (HY4.out.below hb)
  have HZ5 := Lib.hid (HZ4.out.below hb)
  have HX5 : Hid (Row w5 Z5 (nums .u64 x)) := Lib.hid ho.row
  clear ho hb HY4 HZ4
  go_wp2_with fail
  refine (fwd6_calls p _ _ _ z neg _ HLT.out HP.out HZ5.out HL.out HUT.out (HT.out.below HB5.out)).mono ?_
  rw [HBT.out, HNX.out]
  rintro e w6 ⟨Z6, z6, rfl, ho, hb⟩
  have HB6 := Lib.hid (blT HB5.out hb)
  have HY6 := Lib.hid (HY5.out.below hb)
  have HX6 := Lib.hid (HX5.out.below hb)
  have HV6 : Hid (Row w6 Z6 (nums .u64 x)) := Lib.hid ho.row
  clear ho hb HY5 HZ5 HX5
  go_wp2_with fail
  refine (same_n _ _ _ _ n n x x _ HN.out HN.out HX6.out HL.out (HR.out.below HB6.out)).mono ?_
  rw [show decide (x = x) = true from decide_eq_true rfl]
  rintro e w7 ⟨rfl, ⟨q7, rfl⟩⟩
  have HB7 := Lib.hid (below_drewN HB6.out q7)
  have HY7 := Lib.hid (HY6.out.drewN q7)
  have HV7 := Lib.hid (HV6.out.drewN q7)
  clear HX6 HV6 HY6
  generalize w6.drewN q7 = w7 at *
  go_wp2_with fail
  refine (same_n _ _ _ _ n n x x _ HN.out HN.out HV7.out HL.out (HR.out.below HB7.out)).mono ?_
  rw [show decide (x = x) = true from decide_eq_true rfl]
  rintro e w8 ⟨rfl, ⟨q8, rfl⟩⟩
  have HB8 := Lib.hid (below_drewN HB7.out q8)
  have HY8 := Lib.hid (HY7.out.drewN q8)
  clear HV7 HY7
  generalize w7.drewN q8 = w8 at *
  go_wp2_with fail
  refine (in_n p _ _ n y _ HLF.out HY8.out HL.out).mono ?_
  rw [HIN.out]
  rintro e w9 ⟨rfl, rfl⟩
  go_wp2
  go_ret
  exact ⟨by first | rfl | (simp; done), HB8.out⟩
end Go.Proofs.YtnlmmgcjhedjkaaDoor.P
