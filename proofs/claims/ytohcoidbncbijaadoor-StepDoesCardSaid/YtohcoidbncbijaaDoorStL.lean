
/- The contract of brackenlaw16.live. Conditions: the library's table lies as it was laid. -/
import Derived.Test.YtohcoidbncbijaaDoorStO
namespace Go.Proofs.YtohcoidbncbijaaDoor.P
open Go.RowKit
set_option linter.unusedVariables false
set_option linter.unusedSimpArgs false
theorem st_one : doS16 998244353 [(2, false)] false (0, false, 2, 1, 1) [3, 5] = ([8, 998244351], 0) := by
  have hk : knownS 998244353 = true := by decide
  have hs : smoothS 2 = true := by decide +kernel
  have hr : (rootS 998244353 2).2 = 0 := by
    unfold rootS
    rw [if_pos (by decide), if_pos (by decide)]
  have hC : Chk7 998244353 [(2, false)] := by
    refine ⟨hk, by decide, ?_, ?_⟩
    · intro a ha; simp at ha; subst ha; exact hs
    · intro a ha; simp at ha; subst ha; exact hr
  have hc : chk16 998244353 [(2, false)] (0, false, 2, 1, 1) = 0 := by
    unfold chk16
    rw [if_pos hC.ok, if_pos (by decide), if_neg (by decide), if_pos (by decide +kernel)]
  have hw : wrd16 998244353 [(2, false)] (0, false, 2, 1, 1) [3, 5] = 0 := by
    unfold wrd16
    rw [if_pos hc, if_pos (by decide), if_pos (by decide)]
  have ho : (ptsS 998244353 2 false).2 = 0 := by
    unfold ptsS
    rw [if_pos (by decide), if_pos (by decide), if_pos hr]
  obtain ⟨N, hN, _, _, hT, hU, hpts⟩ := ptsS_ok ho
  obtain rfl : N = 2 := by omega
  have e : doL 998244353 (turnS 998244353 2 false) [3, 5] = [8, 998244351] := by
    rw [← two_is hT]; decide
  have ht : rtS 998244353 2 false = turnS 998244353 2 false := by unfold rtS turnS; rfl
  clear hT hpts hU
  generalize turnS 998244353 2 false = om at *
  have e0 : redS 998244353 (S 2 (fun t => ([3, 5] : List Int).getD t 0 * om ^ (t * 0))) = 8 := by
    have h1 := doL_at 998244353 om [3, 5] (u := 0) (by decide) 0
    rw [e] at h1
    exact h1.symm
  have e1 : redS 998244353 (S 2 (fun t => ([3, 5] : List Int).getD t 0 * om ^ (t * 1))) = 998244351 := by
    have h1 := doL_at 998244353 om [3, 5] (u := 1) (by decide) 0
    rw [e] at h1
    exact h1.symm
  rw [doS16, if_pos hw]
  suffices hsuf : stepDo 998244353 [(2, false)] false (0, false, 2, 1, 1) [3, 5] = [8, 998244351] by rw [hsuf]
  unfold stepDo
  dsimp only
  rw [show dimsA [(2, false)] = [2] from rfl, show (0 : Int).toNat = 0 from rfl]
  have hA : ∀ v : Nat, v < 2 → redS 998244353 (S (([2] : List Int).getD 0 1).toNat (fun c => ([3, 5] : List Int).getD (sv [2] 0 v c).toNat 0 * stepM 998244353 (([2] : List Int).getD 0 1).toNat (([(2, false)] : List (Int × Bool)).getD 0 (1, false)).2 false (0, false, 2, 1, 1) c (P.xv [2] 0 v).toNat)) =
      redS 998244353 (S 2 (fun t => ([3, 5] : List Int).getD t 0 * om ^ (t * v))) := by
    intro v hv
    have hD : (([2] : List Int).getD 0 1).toNat = 2 := rfl
    rw [hD]
    congr 1
    refine S_congr fun c hc => ?_
    have h1 : (sv [2] 0 (v : Int) (c : Int)).toNat = c := by
      have : (v = 0 ∨ v = 1) ∧ (c = 0 ∨ c = 1) := by omega
      obtain ⟨rfl | rfl, rfl | rfl⟩ := this <;> decide
    have h2 : (P.xv [2] 0 (v : Int)).toNat = v := by
      have : v = 0 ∨ v = 1 := by omega
      rcases this with rfl | rfl <;> decide
    rw [h1, h2]
    suffices hst : stepM 998244353 2 (([(2, false)] : List (Int × Bool)).getD 0 (1, false)).2 false (0, false, 2, 1, 1) c v = om ^ (c * v) by rw [hst]
    unfold stepM
    dsimp only
    rw [if_neg (by decide), ht]
    generalize rtS 998244353 (2 * 1) false = om2
    have : (v = 0 ∨ v = 1) ∧ (c = 0 ∨ c = 1) := by omega
    obtain ⟨rfl | rfl, rfl | rfl⟩ := this <;> simp [stM]
  unfold linA
  rw [show (List.range ([3, 5] : List Int).length) = [0, 1] from rfl]
  simp only [List.map_cons, List.map_nil]
  rw [hA 0 (by decide), hA 1 (by decide), e0, e1]
set_option maxRecDepth 100000 in
set_option maxHeartbeats 2000000 in
theorem live16_calls (w : World) (hT : Tab w) : Calls Tryd.prog 38 #[] w fun e w' => e = .returned (.bool true) ∧ Below w.heap.size w w' := by
  have HF := Lib.hid st_one
  have HT := Lib.hid hT
  have HU : Hid (∀ d ∈ ([3, 5] : List Int), U64 d) := Lib.hid (by decide)
  have HA : Hid (∀ a ∈ ([(2, false)] : List (Int × Bool)), i64 a.1) := Lib.hid (by decide)
  clear hT
  go_enter Tryd.func38, Tryd.ntmps38
  go_wp2_with fail
  have hb0 : Below w.heap.size w (w.alloc (.cells #[.int .i64 2, .bool false] 32)) := (Below.refl _ _).alloc (Nat.le_refl _) _
  have hr0 : Row (w.alloc (.cells #[.int .i64 2, .bool false] 32)) (some ⟨w.heap.size, 0, none⟩) (axR [(2, false)]) := row_new w [.int .i64 2, .bool false] 32
  have hsz : (w.alloc (.cells #[.int .i64 2, .bool false] 32)).heap.size = w.heap.size + 1 := by simp
  generalize (w.alloc (.cells #[.int .i64 2, .bool false] 32)) = V at *
  have hb1 : Below V.heap.size V (V.alloc (.cells #[.int .u64 3, .int .u64 5] 22)) := (Below.refl _ _).alloc (Nat.le_refl _) _
  have hr1 : Row (V.alloc (.cells #[.int .u64 3, .int .u64 5] 22)) (some ⟨V.heap.size, 0, none⟩) (nums .u64 [3, 5]) := row_new V [.int .u64 3, .int .u64 5] 22
  generalize (V.alloc (.cells #[.int .u64 3, .int .u64 5] 22)) = W at *
  have HBW : Hid (Below w.heap.size w W) := Lib.hid (blT hb0 hb1)
  rw [hsz] at hr1
  refine (sdo_calls 998244353 _ _ 1 [(2, false)] false 0 false 2 1 1 _ _ 2 [3, 5] _ rfl rfl (by decide) (hr0.below hb1) (by decide) HA.out hr1 (by decide) HU.out (HT.out.below HBW.out)).mono ?_
  rw [HF.out]
  rintro e w1 ⟨B, b, rfl, ho, hb⟩
  have HB : Hid (Below w.heap.size w w1) := Lib.hid (blT HBW.out hb)
  have HO := Lib.hid ho
  clear hb0 hr0 hb1 hr1 ho hb
  go_wp2_with fail
  have hb1 : Below w1.heap.size w1 (w1.alloc (.cells #[.int .u64 8, .int .u64 998244351] 22)) := (Below.refl _ _).alloc (Nat.le_refl _) _
  have hr1 : Row (w1.alloc (.cells #[.int .u64 8, .int .u64 998244351] 22)) (some ⟨w1.heap.size, 0, none⟩) (nums .u64 [8, 998244351]) := row_new w1 [.int .u64 8, .int .u64 998244351] 22
  generalize (w1.alloc (.cells #[.int .u64 8, .int .u64 998244351] 22)) = W1 at *
  refine (sameU_calls _ _ _ _ [8, 998244351] [8, 998244351] _ ((HO.out.grown hb1).row) (by decide) hr1).mono ?_
  rintro e w2 ⟨rfl, ⟨q, rfl⟩⟩
  have HB2 : Hid (Below w.heap.size w W1) := Lib.hid (blT HB.out hb1)
  clear hb1 hr1
  go_wp2
  go_ret
  exact ⟨by first | rfl | (simp; done), below_drewN HB2.out q⟩
end Go.Proofs.YtohcoidbncbijaaDoor.P
