
/- The law GridOne, walked. Conditions: words of their kinds; the slices read as lists; the library's table lies as it was laid. -/
import Derived.Test.YtnlmmgcjhedjkaaDoorGrF
namespace Go.Proofs.YtnlmmgcjhedjkaaDoor.P
open Go.RowKit
set_option linter.unusedVariables false
set_option linter.unusedSimpArgs false
theorem root5 {p n : Int} (hk : knownS p = true) (h1 : 1 ≤ n) (h2 : n ≤ 8192) (h : (rootS p n).2 ≠ 0) : (rootS p n).2 = 5 := by
  unfold rootS at h ⊢
  have hr : readyS p n = 0 := by rw [readyS, if_pos hk, if_pos ⟨h1, h2⟩]
  rw [if_pos hr] at h ⊢
  split at h
  · exact absurd rfl h
  · rename_i h3; rw [if_neg h3]
theorem root_low {p n : Int} (hk : knownS p = true) (h : n = 1 ∨ n = 2) : (rootS p n).2 = 0 := by
  unfold rootS
  rcases h with rfl | rfl
  · rw [if_pos (by rw [readyS, if_pos hk, if_pos ⟨by decide, by decide⟩]), if_pos (by omega)]
  · rw [if_pos (by rw [readyS, if_pos hk, if_pos ⟨by decide, by decide⟩]), if_pos (by rcases knownS_cases hk with rfl | rfl | rfl <;> decide)]
/-- An axis that is as long as all words are many is the transform of a line. -/
theorem ax_line {p : Int} {l : List Int} {a : Nat} {neg inv : Bool} {x : List Int} (hI : prodL (l.drop (a + 1)) = 1) (hN : l.getD a 1 = x.length) : axL p l a neg inv x = trL p neg inv x := by
  have hs : ∀ v c : Int, 0 ≤ v → v < x.length → sv l a v c = c := fun v c v0 v1 => by
    unfold sv kOf vOf
    simp only [hI, hN, Int.ediv_one, Int.emod_one, Int.mul_one, Int.add_zero, Int.ediv_eq_zero_of_lt v0 v1, Int.zero_mul, Int.zero_add]
  have hx : ∀ v : Int, 0 ≤ v → v < x.length → xv l a v = v := fun v v0 v1 => by
    show xOf _ _ _ = _
    unfold xOf
    rw [hI, hN, Int.ediv_one, Int.emod_eq_of_lt v0 v1]
  unfold axL trL
  apply List.map_congr_left
  intro v hv
  have hv := List.mem_range.1 hv
  unfold axF
  rw [hx v (by omega) (by omega), Int.toNat_natCast]
  congr 1
  apply List.ext_getElem
  · rw [rowP_length, hN, Int.toNat_natCast]
  · intro c h1 h2
    have e := rowP_at l a x (v : Int) (c := c) (by rw [rowP_length] at h1; exact h1)
    rw [List.getD_eq_getElem?_getD, List.getElem?_eq_getElem h1] at e
    refine (show (rowP l a x v)[c] = _ from e).trans ?_
    rw [hs v c (by omega) (by omega), Int.toNat_natCast, List.getD_eq_getElem?_getD, List.getElem?_eq_getElem h2]; rfl
/-- An axis of length 1 changes nothing. -/
theorem AxAt.thin {p : Int} {l : List Int} {a : Nat} {neg : Bool} (h : AxAt l a) (inv : Bool) {x : List Int} (hD : l.getD a 1 = 1) (hc : Chk6 p 1 neg) (hl : prodL l = x.length) (hi : inS p x = true) (hu : ∀ d ∈ x, U64 d) : axL p l a neg inv x = x := by
  have h1 : redS p 1 = 1 := one_red hc.known
  obtain ⟨_, _, _, _, hL⟩ := hc.lk
  have hw : redS p (axW p l a neg inv 0 0) = redS p 1 := by
    unfold axW
    rw [hD, show (1 : Int).toNat = 1 from rfl]
    unfold wgt
    cases inv with
    | false =>
      simp only [Bool.false_eq_true, if_false]
      rw [show stp neg 0 0 = 0 by unfold stp; split <;> simp, Int.pow_zero]
    | true =>
      simp only [if_true]
      rw [show stp neg 0 0 = 0 by unfold stp; split <;> simp, Int.pow_zero]
      have h2 := hL.nl
      rw [h1]
      simpa using h2
  apply List.ext_getElem
  · rw [axL_length]
  · intro v h2 h3
    have e := axL_at p l a neg inv x h3 0
    rw [List.getD_eq_getElem?_getD, List.getElem?_eq_getElem h2] at e
    refine (show (axL p l a neg inv x)[v] = _ from e).trans ?_
    have hxv := h.xv (v : Int)
    rw [hD] at hxv
    have e0 : P.xv l a (v : Int) = 0 := by omega
    have es := h.sv_xv (v : Int)
    rw [e0] at es
    rw [axF_is, hD, e0, show (1 : Int).toNat = 1 from rfl, show (0 : Int).toNat = 0 from rfl]
    have e1 : S 1 (fun c => x.getD (sv l a v c).toNat 0 * axW p l a neg inv c 0) = x[v] * axW p l a neg inv 0 0 := by
      simp only [S]
      rw [show ((0 : Nat) : Int) = 0 from rfl, es, Int.toNat_natCast, List.getD_eq_getElem?_getD, List.getElem?_eq_getElem h3]
      simp
    rw [e1, red_mul rfl hw, Int.mul_one]
    have h4 := in_at hi hu h3
    rw [List.getD_eq_getElem?_getD, List.getElem?_eq_getElem h3] at h4
    exact redS_small hc.known h4.1 h4.2
theorem wrd_line {p : Int} {ax : List (Int × Bool)} {x : List Int} {neg : Bool} (hD : Dims (dimsA ax)) (hP : prodL (dimsA ax) = x.length) (h1 : (∀ a ∈ ax, smoothS a.1 = true) ↔ smoothS x.length = true)
    (h2 : knownS p = true → ((∀ a ∈ ax, (rootS p (ordA a)).2 = 0) ↔ (rootS p (ordS x.length neg)).2 = 0)) (n1 : 1 ≤ x.length) (n2 : x.length ≤ 4096) : wrd7 p ax x = chk6 p x neg := by
  unfold wrd7 chk7 chk6
  by_cases hk : knownS p = true
  case neg => simp [hk]
  rw [if_pos hk, if_pos hk, if_pos hD]
  by_cases hs : smoothS x.length = true
  case neg => rw [if_neg hs, if_neg (fun h => hs (h1.1 h))]; simp
  rw [if_pos hs, if_pos (h1.2 hs)]
  by_cases hr : (rootS p (ordS x.length neg)).2 = 0
  case neg =>
    have h5 := root5 hk (show 1 ≤ ordS x.length neg by unfold ordS; split <;> omega) (by unfold ordS; split <;> omega) hr
    rw [if_neg hr, if_neg (fun h => hr ((h2 hk).1 h)), h5]; simp
  rw [if_pos hr, if_pos ((h2 hk).2 hr), if_pos rfl, if_pos hP]
theorem one_short {p : Int} {neg inv : Bool} {x : List Int} (n1 : 1 ≤ x.length) (n2 : x.length ≤ 24) : grS p [((x.length : Int), neg)] inv x = trS p neg inv x := by
  have hw : wrd7 p [((x.length : Int), neg)] x = chk6 p x neg := by
    refine wrd_line (neg := neg) ⟨by simp [dimsA], by simp [dimsA], ?_, ?_⟩ ?_ ?_ (fun _ => ?_) n1 (by omega)
    · intro d hd; simp [dimsA] at hd; omega
    · simp [dimsA, prodL]; omega
    · simp [dimsA, prodL]
    · simp
    · simp [ordA, ordS]
  unfold grS trS
  rw [hw]
  split
  · congr 1
    show axL p [(x.length : Int)] 0 neg inv x = _
    exact ax_line (by simp [prodL]) (by simp)
  · rfl
theorem one_long {p : Int} {neg other inv : Bool} {x : List Int} (hu : ∀ d ∈ x, U64 d) (n1 : 1 ≤ x.length) (n2 : x.length ≤ 24) : grS p [(1, other), ((x.length : Int), neg), (1, false)] inv x = trS p neg inv x := by
  have hs1 : smoothS 1 = true := by decide +kernel
  have hw : wrd7 p [(1, other), ((x.length : Int), neg), (1, false)] x = chk6 p x neg := by
    refine wrd_line (neg := neg) ⟨by simp [dimsA], by simp [dimsA], ?_, ?_⟩ ?_ ?_ (fun hk => ?_) n1 (by omega)
    · intro d hd; simp [dimsA] at hd; omega
    · simp [dimsA, prodL]; omega
    · simp [dimsA, prodL]
    · simp [hs1]
    · have e1 : (rootS p (ordA (1, other))).2 = 0 := root_low hk (by cases other <;> simp [ordA])
      have e2 : (rootS p (ordA (1, false))).2 = 0 := root_low hk (by simp [ordA])
      have e3 : ordA ((x.length : Int), neg) = ordS x.length neg := rfl
      simp [e1, e2, e3]
  unfold grS trS
  rw [hw]
  split
  · rename_i hc
    have hc7 := (wrd7_ok (hw.trans hc)).1
    have hi := (chk6_ok hc).2
    rw [Prod.mk.injEq]
    refine ⟨?_, rfl⟩
    have hd : dimsA [(1, other), ((x.length : Int), neg), (1, false)] = [1, (x.length : Int), 1] := rfl
    have hP : prodL [1, (x.length : Int), 1] = x.length := by simp [prodL]
    have g0 := hc7.at (k := 0) (by simp)
    have g2 := hc7.at (k := 2) (by simp)
    rw [hd] at g0 g2
    have b0 : axL p [1, (x.length : Int), 1] 0 other inv x = x := g0.1.thin inv rfl g0.2 hP hi hu
    have b1 : axL p [1, (x.length : Int), 1] 1 neg inv x = trL p neg inv x := ax_line (by simp [prodL]) (by simp)
    have b2 : axL p [1, (x.length : Int), 1] 2 false inv (trL p neg inv x) = trL p neg inv x := g2.1.thin inv rfl g2.2 (by rw [trL_length]; exact hP) (trL_in hc7.known _ _ _) (trL_u64 _ _ _ _)
    have k0 : (([(1, other), ((x.length : Int), neg), (1, false)] : List (Int × Bool)).getD 0 (1, false)).2 = other := rfl
    have k1 : (([(1, other), ((x.length : Int), neg), (1, false)] : List (Int × Bool)).getD 1 (1, false)).2 = neg := rfl
    have k2 : (([(1, other), ((x.length : Int), neg), (1, false)] : List (Int × Bool)).getD 2 (1, false)).2 = false := rfl
    have k3 : ([(1, other), ((x.length : Int), neg), (1, false)] : List (Int × Bool)).length = 3 := rfl
    clear hw hc7 g0 g2
    generalize ([(1, other), ((x.length : Int), neg), (1, false)] : List (Int × Bool)) = ax at *
    rw [k3]
    unfold grN grN grN grN
    rw [k0, k1, k2, hd, b0, b1, b2]
  · rfl
theorem one_none (p : Int) (neg other inv : Bool) : ∃ e f, grS p [(0, neg)] inv [] = ([], e) ∧ grS p [(1, other), (0, neg), (1, false)] inv [] = ([], e) ∧ trS p neg inv [] = ([], f) ∧ (f != 0) = true ∧ ((e == 3) = true ∨ ((e == 3) = false ∧ (e == 2) = true)) := by
  have hs : smoothS 0 = false := by decide +kernel
  have d1 : ¬ Dims (dimsA [(0, neg)]) := fun h => absurd (h.pos 0 (by simp [dimsA])) (by decide)
  have d2 : ¬ Dims (dimsA [(1, other), (0, neg), (1, false)]) := fun h => absurd (h.pos 0 (by simp [dimsA])) (by decide)
  by_cases hk : knownS p = true
  · refine ⟨3, 4, ?_, ?_, ?_, by decide, by decide⟩
    · have e : wrd7 p [(0, neg)] [] = 3 := by rw [wrd7, chk7, if_pos hk, if_neg d1, if_neg (by decide)]
      rw [grS, e]; rfl
    · have e : wrd7 p [(1, other), (0, neg), (1, false)] [] = 3 := by rw [wrd7, chk7, if_pos hk, if_neg d2, if_neg (by decide)]
      rw [grS, e]; rfl
    · have e : chk6 p [] neg = 4 := by rw [chk6, if_pos hk, if_neg (by simp [hs])]
      rw [trS, e]; rfl
  · refine ⟨2, 2, ?_, ?_, ?_, by decide, by decide⟩
    · have e : wrd7 p [(0, neg)] [] = 2 := by rw [wrd7, chk7, if_neg hk, if_neg (by decide)]
      rw [grS, e]; rfl
    · have e : wrd7 p [(1, other), (0, neg), (1, false)] [] = 2 := by rw [wrd7, chk7, if_neg hk, if_neg (by decide)]
      rw [grS, e]; rfl
    · have e : chk6 p [] neg = 2 := by rw [chk6, if_neg hk]
      rw [trS, e]; rfl
end Go.Proofs.YtnlmmgcjhedjkaaDoor.P
