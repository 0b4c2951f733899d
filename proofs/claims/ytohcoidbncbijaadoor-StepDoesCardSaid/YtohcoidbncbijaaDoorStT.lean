
/- The factors of a step, plainly: what base tells of a step that may be; the table. Under no condition beside those of each lemma. -/
import Derived.Test.YtohcoidbncbijaaDoorStB
namespace Go.Proofs.YtohcoidbncbijaaDoor.P
open Go.RowKit
set_option linter.unusedVariables false
/-- A step that may be: of an axis of so many words; a twist, or one of its stages. -/
structure StepK (p : Int) (ax : List (Int × Bool)) (s : Stp) (k N : Nat) (neg : Bool) : Prop where
  axis : s.1 = (k : Int)
  lt : k < ax.length
  chk : Chk7 p ax
  get : ax.getD k (1, false) = ((N : Int), neg)
  dim : (dimsA ax).getD k 1 = (N : Int)
  c6 : Chk6 p N neg
  kind : (s.2.1 = true ∧ s.2.2 = (0, 0, 0)) ∨ (s.2.1 = false ∧ s.2.2 ∈ (stgS (N : Int)).1)
theorem chk16_ok {p : Int} {ax : List (Int × Bool)} {s : Stp} (h : chk16 p ax s = 0) : ∃ k N neg, StepK p ax s k N neg := by
  unfold chk16 at h
  by_cases hc : chk7 p ax = 0
  · rw [if_pos hc] at h
    by_cases hin : 0 ≤ s.1 ∧ s.1 < ax.length
    · rw [if_pos hin] at h
      obtain ⟨h0, h1⟩ := hin
      obtain ⟨k, hk⟩ := Int.eq_ofNat_of_zero_le h0
      have hlt : k < ax.length := by omega
      have hC := chk7_ok hc
      obtain ⟨hA, h6⟩ := hC.at hlt
      have hd := dimsA_at ax hlt 1
      obtain ⟨N, hN⟩ := Int.eq_ofNat_of_zero_le (show 0 ≤ (dimsA ax).getD k 1 by have := hA.D1; omega)
      have hge : ax.getD k (1, false) = ((N : Int), (ax.getD k (1, false)).2) := Prod.ext (by rw [← hd, hN]) rfl
      rw [hN, Int.toNat_natCast] at h6
      refine ⟨k, N, (ax.getD k (1, false)).2, hk, hlt, hC, hge, hN, h6, ?_⟩
      rw [hk, Int.toNat_natCast] at h
      cases ht : s.2.1
      · rw [ht, if_neg (by decide)] at h
        by_cases hm : s.2.2 ∈ (stgS (ax.getD k (1, false)).1).1
        · rw [hge] at hm
          exact .inr ⟨rfl, hm⟩
        · rw [if_neg hm] at h; cases h
      · rw [ht, if_pos rfl] at h
        by_cases hm : s.2.2 = (0, 0, 0)
        · exact .inl ⟨rfl, hm⟩
        · rw [if_neg hm] at h; cases h
    · rw [if_neg hin] at h; cases h
  · rw [if_neg hc] at h; exact absurd h hc
/-- A stage of an axis of N words. -/
structure StageK (N r l m : Nat) : Prop where
  r2 : 2 ≤ r
  r5 : r ≤ 5
  l1 : 1 ≤ l
  m1 : 1 ≤ m
  all : l * (m * r) = N
  rm : r * m ≤ N
theorem stg_mem {N : Nat} (hs : smoothS (N : Int) = true) {t : Int × Int × Int} (h : t ∈ (stgS (N : Int)).1) : ∃ r l m : Nat, t = ((r : Int), (l : Int), (m : Int)) ∧ StageK N r l m := by
  have h1 : (facS (N : Int)).2 = 0 := by unfold smoothS at hs; exact beq_iff_eq.1 hs
  have hf := (facS_ok h1).1
  rw [stgS_ok h1] at h
  simp only [stgL, List.mem_map, List.mem_range] at h
  obtain ⟨i, hi, rfl⟩ := h
  have hk := hf.stage hi
  obtain ⟨r, hr⟩ := Int.eq_ofNat_of_zero_le (show 0 ≤ (facS (N : Int)).1[i] by have := hk.r2; omega)
  obtain ⟨l, hl⟩ := Int.eq_ofNat_of_zero_le (show 0 ≤ prodL ((facS (N : Int)).1.take i) by have := hk.P1; omega)
  obtain ⟨m, hm⟩ := Int.eq_ofNat_of_zero_le (show 0 ≤ prodL ((facS (N : Int)).1.drop (i + 1)) by have := hk.Q1; omega)
  rw [hr, hl, hm] at hk
  have e1 : l * r * m = N := by have := hk.all; exact_mod_cast this
  have e2 : r * m ≤ N := by have := hk.rQ; exact_mod_cast this
  exact ⟨r, l, m, hk.stg, by have := hk.r2; omega, by have := hk.r5; omega, by have := hk.P1; omega, by have := hk.Q1; omega, by rw [← e1, Nat.mul_comm m r, Nat.mul_assoc], e2⟩
theorem base_stage {p : Int} {N : Nat} {neg : Bool} (h6 : Chk6 p N neg) {r l m : Nat} (hs : StageK N r l m) (inv : Bool) :
    baseS p (N : Int) neg inv false ((r : Int) * (m : Int)) = (rtS p ((r : Int) * (m : Int)) inv, 0) := by
  have h1 := h6.root1
  have e : N = (r * m) * l := by rw [← hs.all, Nat.mul_comm l, Nat.mul_comm m]
  rw [e] at h1
  obtain ⟨g1, g2⟩ := rootS_part h1
  have hc : (((r * m : Nat)) : Int) = (r : Int) * (m : Int) := by push_cast; rfl
  rw [hc] at g1 g2
  unfold baseS rtS
  rw [if_neg (by simp)]
  cases inv
  · simp only [Bool.false_eq_true, if_false]; rw [g1]
  · simp only [Bool.false_eq_true, if_false, if_true]; rw [g2]
theorem base_twist {p : Int} {N : Nat} {neg : Bool} (h6 : Chk6 p N neg) (inv : Bool) (rm : Int) :
    baseS p (N : Int) neg inv true rm = ((if neg then rtS p ((N : Int) * 2) inv else 1), 0) := by
  unfold baseS rtS
  cases neg
  · simp
  · have h1 := h6.root
    unfold ordS at h1
    simp only [if_true] at h1
    have hb := backS_ok0 h1
    rw [Int.mul_comm 2 (N : Int)]
    cases inv
    · simp only [Bool.not_true, Bool.and_false, Bool.false_eq_true, if_false, if_true]
      exact Prod.ext rfl h1
    · simp only [Bool.not_true, Bool.and_false, Bool.false_eq_true, if_false, if_true]
      exact Prod.ext rfl hb
/-- The table of a step of an axis. -/
def tabL (p : Int) (N : Nat) (neg inv : Bool) (s : Stp) : List Int :=
  if s.2.1 then (List.range N).map (twF p N neg inv) else (List.range (s.2.2.2.2.toNat * s.2.2.1.toNat)).map fun i => tgF p s.2.2.1 s.2.2.2.2 inv (i / s.2.2.1.toNat) (i % s.2.2.1.toNat)
def tabS (p : Int) (ax : List (Int × Bool)) (inv : Bool) (s : Stp) : List Int × Int :=
  if chk16 p ax s = 0 then (tabL p ((dimsA ax).getD s.1.toNat 1).toNat (ax.getD s.1.toNat (1, false)).2 inv s, 0) else ([], chk16 p ax s)
/-- Rows of a stage's table, one behind the other. -/
def tabR (p W : Int) (r a : Nat) : List Int := (List.range (a * r)).map fun i => powS p (powS p W (i / r)) (i % r)
theorem tabR_zero (p W : Int) (r : Nat) : tabR p W r 0 = [] := by unfold tabR; rw [Nat.zero_mul]; rfl
theorem tabR_length (p W : Int) (r a : Nat) : (tabR p W r a).length = a * r := by simp [tabR]
theorem tabR_succ (p W : Int) {r : Nat} (hr : 0 < r) (a : Nat) : tabR p W r (a + 1) = tabR p W r a ++ (List.range r).map (powS p (powS p W a)) := by
  unfold tabR
  rw [Nat.succ_mul, List.range_add, List.map_append, List.map_map]
  congr 1
  apply List.map_congr_left
  intro u hu
  have hu2 := List.mem_range.1 hu
  simp only [Function.comp]
  rw [Nat.add_comm, Nat.add_mul_div_right _ _ hr, Nat.div_eq_of_lt hu2, Nat.zero_add, Nat.add_mul_mod_self_right, Nat.mod_eq_of_lt hu2]
theorem tabL_stage (p : Int) (N : Nat) (neg inv : Bool) (s0 : Int) {r l m : Nat} (hs : StageK N r l m) :
    tabL p N neg inv (s0, false, (r : Int), (l : Int), (m : Int)) = tabR p (rtS p ((r : Int) * (m : Int)) inv) r m := by
  unfold tabL tabR tgF
  dsimp only
  rw [if_neg (by decide), Int.toNat_natCast, Int.toNat_natCast]
theorem tabL_twist (p : Int) (N : Nat) (neg inv : Bool) (s0 s2 s3 s4 : Int) : tabL p N neg inv (s0, true, s2, s3, s4) = (List.range N).map (twF p N neg inv) := by
  unfold tabL; dsimp only; rw [if_pos rfl]
end Go.Proofs.YtohcoidbncbijaaDoor.P
