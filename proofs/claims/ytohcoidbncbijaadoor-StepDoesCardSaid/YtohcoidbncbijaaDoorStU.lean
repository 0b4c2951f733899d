
/- Steps plainly: a factor and the one of the way back; twisted and back; sums go through; words that come of a step may be. Under no condition beside those of each lemma. -/
import Derived.Test.YtohcoidbncbijaaDoorStpB
namespace Go.Proofs.YtohcoidbncbijaaDoor.P
open Go.RowKit
set_option linter.unusedVariables false
theorem rt_ab {p n : Int} (h : (rootS p n).2 = 0) (k : Nat) : redS p (rtS p n false ^ k * rtS p n true ^ k) = 1 := by
  obtain ⟨N, rfl, hT, _⟩ := turnS_turn false h
  exact hT.abk k
theorem tw_undo {p : Int} {N : Nat} {neg : Bool} (h6 : Chk6 p N neg) (j : Nat) : redS p (twF p N neg false j * twF p N neg true j * (N : Int)) = 1 := by
  obtain ⟨a, a', c, d, hL⟩ := h6.lk
  have hnl := hL.nl
  have h1 : redS p 1 = 1 := one_red h6.known
  have hw : redS p ((if neg then rtS p ((N : Int) * 2) false else 1) ^ j * (if neg then rtS p ((N : Int) * 2) true else 1) ^ j) = 1 := by
    cases neg with
    | false => simp only [Bool.false_eq_true, if_false, Int.one_pow, Int.one_mul]; exact h1
    | true =>
      simp only [if_true]
      have hr := h6.root
      unfold ordS at hr
      rw [if_pos rfl] at hr
      rw [Int.mul_comm] at hr
      first | exact rt_ab hr j | (rw [Int.mul_comm] at hr; exact rt_ab hr j)
  unfold twF
  simp only [Bool.false_eq_true, if_false, if_true]
  generalize (if neg then rtS p ((N : Int) * 2) false else 1) = w at *
  generalize (if neg then rtS p ((N : Int) * 2) true else 1) = w' at *
  have e : redS p (powS p w j * mulS p (powS p w' j) (invS p (N : Int)).1 * (N : Int)) = redS p ((w ^ j * w' ^ j) * ((N : Int) * (invS p (N : Int)).1)) := by
    rw [show (w ^ j * w' ^ j) * ((N : Int) * (invS p (N : Int)).1) = w ^ j * (w' ^ j * (invS p (N : Int)).1) * (N : Int) by ac_rfl]
    unfold mulS powS
    exact red_mul (red_mul (redS_redS _ _) (by rw [redS_redS, redS_mul_left])) rfl
  rw [e]
  have h2 : redS p ((w ^ j * w' ^ j) * ((N : Int) * (invS p (N : Int)).1)) = redS p (1 * 1) := red_mul (by rw [hw, h1]) (by rw [hnl, h1])
  rw [h2, Int.one_mul, h1]
theorem tg_undo {p : Int} {N : Nat} {neg : Bool} (h6 : Chk6 p N neg) {R L M : Nat} (hS : StageK N R L M) (a u : Nat) : redS p (tgF p R M false a u * tgF p R M true a u) = 1 := by
  have h1 := h6.root1
  have e : N = (R * M) * L := by rw [← hS.all, Nat.mul_comm L, Nat.mul_comm M]
  rw [e] at h1
  have g1 := (rootS_part h1).1
  have hc : (((R * M : Nat)) : Int) = (R : Int) * (M : Int) := by push_cast; rfl
  rw [hc] at g1
  have hr : (rootS p ((R : Int) * (M : Int))).2 = 0 := by rw [g1]
  have h2 := rt_ab hr (a * u)
  unfold tgF
  rw [← powS_mul, ← powS_mul]
  unfold powS
  rw [redS_mul_left, redS_mul_right]
  exact h2
/-- What undoes a step's factors. -/
def undoN (N : Nat) (t : Bool) : Int := if t then (N : Int) else 1
theorem tab_len_eq (p : Int) (N : Nat) (neg : Bool) (s : Stp) : (tabL p N neg false s).length = (tabL p N neg true s).length := by
  unfold tabL; split <;> simp
theorem tab_undo {p : Int} {ax : List (Int × Bool)} {s : Stp} {k N : Nat} {neg : Bool} (hK : StepK p ax s k N neg) {i : Nat} (hi : i < (tabL p N neg false s).length) :
    mulS p (mulS p ((tabL p N neg false s).getD i 0) ((tabL p N neg true s).getD i 0)) (undoN N s.2.1) = 1 := by
  have h1 : redS p 1 = 1 := one_red hK.c6.known
  rcases hK.kind with ⟨ht, _⟩ | ⟨ht, hz⟩
  · unfold tabL undoN
    unfold tabL at hi
    rw [if_pos ht] at hi ⊢
    rw [if_pos ht, if_pos ht]
    have hi2 : i < N := by simpa using hi
    rw [List.getD_eq_getElem?_getD, List.getElem?_map, List.getElem?_range hi2, List.getD_eq_getElem?_getD, List.getElem?_map, List.getElem?_range hi2]
    simp only [Option.map_some, Option.getD_some]
    unfold mulS
    rw [redS_mul_left]
    exact tw_undo hK.c6 i
  · obtain ⟨R, L, M, hs, hS⟩ := stg_mem hK.c6.smooth hz
    unfold tabL undoN
    unfold tabL at hi
    rw [if_neg (by rw [ht]; decide)] at hi ⊢
    rw [if_neg (by rw [ht]; decide), if_neg (by rw [ht]; decide), hs]
    rw [hs] at hi
    dsimp only at hi ⊢
    rw [Int.toNat_natCast, Int.toNat_natCast] at hi
    rw [Int.toNat_natCast, Int.toNat_natCast]
    have hi2 : i < M * R := by simpa using hi
    rw [List.getD_eq_getElem?_getD, List.getElem?_map, List.getElem?_range hi2, List.getD_eq_getElem?_getD, List.getElem?_map, List.getElem?_range hi2]
    simp only [Option.map_some, Option.getD_some]
    unfold mulS
    rw [redS_mul_left, Int.mul_one]
    exact tg_undo hK.c6 hS _ _
/-- A stage's factors are powers. -/
theorem tab_pow {p : Int} {N R L M : Nat} {neg : Bool} (hS : StageK N R L M) (h4 : N ≤ 4096) (s0 : Int) {i : Nat} (hi : i < M * R) :
    (tabL p N neg false (s0, false, (R : Int), (L : Int), (M : Int))).getD i 0 = powS p ((tabL p N neg false (s0, false, (R : Int), (L : Int), (M : Int))).getD (i / R * R + 1) 0) (i % R) := by
  rw [tabL_stage p N neg false s0 hS]
  have hR := hS.r2
  have h1 : i / R < M := by rw [Nat.div_lt_iff_lt_mul (by omega)]; exact hi
  have h2 : i % R < R := Nat.mod_lt _ (by omega)
  have e : i = i / R * R + i % R := by rw [Nat.mul_comm]; exact (Nat.div_add_mod i R).symm
  conv => lhs; rw [e]
  rw [tabR_at _ _ h1 h2, tabR_at _ _ h1 (by omega : 1 < R), Nat.mul_one, powS_mul]
theorem twist_at {l : List Int} {k N : Nat} (hA : AxAt l k) (hD : l.getD k 1 = (N : Int)) (p : Int) (inv neg : Bool) (s0 s2 s3 s4 : Int) {x : List Int} {v : Nat} (hv : v < x.length) :
    (linA p l k (stepM p N neg inv (s0, true, s2, s3, s4)) x).getD v 0 = mulS p (x.getD v 0) (twF p N neg inv (P.xv l k v).toNat) := by
  have hxv := hA.xv (v : Int)
  have hD2 : (l.getD k 1).toNat = N := by rw [hD, Int.toNat_natCast]
  have ht : (P.xv l k (v : Int)).toNat < N := by omega
  rw [linA_at _ _ _ _ _ hv, hD2, S_one (k := (P.xv l k (v : Int)).toNat) ht]
  · unfold stepM mulS
    dsimp only
    rw [if_pos rfl, if_pos rfl, Int.toNat_of_nonneg hxv.1, hA.sv_xv, Int.toNat_natCast]
  · intro i hi hne
    unfold stepM
    dsimp only
    rw [if_pos rfl, if_neg hne, Int.mul_zero]
theorem stepDo_is {p : Int} {ax : List (Int × Bool)} {s : Stp} {k N : Nat} {neg : Bool} (hK : StepK p ax s k N neg) (inv : Bool) (x : List Int) : stepDo p ax inv s x = linA p (dimsA ax) k (stepM p N neg inv s) x := by
  unfold stepDo
  rw [hK.axis, Int.toNat_natCast, hK.get, hK.dim, Int.toNat_natCast]
theorem stepDo_u64 (p : Int) (ax : List (Int × Bool)) (inv : Bool) (s : Stp) (x : List Int) : ∀ d ∈ stepDo p ax inv s x, U64 d := by unfold stepDo; exact linA_u64 _ _ _ _ _
theorem stepDo_in {p : Int} (hk : knownS p = true) (ax : List (Int × Bool)) (inv : Bool) (s : Stp) (x : List Int) : inS p (stepDo p ax inv s x) = true := by unfold stepDo; exact linA_in hk _ _ _ _
/-- Words that may be done by a step; what comes of them may be, too. -/
structure WrdK (p : Int) (ax : List (Int × Bool)) (s : Stp) (x : List Int) : Prop where
  chk : chk16 p ax s = 0
  all : prodL (dimsA ax) = x.length
  inn : inS p x = true
theorem wrd16_ok {p : Int} {ax : List (Int × Bool)} {s : Stp} {x : List Int} (h : wrd16 p ax s x = 0) : WrdK p ax s x := by
  have hc : chk16 p ax s = 0 := by
    unfold wrd16 at h
    split at h
    · assumption
    · exact h
  rw [wrd16, if_pos hc] at h
  have hp : prodL (dimsA ax) = x.length := by
    split at h
    · assumption
    · cases h
  rw [if_pos hp] at h
  refine ⟨hc, hp, ?_⟩
  split at h
  · assumption
  · cases h
theorem WrdK.ok {p : Int} {ax : List (Int × Bool)} {s : Stp} {x : List Int} (h : WrdK p ax s x) : wrd16 p ax s x = 0 := by
  rw [wrd16, if_pos h.chk, if_pos h.all, if_pos h.inn]
theorem WrdK.do {p : Int} {ax : List (Int × Bool)} {s : Stp} {x : List Int} (h : WrdK p ax s x) (inv : Bool) : doS16 p ax inv s x = (stepDo p ax inv s x, 0) := by
  rw [doS16, if_pos h.ok]
theorem WrdK.known {p : Int} {ax : List (Int × Bool)} {s : Stp} {x : List Int} (h : WrdK p ax s x) : knownS p = true := by
  obtain ⟨k, N, neg, hK⟩ := chk16_ok h.chk
  exact hK.chk.known
theorem WrdK.next {p : Int} {ax : List (Int × Bool)} {s : Stp} {x : List Int} (h : WrdK p ax s x) (inv : Bool) : WrdK p ax s (stepDo p ax inv s x) :=
  ⟨h.chk, by rw [stepDo_length]; exact h.all, stepDo_in h.known ..⟩
/-- Twisted, and twisted back. -/
theorem twist_back {p : Int} {ax : List (Int × Bool)} {s0 s2 s3 s4 : Int} {k N : Nat} {neg : Bool} (hK : StepK p ax (s0, true, s2, s3, s4) k N neg) {x : List Int} (hx : prodL (dimsA ax) = x.length) (hi : inS p x = true) (hu : ∀ d ∈ x, U64 d) {v : Nat} (hv : v < x.length) :
    mulS p ((stepDo p ax true (s0, true, s2, s3, s4) (stepDo p ax false (s0, true, s2, s3, s4) x)).getD v 0) (N : Int) = x.getD v 0 := by
  have hA := (hK.chk.at hK.lt).1
  have h1 : redS p 1 = 1 := one_red hK.c6.known
  rw [stepDo_is hK, stepDo_is hK, twist_at hA hK.dim _ _ _ _ _ _ _ (by rw [linA_length]; exact hv), twist_at hA hK.dim _ _ _ _ _ _ _ hv]
  generalize (P.xv (dimsA ax) k (v : Int)).toNat = j
  have hud := tw_undo hK.c6 j
  have h3 := in_at hi hu hv
  generalize x.getD v 0 = a at *
  unfold mulS
  have e : redS p (redS p (redS p (a * twF p N neg false j) * twF p N neg true j) * (N : Int)) = redS p (a * (twF p N neg false j * twF p N neg true j * (N : Int))) := by
    rw [redS_mul_left, show a * (twF p N neg false j * twF p N neg true j * (N : Int)) = a * twF p N neg false j * twF p N neg true j * (N : Int) by ac_rfl]
    exact red_mul (red_mul (redS_redS _ _) rfl) rfl
  rw [e]
  have e2 : redS p (a * (twF p N neg false j * twF p N neg true j * (N : Int))) = redS p (a * 1) := red_mul rfl (by rw [hud, h1])
  rw [e2, Int.mul_one]
  exact redS_small hK.c6.known h3.1 h3.2
theorem twist_same {p : Int} {ax : List (Int × Bool)} {s0 s2 s3 s4 : Int} {k N : Nat} (hK : StepK p ax (s0, true, s2, s3, s4) k N false) {x : List Int} (hi : inS p x = true) (hu : ∀ d ∈ x, U64 d) :
    stepDo p ax false (s0, true, s2, s3, s4) x = x := by
  have hA := (hK.chk.at hK.lt).1
  have h1 : redS p 1 = 1 := one_red hK.c6.known
  refine list_ext_getD (stepDo_length ..) fun v hv => ?_
  rw [stepDo_length] at hv
  rw [stepDo_is hK, twist_at hA hK.dim _ _ _ _ _ _ _ hv]
  have h3 := in_at hi hu hv
  unfold twF mulS powS
  simp only [Bool.false_eq_true, if_false, Int.one_pow]
  rw [h1, Int.mul_one]
  exact redS_small hK.c6.known h3.1 h3.2
/-- Sums go through. -/
theorem linA_sum (p : Int) (l : List Int) (N : Nat) (M : Nat → Nat → Int) (c : Int) {x y z : List Int} (hy : y.length = x.length) (hz : z.length = x.length) (h : ∀ v, v < x.length → z.getD v 0 = addS p (mulS p c (x.getD v 0)) (y.getD v 0)) {v : Nat} (hv : v < x.length)
    (hs : ∀ e : Nat, e < (l.getD N 1).toNat → (sv l N v e).toNat < x.length) :
    (linA p l N M z).getD v 0 = addS p (mulS p c ((linA p l N M x).getD v 0)) ((linA p l N M y).getD v 0) := by
  rw [linA_at _ _ _ _ _ (by rw [hz]; exact hv), linA_at _ _ _ _ _ hv, linA_at _ _ _ _ _ (by rw [hy]; exact hv)]
  unfold addS mulS
  rw [redS_add_right, redS_add_left, ← redS_add_left, redS_mul_right, redS_add_left, ← S_mul, ← S_add]
  refine red_S fun e he => ?_
  rw [h _ (hs e he)]
  unfold addS mulS
  rw [redS_mul_left, Int.add_mul, ← redS_add_left, redS_mul_left, redS_add_left, Int.mul_assoc]
theorem step_sum {p : Int} {ax : List (Int × Bool)} {s : Stp} {k N : Nat} {neg : Bool} (hK : StepK p ax s k N neg) (inv : Bool) (c : Int) {x y z : List Int} (hx : prodL (dimsA ax) = x.length) (hy : y.length = x.length) (hz : z.length = x.length)
    (h : ∀ v, v < x.length → z.getD v 0 = addS p (mulS p c (x.getD v 0)) (y.getD v 0)) {v : Nat} (hv : v < x.length) :
    (stepDo p ax inv s z).getD v 0 = addS p (mulS p c ((stepDo p ax inv s x).getD v 0)) ((stepDo p ax inv s y).getD v 0) := by
  have hA := (hK.chk.at hK.lt).1
  rw [stepDo_is hK, stepDo_is hK, stepDo_is hK]
  exact linA_sum p _ _ _ c hy hz h hv fun e he => (hA.sv_at hx hv he).1
end Go.Proofs.YtohcoidbncbijaaDoor.P
