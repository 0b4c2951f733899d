
/- Weights of words, whether words are a transform, and how many seeds are fooled, plainly. Under no condition beside those of each lemma. -/
import Derived.Test.YtnlmmgcjhedjkaaDoorSeedP
import Derived.Test.YtnlmmgcjhedjkaaDoorRefB
namespace Go.Proofs.YtnlmmgcjhedjkaaDoor.P
set_option linter.unusedVariables false
def wgD (p : Int) (D : Nat) (neg inv : Bool) (z : Int) (c : Nat) : Int :=
  redS p (S D (fun o => wgt (rootS p (ordS D neg)).1 (backS p (ordS D neg)).1 (invS p D).1 neg inv c o * z ^ o))
theorem wghF_wgD (p : Int) (l : List Int) (N : Nat) (neg inv : Bool) (z : Int) (c : Nat) : wghF p l N neg inv z c = wgD p (l.getD N 1).toNat neg inv z c := rfl
def stepS (neg inv : Bool) (i : Nat) : Nat := if neg then (if inv then 2 * i + 1 else 2 * i) else i
def frontS (neg inv : Bool) (i : Nat) : Nat := if neg && !inv then i else 0
def whW (p : Int) (D : Nat) (neg inv : Bool) : Int := if inv then (backS p (ordS D neg)).1 else (rootS p (ordS D neg)).1
def wghV (p : Int) (D : Nat) (neg inv : Bool) (i : Nat) (z : Int) : Int :=
  if inv then mulS p (mulS p (geoS p (mulS p (powS p (whW p D neg inv) (stepS neg inv i)) z) D) (powS p (whW p D neg inv) (frontS neg inv i))) (invS p D).1
  else mulS p (geoS p (mulS p (powS p (whW p D neg inv) (stepS neg inv i)) z) D) (powS p (whW p D neg inv) (frontS neg inv i))
theorem wgh_one (p W z : Int) (st f D : Nat) : mulS p (geoS p (mulS p (powS p W st) z) D) (powS p W f) = redS p (S D (fun o => W ^ (st * o + f) * z ^ o)) := by
  rw [geoS_S]
  unfold mulS
  rw [redS_mul_left]
  unfold powS
  rw [redS_mul_right, ← S_mulr]
  refine red_S fun o _ => ?_
  have e : redS p (redS p (redS p (W ^ st) * z) ^ o) = redS p ((W ^ st * z) ^ o) := by
    refine red_pow ?_ o
    rw [redS_redS, redS_mul_left]
  rw [red_mul e rfl, Int.mul_pow, ← Int.pow_mul, Int.pow_add]
  congr 1
  grind
theorem wghV_is (p : Int) (D : Nat) (neg inv : Bool) (i : Nat) (z : Int) : wghV p D neg inv i z = wgD p D neg inv z i := by
  unfold wghV wgD
  cases inv with
  | false =>
    simp only [Bool.false_eq_true, if_false]
    rw [wgh_one]
    congr 1
    refine S_congr fun o _ => ?_
    simp only [wgt, whW, Bool.false_eq_true, if_false]
    congr 2
    cases neg <;> simp [stepS, frontS, stp] <;> grind
  | true =>
    simp only [if_true]
    rw [wgh_one]
    unfold mulS
    rw [redS_mul_left, ← S_mulr]
    congr 1
    refine S_congr fun o _ => ?_
    simp only [wgt, whW, if_true]
    have e : stepS neg true i * o + frontS neg true i = stp neg o i := by
      cases neg <;> simp [stepS, frontS, stp] <;> grind
    rw [e]
    grind
def wgtS (p : Int) (a : Int × Bool) (inv : Bool) (i : Int) (z : Int) : Int × Int :=
  if chk7 p [a] = 0 then (if 0 ≤ i ∧ i < a.1 then (wghV p a.1.toNat a.2 inv i.toNat z, 0) else (0, 1)) else (0, chk7 p [a])
def expS (p : Int) (ax : List (Int × Bool)) (inv : Bool) (x : List Int) (r : Int) : Int × Int := if wrd7 p ax x = 0 then (expF p ax inv x r, 0) else (0, wrd7 p ax x)
def chk9 (p : Int) (ax : List (Int × Bool)) (inv : Bool) (x y seeds : List Int) : Bool × Int :=
  if wrd7 p ax x = 0 then (if y.length = x.length then (if 1 ≤ seeds.length ∧ seeds.length ≤ 4 then (decide (∀ r ∈ seeds, expF p ax inv x r = evalG p r y) && inS p y, 0) else (false, 8)) else (false, 6)) else (false, wrd7 p ax x)
/-- The reference's weight: what the transform of one word makes. -/
theorem wgt_unit {p : Int} {a : Int × Bool} (h : Chk7 p [a]) (inv : Bool) {i : Nat} (hi : (i : Int) < a.1) (z : Int) :
    evalG p z (grN p [a] inv ((List.replicate a.1.toNat 0).set i 1) 1) = wghV p a.1.toNat a.2 inv i z := by
  have hd : dimsA [a] = [a.1] := rfl
  have hp : prodL (dimsA [a]) = a.1 := by rw [hd]; simp [prodL]
  have hlen : prodL (dimsA [a]) = (((List.replicate a.1.toNat (0 : Int)).set i 1).length : Nat) := by rw [hp]; simp; omega
  have h1 := expF_is h inv hlen z
  rw [show ([a] : List (Int × Bool)).length = 1 from rfl] at h1
  rw [← h1, wghV_is]
  unfold expF
  rw [List.length_set, List.length_replicate, S_one (k := i) (by omega) (fun j hj hne => by
    rw [List.getD_eq_getElem?_getD, List.getElem?_set_ne (Ne.symm hne)]
    simp [hj])]
  have e1 : ((List.replicate a.1.toNat (0 : Int)).set i 1).getD i 0 = 1 := by
    rw [List.getD_eq_getElem?_getD, List.getElem?_set_self (by simp; omega)]; rfl
  rw [e1, Int.one_mul]
  unfold UU
  rw [show ([a] : List (Int × Bool)).length = 1 from rfl, Pd, Pd, Int.one_mul, Uf, if_neg (by omega), wghF_wgD, hd]
  have e2 : (P.xv [a.1] 0 (i : Int)).toNat = i := by
    have : P.xv [a.1] 0 (i : Int) = i := by
      unfold P.xv xOf
      simp [prodL]
      exact Int.emod_eq_of_lt (by omega) hi
    rw [this]; simp
  rw [e2, show ([a] : List (Int × Bool)).getD 0 (1, false) = a from rfl, show ([a.1] : List Int).getD 0 1 = a.1 from rfl]
  have e3 : inA [a.1] 0 = 1 := by unfold inA; simp [prodL]
  rw [e3]
  unfold wgD
  rw [redS_redS]
  refine red_S fun o _ => red_mul rfl (red_pow ?_ o)
  unfold powS
  rw [redS_redS, Int.pow_succ, Int.pow_zero, Int.one_mul]
/-- Seeds that are fooled, each once. -/
def fools (p : Int) (ok : Int → Bool) (seeds : List Int) : Nat → List Int
  | 0 => []
  | k + 1 => if ok (seeds.getD k 0) && !((List.range k).any fun j => redS p (seeds.getD j 0) == redS p (seeds.getD k 0)) then redS p (seeds.getD k 0) :: fools p ok seeds k else fools p ok seeds k
theorem fools_mem {p : Int} {ok : Int → Bool} {seeds : List Int} : ∀ {k : Nat} {r : Int}, r ∈ fools p ok seeds k → ∃ j, j < k ∧ r = redS p (seeds.getD j 0) ∧ ok (seeds.getD j 0) = true
  | 0, r, h => by simp [fools] at h
  | k + 1, r, h => by
    rw [fools] at h
    split at h
    · rename_i hc
      rw [Bool.and_eq_true] at hc
      rw [List.mem_cons] at h
      rcases h with h | h
      · exact ⟨k, by omega, h, hc.1⟩
      · obtain ⟨j, hj, e⟩ := fools_mem h
        exact ⟨j, by omega, e⟩
    · obtain ⟨j, hj, e⟩ := fools_mem h
      exact ⟨j, by omega, e⟩
theorem fools_nodup (p : Int) (ok : Int → Bool) (seeds : List Int) : ∀ k, (fools p ok seeds k).Nodup
  | 0 => by simp [fools]
  | k + 1 => by
    rw [fools]
    split
    · rename_i hc
      rw [Bool.and_eq_true, Bool.not_eq_true'] at hc
      rw [List.nodup_cons]
      refine ⟨fun hm => ?_, fools_nodup p ok seeds k⟩
      obtain ⟨j, hj, e, _⟩ := fools_mem hm
      have := List.any_eq_false.1 hc.2 j (List.mem_range.2 hj)
      exact this (by rw [e]; exact beq_self_eq_true _)
    · exact fools_nodup p ok seeds k
theorem evalG_diff (p r : Int) (x y : List Int) (h : y.length = x.length) : redS p (ev r ((List.range x.length).map fun i => y.getD i 0 - x.getD i 0)) = redS p (evalG p r y - evalG p r x) := by
  rw [evalG_S, evalG_S, redS_sub_left, redS_sub_right, ev_S, h]
  congr 1
  rw [List.length_map, List.length_range]
  have e : S x.length (fun i => ((List.range x.length).map fun i => y.getD i 0 - x.getD i 0).getD i 0 * r ^ i) = S x.length (fun i => y.getD i 0 * r ^ i + (-1) * (x.getD i 0 * r ^ i)) := by
    refine S_congr fun i hi => ?_
    have : ((List.range x.length).map fun i => y.getD i 0 - x.getD i 0).getD i 0 = y.getD i 0 - x.getD i 0 := by
      rw [List.getD_eq_getElem?_getD]; simp [hi]
    rw [this]
    grind
  rw [e, S_add, S_mul]
  omega
/-- Of other words fewer seeds than there are words are fooled. -/
theorem fools_few {p : Int} (hk : knownS p = true) {want y seeds : List Int} (hl : y.length = want.length) (hw : inS p want = true) (hwu : ∀ d ∈ want, U64 d) (hy : inS p y = true) (hyu : ∀ d ∈ y, U64 d) (hne : want ≠ y)
    {ok : Int → Bool} (hok : ∀ r, ok r = true → evalG p r want = evalG p r y) (k : Nat) : (fools p ok seeds k).length < y.length := by
  have h1 := few_seeds hk ((List.range want.length).map fun i => y.getD i 0 - want.getD i 0) (fools p ok seeds k) (fools_nodup p ok seeds k) ?_ ?_ ?_
  · simpa [hl] using h1
  · intro r hr
    obtain ⟨j, _, e, _⟩ := fools_mem hr
    rw [e]
    exact ⟨redS_lo _ _, redS_hi _ hk⟩
  · intro r hr
    obtain ⟨j, _, e, hj⟩ := fools_mem hr
    have h2 := hok _ hj
    have h3 := evalG_diff p r want y hl
    have ev_red : ∀ l : List Int, evalG p (redS p (seeds.getD j 0)) l = evalG p (seeds.getD j 0) l := fun l => by
      rw [evalG_S, evalG_S]
      exact red_S fun i _ => red_mul rfl (red_pow (redS_redS _ _) i)
    rw [h3, e, ev_red, ev_red, h2, Int.sub_self, redS_zero]
  · intro hall
    apply hne
    apply List.ext_getElem hl.symm
    intro i h4 h5
    have h6 := hall (y.getD i 0 - want.getD i 0) (by simp only [List.mem_map, List.mem_range]; exact ⟨i, h4, rfl⟩)
    have h7 := in_at hw hwu h4
    have h8 := in_at hy hyu h5
    have h9 := (redS_eq_iff hk).1 (h6.trans (redS_zero p).symm)
    have ew : want.getD i 0 = want[i] := by rw [List.getD_eq_getElem?_getD, List.getElem?_eq_getElem h4]; rfl
    have ey : y.getD i 0 = y[i] := by rw [List.getD_eq_getElem?_getD, List.getElem?_eq_getElem h5]; rfl
    rw [ew] at h7 h9
    rw [ey] at h8 h9
    have h10 : redS p y[i] = redS p want[i] := (redS_eq_iff hk).2 (by rw [Int.sub_zero] at h9; exact h9)
    rw [redS_small hk h8.1 h8.2, redS_small hk h7.1 h7.2] at h10
    exact h10.symm
end Go.Proofs.YtnlmmgcjhedjkaaDoor.P
