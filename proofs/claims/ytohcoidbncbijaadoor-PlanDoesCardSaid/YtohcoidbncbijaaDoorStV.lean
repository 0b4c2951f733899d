
/- All steps of a transform, plainly: each may be; done one by one they are the transform; there and back. Under no condition beside those of each lemma. -/
import Derived.Test.YtohcoidbncbijaaDoorStU
import Derived.Test.YtohcoidbncbijaaDoorPlF
namespace Go.Proofs.YtohcoidbncbijaaDoor.P
open Go.RowKit
set_option linter.unusedVariables false
theorem stepsN_mem {ax : List (Int × Bool)} {inv : Bool} {s : Stp} : ∀ {n : Nat}, s ∈ stepsN ax inv n → ∃ k, k < n ∧ s ∈ stepsA inv k (ax.getD k (1, false))
  | 0, h => by simp [stepsN] at h
  | n + 1, h => by
    rw [stepsN, List.mem_append] at h
    rcases h with h | h
    · obtain ⟨k, hk, h2⟩ := stepsN_mem h
      exact ⟨k, by omega, h2⟩
    · exact ⟨n, by omega, h⟩
theorem step_may {p : Int} {ax : List (Int × Bool)} (h : Chk7 p ax) {inv : Bool} {k : Nat} (hk : k < ax.length) {s : Stp} (hs : s ∈ stepsA inv k (ax.getD k (1, false))) : chk16 p ax s = 0 := by
  have key : ∀ t : Stp, t = ((k : Int), true, 0, 0, 0) → chk16 p ax t = 0 := by
    rintro t rfl
    unfold chk16
    rw [if_pos h.ok, if_pos ⟨by dsimp only; omega, by dsimp only; omega⟩]
    dsimp only
    rw [if_pos rfl, if_pos rfl]
  unfold stepsA at hs
  rw [List.mem_append, List.mem_append] at hs
  rcases hs with (h1 | h1) | h1
  · split at h1
    · exact key s (by simpa using h1)
    · simp at h1
  · simp only [List.mem_map] at h1
    obtain ⟨t, ht, rfl⟩ := h1
    unfold chk16
    rw [if_pos h.ok, if_pos ⟨by dsimp only; omega, by dsimp only; omega⟩]
    dsimp only
    rw [if_neg (by decide), Int.toNat_natCast, if_pos ht]
  · split at h1
    · exact key s (by simpa using h1)
    · simp at h1
theorem steps_may {p : Int} {ax : List (Int × Bool)} (h : Chk7 p ax) {inv : Bool} {n : Nat} (hn : n ≤ ax.length) {s : Stp} (hs : s ∈ stepsN ax inv n) : chk16 p ax s = 0 := by
  obtain ⟨k, hk, h2⟩ := stepsN_mem hs
  exact step_may h (by omega) h2
/-- Steps there, and steps back, one by one: each with its way around. -/
abbrev Bst := Bool × Stp
def runB (p : Int) (ax : List (Int × Bool)) (l : List Bst) (x : List Int) : List Int := l.foldl (fun x s => stepDo p ax s.1 s.2 x) x
theorem runB_take (p : Int) (ax : List (Int × Bool)) (l : List Bst) (x : List Int) {i : Nat} (hi : i < l.length) : runB p ax (l.take (i + 1)) x = stepDo p ax l[i].1 l[i].2 (runB p ax (l.take i) x) := by
  rw [List.take_succ_eq_append_getElem hi]
  unfold runB
  rw [List.foldl_append]
  rfl
theorem runB_map (p : Int) (ax : List (Int × Bool)) (b : Bool) : ∀ (l : List Stp) (x : List Int), runB p ax (l.map fun s => (b, s)) x = runL p ax b l x
  | [], x => rfl
  | s :: l, x => by
    rw [List.map_cons]
    unfold runB runL
    rw [List.foldl_cons, List.foldl_cons]
    exact runB_map p ax b l _
theorem runB_append (p : Int) (ax : List (Int × Bool)) (l m : List Bst) (x : List Int) : runB p ax (l ++ m) x = runB p ax m (runB p ax l x) := by
  unfold runB; rw [List.foldl_append]
/-- Words that may be, after some steps. -/
structure WrdB (p : Int) (ax : List (Int × Bool)) (x : List Int) : Prop where
  known : knownS p = true
  all : prodL (dimsA ax) = x.length
  inn : inS p x = true
  u64 : ∀ d ∈ x, U64 d
theorem WrdB.step {p : Int} {ax : List (Int × Bool)} {x : List Int} (h : WrdB p ax x) (b : Bool) (s : Stp) : WrdB p ax (stepDo p ax b s x) :=
  ⟨h.known, by rw [stepDo_length]; exact h.all, stepDo_in h.known .., stepDo_u64 _ _ _ _ _⟩
theorem WrdB.run {p : Int} {ax : List (Int × Bool)} : ∀ (l : List Bst) {x : List Int}, WrdB p ax x → WrdB p ax (runB p ax l x)
  | [], _, h => h
  | s :: l, _, h => by
    unfold runB
    rw [List.foldl_cons]
    exact WrdB.run l (h.step s.1 s.2)
theorem WrdB.may {p : Int} {ax : List (Int × Bool)} {x : List Int} (h : WrdB p ax x) {s : Stp} (hs : chk16 p ax s = 0) : WrdK p ax s x := ⟨hs, h.all, h.inn⟩
theorem wrd16_not {p : Int} {ax : List (Int × Bool)} {x : List Int} {s : Stp} (hs : chk16 p ax s = 0) (h : ¬ (prodL (dimsA ax) = x.length ∧ inS p x = true)) : wrd16 p ax s x = 6 ∨ wrd16 p ax s x = 7 := by
  unfold wrd16
  rw [if_pos hs]
  by_cases h1 : prodL (dimsA ax) = x.length
  · rw [if_pos h1]
    by_cases h2 : inS p x = true
    · exact absurd ⟨h1, h2⟩ h
    · rw [if_neg h2]; exact .inr rfl
  · rw [if_neg h1]; exact .inl rfl
theorem steps_whole {p : Int} {ax : List (Int × Bool)} (h : Chk7 p ax) (inv : Bool) {x : List Int} (hx : WrdB p ax x) : runB p ax ((stepsN ax inv ax.length).map fun s => (inv, s)) x = grN p ax inv x ax.length := by
  rw [runB_map]
  exact all_run h inv hx.all hx.inn hx.u64 _ (Nat.le_refl _)
theorem steps_back {p : Int} {ax : List (Int × Bool)} (h : Chk7 p ax) (inv : Bool) {x : List Int} (hx : WrdB p ax x) :
    runB p ax (((stepsN ax inv ax.length).map fun s => (inv, s)) ++ ((stepsN ax (!inv) ax.length).map fun s => (!inv, s))) x = x := by
  have h1 := steps_whole h inv hx
  have hy := hx.run ((stepsN ax inv ax.length).map fun s => (inv, s))
  rw [h1] at hy
  rw [runB_append, h1, steps_whole h (!inv) hy]
  have h2 := grS_back (h.words hx.all hx.inn) hx.u64 inv
  unfold grS at h2
  rw [if_pos (h.words hy.all hy.inn)] at h2
  exact (Prod.mk.inj h2).1
end Go.Proofs.YtohcoidbncbijaaDoor.P
