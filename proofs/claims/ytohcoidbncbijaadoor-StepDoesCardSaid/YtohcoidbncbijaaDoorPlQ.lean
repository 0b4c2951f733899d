
/- The steps of a plan, counted: those of each axis. Under no condition beside those of each lemma. -/
import Derived.Test.YtohcoidbncbijaaDoorPlanP
namespace Go.Proofs.YtohcoidbncbijaaDoor.P
set_option linter.unusedVariables false
/-- How many of the first i are of a kind. -/
def ctF {α : Type} (P : α → Bool) (l : List α) (i : Nat) : Nat := ((l.take i).filter P).length
theorem ctF_zero {α : Type} (P : α → Bool) (l : List α) : ctF P l 0 = 0 := rfl
theorem ctF_all {α : Type} (P : α → Bool) (l : List α) : ctF P l l.length = (l.filter P).length := by unfold ctF; rw [List.take_length]
theorem ctF_step {α : Type} (P : α → Bool) (l : List α) {i : Nat} (h : i < l.length) : ctF P l (i + 1) = ctF P l i + if P l[i] then 1 else 0 := by
  unfold ctF
  rw [List.take_add_one, List.getElem?_eq_getElem h, List.filter_append, List.length_append]
  congr 1
  cases hp : P l[i] <;> simp [hp]
theorem ctF_le {α : Type} (P : α → Bool) (l : List α) (i : Nat) : ctF P l i ≤ (l.filter P).length := by
  unfold ctF
  exact (List.Sublist.filter P (List.take_sublist i l)).length_le
theorem filter_get {α : Type} (P : α → Bool) : ∀ (l : List α) (i : Nat) (h : i < l.length), P l[i] = true → (l.filter P)[ctF P l i]? = some l[i]
  | a :: l, 0, h, hp => by
    have hp' : P a = true := hp
    rw [List.filter_cons, if_pos hp', ctF_zero]; rfl
  | a :: l, i + 1, h, hp => by
    have h2 : i < l.length := by simpa using h
    have hp' : P l[i] = true := by simpa using hp
    have ih := filter_get P l i h2 hp'
    unfold ctF at ih ⊢
    rw [List.take_succ_cons, List.filter_cons, List.filter_cons]
    split
    · simpa using ih
    · simpa using ih
def isS (k : Nat) (s : Stp) : Bool := s.1 == (k : Int) && !s.2.1
def isT (k : Nat) (s : Stp) : Bool := s.1 == (k : Int) && s.2.1
def isB (k : Nat) (s : Stp) : Bool := decide (s.1 < (k : Int))
theorem stepsA_axis (inv : Bool) (k : Nat) (a : Int × Bool) : ∀ s ∈ stepsA inv k a, s.1 = (k : Int) := by
  intro s hs
  unfold stepsA at hs
  simp only [List.mem_append, List.mem_map] at hs
  rcases hs with (hs | ⟨t, _, rfl⟩) | hs
  · split at hs
    · simp only [List.mem_singleton] at hs; rw [hs]
    · simp at hs
  · rfl
  · split at hs
    · simp only [List.mem_singleton] at hs; rw [hs]
    · simp at hs
theorem stepsN_axis (ax : List (Int × Bool)) (inv : Bool) : ∀ n, ∀ s ∈ stepsN ax inv n, 0 ≤ s.1 ∧ s.1 < n
  | 0 => fun s hs => by simp [stepsN] at hs
  | n + 1 => fun s hs => by
    rw [stepsN, List.mem_append] at hs
    rcases hs with hs | hs
    · have h1 := stepsN_axis ax inv n s hs; omega
    · have h1 := stepsA_axis inv n _ s hs; omega
theorem filt_none {α : Type} {P : α → Bool} {l : List α} (h : ∀ s ∈ l, P s = false) : l.filter P = [] := by
  rw [List.filter_eq_nil_iff]
  intro s hs; rw [h s hs]; decide
theorem stepsA_S (inv : Bool) (k : Nat) (a : Int × Bool) : (stepsA inv k a).filter (isS k) = (stgS a.1).1.map fun s => ((k : Int), false, s) := by
  unfold stepsA
  rw [List.filter_append, List.filter_append]
  have h1 : ∀ (b : Bool), (if b then [((k : Int), true, (0 : Int), (0 : Int), (0 : Int))] else []).filter (isS k) = [] := by intro b; cases b <;> simp [isS]
  rw [h1, h1, List.nil_append, List.append_nil, List.filter_eq_self.2]
  intro s hs
  simp only [List.mem_map] at hs
  obtain ⟨t, _, rfl⟩ := hs
  simp [isS]
theorem stepsA_T (inv : Bool) (k : Nat) (a : Int × Bool) : (stepsA inv k a).filter (isT k) = if inv || a.2 then [((k : Int), true, 0, 0, 0)] else [] := by
  unfold stepsA
  rw [List.filter_append, List.filter_append]
  have h1 : ∀ (b : Bool), (if b then [((k : Int), true, (0 : Int), (0 : Int), (0 : Int))] else []).filter (isT k) = if b then [((k : Int), true, (0 : Int), (0 : Int), (0 : Int))] else [] := by intro b; cases b <;> simp [isT]
  have h2 : ((stgS a.1).1.map fun s => ((k : Int), false, s)).filter (isT k) = [] := filt_none fun s hs => by
    simp only [List.mem_map] at hs
    obtain ⟨t, _, rfl⟩ := hs
    simp [isT]
  rw [h1, h1, h2]
  cases inv <;> cases a.2 <;> rfl
theorem stepsN_filt (ax : List (Int × Bool)) (inv : Bool) (P : Stp → Bool) (k : Nat) (hP : ∀ s, P s = true → s.1 = (k : Int)) : ∀ n, (stepsN ax inv n).filter P = if k < n then (stepsA inv k (ax.getD k (1, false))).filter P else []
  | 0 => rfl
  | n + 1 => by
    rw [stepsN, List.filter_append, stepsN_filt ax inv P k hP n]
    by_cases h : k = n
    · subst h
      rw [if_neg (by omega), if_pos (by omega), List.nil_append]
    · have h2 : (stepsA inv n (ax.getD n (1, false))).filter P = [] := filt_none fun s hs => by
        cases hp : P s
        · rfl
        · have h3 := hP s hp
          have h4 := stepsA_axis inv n _ s hs
          omega
      rw [h2, List.append_nil]
      by_cases h5 : k < n
      · rw [if_pos h5, if_pos (by omega)]
      · rw [if_neg h5, if_neg (by omega)]
theorem isS_axis {k : Nat} {s : Stp} (h : isS k s = true) : s.1 = (k : Int) := by simp [isS] at h; exact h.1
theorem isT_axis {k : Nat} {s : Stp} (h : isT k s = true) : s.1 = (k : Int) := by simp [isT] at h; exact h.1
theorem stepsN_S (ax : List (Int × Bool)) (inv : Bool) {k n : Nat} (hk : k < n) : (stepsN ax inv n).filter (isS k) = (stgS (ax.getD k (1, false)).1).1.map fun s => ((k : Int), false, s) := by
  rw [stepsN_filt ax inv (isS k) k (fun s h => isS_axis h) n, if_pos hk, stepsA_S]
theorem stepsN_T (ax : List (Int × Bool)) (inv : Bool) {k n : Nat} (hk : k < n) : (stepsN ax inv n).filter (isT k) = if inv || (ax.getD k (1, false)).2 then [((k : Int), true, 0, 0, 0)] else [] := by
  rw [stepsN_filt ax inv (isT k) k (fun s h => isT_axis h) n, if_pos hk, stepsA_T]
/-- The steps of one axis, one by one. -/
theorem steps_at_S (ax : List (Int × Bool)) (inv : Bool) {k n : Nat} (hk : k < n) {i : Nat} (h : i < (stepsN ax inv n).length) (h1 : ((stepsN ax inv n)[i]).1 = (k : Int)) (h2 : ((stepsN ax inv n)[i]).2.1 = false) :
    (stgS (ax.getD k (1, false)).1).1[ctF (isS k) (stepsN ax inv n) i]? = some ((stepsN ax inv n)[i]).2.2 := by
  have hp : isS k (stepsN ax inv n)[i] = true := by simp [isS, h1, h2]
  have h3 := filter_get (isS k) (stepsN ax inv n) i h hp
  rw [stepsN_S ax inv hk, List.getElem?_map] at h3
  cases hg : (stgS (ax.getD k (1, false)).1).1[ctF (isS k) (stepsN ax inv n) i]? with
  | none => rw [hg] at h3; cases h3
  | some t =>
    rw [hg] at h3
    have h4 := Option.some.inj h3
    rw [← h4]
theorem steps_at_T (ax : List (Int × Bool)) (inv : Bool) {k n : Nat} (hk : k < n) {i : Nat} (h : i < (stepsN ax inv n).length) (h1 : ((stepsN ax inv n)[i]).1 = (k : Int)) (h2 : ((stepsN ax inv n)[i]).2.1 = true) :
    ((stepsN ax inv n)[i]).2.2 = (0, 0, 0) := by
  have hp : isT k (stepsN ax inv n)[i] = true := by simp [isT, h1, h2]
  have h3 := filter_get (isT k) (stepsN ax inv n) i h hp
  rw [stepsN_T ax inv hk] at h3
  have h5 := List.mem_of_getElem? h3
  split at h5
  · simp only [List.mem_singleton] at h5
    rw [h5]
  · simp at h5
theorem steps_S_all (ax : List (Int × Bool)) (inv : Bool) {k n : Nat} (hk : k < n) : ctF (isS k) (stepsN ax inv n) (stepsN ax inv n).length = (stgS (ax.getD k (1, false)).1).1.length := by
  rw [ctF_all, stepsN_S ax inv hk, List.length_map]
theorem steps_T_all (ax : List (Int × Bool)) (inv : Bool) {k n : Nat} (hk : k < n) : ctF (isT k) (stepsN ax inv n) (stepsN ax inv n).length = if inv || (ax.getD k (1, false)).2 then 1 else 0 := by
  rw [ctF_all, stepsN_T ax inv hk]
  split <;> rfl
theorem steps_B_zero (ax : List (Int × Bool)) (inv : Bool) (n : Nat) : ((stepsN ax inv n).filter (isB 0)).length = 0 := by
  rw [filt_none fun s hs => ?_]; rfl
  have h := stepsN_axis ax inv n s hs
  simp [isB]; omega
theorem steps_B_all (ax : List (Int × Bool)) (inv : Bool) (n : Nat) : ((stepsN ax inv n).filter (isB n)).length = (stepsN ax inv n).length := by
  rw [List.filter_eq_self.2]
  intro s hs
  have h := stepsN_axis ax inv n s hs
  simp [isB]; omega
theorem filt_B (k : Nat) : ∀ l : List Stp, (l.filter (isB (k + 1))).length = (l.filter (isB k)).length + (l.filter (isS k)).length + (l.filter (isT k)).length
  | [] => rfl
  | s :: l => by
    have ih := filt_B k l
    rw [List.filter_cons, List.filter_cons, List.filter_cons, List.filter_cons]
    obtain ⟨a, t, r⟩ := s
    by_cases h1 : a < (k : Int)
    · have e1 : isB (k + 1) (a, t, r) = true := by simp [isB]; omega
      have e2 : isB k (a, t, r) = true := by simp [isB]; omega
      have e3 : isS k (a, t, r) = false := by simp [isS]; omega
      have e4 : isT k (a, t, r) = false := by simp [isT]; omega
      rw [e1, e2, e3, e4]
      simp only [if_true, List.length_cons, Bool.false_eq_true, if_false]
      omega
    · by_cases h2 : a = (k : Int)
      · subst h2
        have e1 : isB (k + 1) ((k : Int), t, r) = true := by simp [isB]; omega
        have e2 : isB k ((k : Int), t, r) = false := by simp [isB]
        rw [e1, e2]
        cases t
        · have e3 : isS k ((k : Int), false, r) = true := by simp [isS]
          have e4 : isT k ((k : Int), false, r) = false := by simp [isT]
          rw [e3, e4]
          simp only [if_true, List.length_cons, Bool.false_eq_true, if_false]
          omega
        · have e3 : isS k ((k : Int), true, r) = false := by simp [isS]
          have e4 : isT k ((k : Int), true, r) = true := by simp [isT]
          rw [e3, e4]
          simp only [if_true, List.length_cons, Bool.false_eq_true, if_false]
          omega
      · have e1 : isB (k + 1) (a, t, r) = false := by simp [isB]; omega
        have e2 : isB k (a, t, r) = false := by simp [isB]; omega
        have e3 : isS k (a, t, r) = false := by simp [isS]; omega
        have e4 : isT k (a, t, r) = false := by simp [isT]; omega
        rw [e1, e2, e3, e4]
        simp only [Bool.false_eq_true, if_false]
        omega
/-- A list of steps, as cells. -/
def spC (s : Stp) : List Value := [.int .i64 s.1, .bool s.2.1, .int .i64 s.2.2.1, .int .i64 s.2.2.2.1, .int .i64 s.2.2.2.2]
def spR (l : List Stp) : List Value := l.flatMap spC
theorem spR_append (l m : List Stp) : spR (l ++ m) = spR l ++ spR m := by simp [spR]
theorem spR_one (s : Stp) : spR [s] = spC s := by simp [spR]
theorem spR_length (l : List Stp) : (spR l).length = l.length * 5 := flat_len spC 5 (fun _ => rfl) l
end Go.Proofs.YtohcoidbncbijaaDoor.P
