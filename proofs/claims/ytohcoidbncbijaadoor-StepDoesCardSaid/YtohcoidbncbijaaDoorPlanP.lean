
/- The steps of a transform, plainly: each is numbers of an axis; all of them are the transform. Under no condition beside those of each lemma. -/
import Derived.Test.YtohcoidbncbijaaDoorStepP
namespace Go.Proofs.YtohcoidbncbijaaDoor.P
set_option linter.unusedVariables false
/-- A step: its axis, whether it is a twist, its stage. -/
abbrev Stp := Int × Bool × Int × Int × Int
def stepsA (inv : Bool) (k : Nat) (a : Int × Bool) : List Stp :=
  (if a.2 && !inv then [((k : Int), true, 0, 0, 0)] else []) ++ ((stgS a.1).1.map fun s => ((k : Int), false, s)) ++ (if inv then [((k : Int), true, 0, 0, 0)] else [])
def stepsN (ax : List (Int × Bool)) (inv : Bool) : Nat → List Stp
  | 0 => []
  | k + 1 => stepsN ax inv k ++ stepsA inv k (ax.getD k (1, false))
def stepsS (p : Int) (ax : List (Int × Bool)) (inv : Bool) : List Stp × Int := if chk7 p ax = 0 then (stepsN ax inv ax.length, 0) else ([], chk7 p ax)
/-- Why a step can not be. -/
def chk16 (p : Int) (ax : List (Int × Bool)) (s : Stp) : Int :=
  if chk7 p ax = 0 then (if 0 ≤ s.1 ∧ s.1 < ax.length then (if s.2.1 then (if s.2.2 = (0, 0, 0) then 0 else 1) else (if s.2.2 ∈ (stgS (ax.getD s.1.toNat (1, false)).1).1 then 0 else 1)) else 1) else chk7 p ax
/-- The number whose powers factors are. -/
def rtS (p n : Int) (inv : Bool) : Int := if inv then (backS p n).1 else (rootS p n).1
/-- A twist's factor; those of a stage. -/
def twF (p : Int) (D : Nat) (neg inv : Bool) (j : Nat) : Int :=
  if inv then mulS p (powS p (if neg then rtS p ((D : Int) * 2) true else 1) j) (invS p D).1 else powS p (if neg then rtS p ((D : Int) * 2) false else 1) j
def tgF (p R M : Int) (inv : Bool) (a u : Nat) : Int := powS p (powS p (rtS p (R * M) inv) a) u
/-- What word c makes of word o. -/
def stepM (p : Int) (D : Nat) (neg inv : Bool) (s : Stp) (c o : Nat) : Int :=
  if s.2.1 then (if c = o then twF p D neg inv o else 0) else stM s.2.2.1.toNat s.2.2.2.1.toNat s.2.2.2.2.toNat (rtS p s.2.2.1 inv) (rtS p (s.2.2.1 * s.2.2.2.2) inv) c o
def stepDo (p : Int) (ax : List (Int × Bool)) (inv : Bool) (s : Stp) (x : List Int) : List Int :=
  linA p (dimsA ax) s.1.toNat (stepM p ((dimsA ax).getD s.1.toNat 1).toNat (ax.getD s.1.toNat (1, false)).2 inv s) x
theorem stepDo_length (p : Int) (ax : List (Int × Bool)) (inv : Bool) (s : Stp) (x : List Int) : (stepDo p ax inv s x).length = x.length := linA_length ..
def wrd16 (p : Int) (ax : List (Int × Bool)) (s : Stp) (x : List Int) : Int :=
  if chk16 p ax s = 0 then (if prodL (dimsA ax) = x.length then (if inS p x then 0 else 7) else 6) else chk16 p ax s
def doS16 (p : Int) (ax : List (Int × Bool)) (inv : Bool) (s : Stp) (x : List Int) : List Int × Int := if wrd16 p ax s x = 0 then (stepDo p ax inv s x, 0) else ([], wrd16 p ax s x)
/-- Steps, one behind the other. -/
def runL (p : Int) (ax : List (Int × Bool)) (inv : Bool) (l : List Stp) (x : List Int) : List Int := l.foldl (fun x s => stepDo p ax inv s x) x
theorem runL_append (p : Int) (ax : List (Int × Bool)) (inv : Bool) (l m : List Stp) (x : List Int) : runL p ax inv (l ++ m) x = runL p ax inv m (runL p ax inv l x) := by
  unfold runL; rw [List.foldl_append]
theorem runL_length (p : Int) (ax : List (Int × Bool)) (inv : Bool) : ∀ (l : List Stp) (x : List Int), (runL p ax inv l x).length = x.length
  | [], x => rfl
  | s :: l, x => by rw [runL, List.foldl_cons]; exact (runL_length p ax inv l _).trans (stepDo_length ..)
/-! The roots of stages are powers of the axis's. -/
structure Roots (p : Int) (N : Nat) (inv : Bool) (W : Int) : Prop where
  known : knownS p = true
  one : redS p (W ^ N) = 1
  rt : ∀ n m : Nat, n * m = N → rtS p n inv = powS p W m
theorem rootS_part {p : Int} {n m : Nat} (h : (rootS p ((n * m : Nat) : Int)).2 = 0) : rootS p n = (powS p (rootS p ((n * m : Nat) : Int)).1 m, 0) ∧ backS p n = (powS p (backS p ((n * m : Nat) : Int)).1 m, 0) := by
  obtain ⟨N, hN, hR⟩ := rootS_is h
  have e : N = n * m := by omega
  subst e
  have hP := hR.part
  refine ⟨hP.rootS, ?_⟩
  rw [hP.back, hR.back]
  congr 1
  rw [← powS_mul, ← powS_mul, Nat.mul_comm m]
theorem roots_of {p : Int} {N : Nat} (inv : Bool) (h : (rootS p (N : Int)).2 = 0) : Roots p N inv (rtS p N inv) := by
  obtain ⟨M, hM, hR⟩ := rootS_is h
  have e : M = N := by omega
  subst e
  have hT := hR.turn
  refine ⟨hR.known, ?_, ?_⟩
  · unfold rtS
    cases inv with
    | true =>
      rw [if_pos rfl, hR.back]
      have := hT.symm.pow_mul 1
      rw [Nat.mul_one] at this
      exact this
    | false =>
      rw [if_neg (by decide)]
      have := hT.pow_mul 1
      rw [Nat.mul_one] at this
      exact this
  · intro n m hnm
    subst hnm
    have := rootS_part h
    unfold rtS
    cases inv with
    | true => rw [if_pos rfl, if_pos rfl, this.2]
    | false => rw [if_neg (by decide), if_neg (by decide), this.1]
theorem Chk6.root1 {p : Int} {n : Nat} {neg : Bool} (h : Chk6 p n neg) : (rootS p (n : Int)).2 = 0 := by
  have hr := h.root
  cases neg with
  | false => simpa [ordS] using hr
  | true =>
    have e : ordS n true = ((n * 2 : Nat) : Int) := by simp [ordS]
    rw [e] at hr
    have := (rootS_part hr).1
    rw [this]
/-! All stages of an axis. -/
structure StgsI (N : Nat) (l : List Int) : Prop where
  st : Stgs N l.length (fun k => (l.getD k 1).toNat) (fun k => (prodL (l.take k)).toNat) (fun k => (prodL (l.drop (k + 1))).toNat)
theorem FacOk.stgs {N : Nat} {l : List Int} (h : FacOk (N : Int) l) : Stgs N l.length (fun k => (l.getD k 1).toNat) (fun k => (prodL (l.take k)).toNat) (fun k => (prodL (l.drop (k + 1))).toNat) := by
  have n1 := h.n1
  refine ⟨by omega, by simp [prodL], ?_, ?_, ?_⟩
  · intro k hk
    have s := h.stage hk
    have e : l.getD k 1 = l[k] := by rw [List.getD_eq_getElem?_getD, List.getElem?_eq_getElem hk]; rfl
    have hr := s.r2; have hP := s.P1; have hQ := s.Q1; have ha := s.all
    rw [e]
    apply Int.ofNat_inj.1
    push_cast
    rw [Int.toNat_of_nonneg (by omega), Int.toNat_of_nonneg (by omega), Int.toNat_of_nonneg (by omega), ← ha]
    grind
  · intro k hk
    have s := h.stage hk
    have e : l.getD k 1 = l[k] := by rw [List.getD_eq_getElem?_getD, List.getElem?_eq_getElem hk]; rfl
    have hr := s.r2; have hP := s.P1; have hn := s.next
    rw [e, hn]
    apply Int.ofNat_inj.1
    have : 0 ≤ prodL (l.take k) * l[k] := Int.mul_nonneg (by omega) (by omega)
    push_cast
    rw [Int.toNat_of_nonneg (by omega), Int.toNat_of_nonneg (by omega), Int.toNat_of_nonneg (by omega)]
  · rw [List.take_length, h.prod]; simp
theorem stg_run {p : Int} {ax : List (Int × Bool)} {k : Nat} (ha : AxAt (dimsA ax) k) (inv : Bool) {l : List Int} {x : List Int} (hx : prodL (dimsA ax) = x.length) (hi : inS p x = true) (hu : ∀ d ∈ x, U64 d)
    (hl : FacOk (((dimsA ax).getD k 1).toNat : Int) l) {W : Int} (hW : Roots p ((dimsA ax).getD k 1).toNat inv W) : ∀ m, m ≤ l.length →
    runL p ax inv (((List.range m).map (stgF l)).map fun s => ((k : Int), false, s)) x = linA p (dimsA ax) k (stC p W ((dimsA ax).getD k 1).toNat (fun k => (l.getD k 1).toNat) (fun k => (prodL (l.take k)).toNat) (fun k => (prodL (l.drop (k + 1))).toNat) m) x
  | 0, _ => by
    refine (ha.linA_one hW.known ?_ hx hi hu).symm
    intro c o _ _
    simp only [stC]
    split
    · exact one_red hW.known
    · exact redS_zero p
  | m + 1, hm => by
    have hm' : m < l.length := by omega
    rw [List.range_succ, List.map_append, List.map_append, runL_append, stg_run ha inv hx hi hu hl hW m (by omega)]
    have hst := hl.stgs
    have hall := hst.all m hm'
    have s := hl.stage hm'
    have hr := s.r2; have hP := s.P1; have hQ := s.Q1
    have e : l.getD m 1 = l[m] := by rw [List.getD_eq_getElem?_getD, List.getElem?_eq_getElem hm']; rfl
    have g1 : rtS p l[m] inv = powS p W ((prodL (l.take m)).toNat * (prodL (l.drop (m + 1))).toNat) := by
      have := hW.rt l[m].toNat ((prodL (l.take m)).toNat * (prodL (l.drop (m + 1))).toNat) (by
        rw [← hall]
        show _ = (prodL (l.take m)).toNat * ((prodL (l.drop (m + 1))).toNat * (l.getD m 1).toNat)
        rw [e]; grind)
      rw [Int.toNat_of_nonneg (by omega)] at this
      exact this
    have g2 : rtS p (l[m] * prodL (l.drop (m + 1))) inv = powS p W (prodL (l.take m)).toNat := by
      have hm0 : 0 ≤ l[m] * prodL (l.drop (m + 1)) := Int.mul_nonneg (by omega) (by omega)
      have e2 : (l[m] * prodL (l.drop (m + 1))).toNat = l[m].toNat * (prodL (l.drop (m + 1))).toNat := by
        apply Int.ofNat_inj.1
        push_cast
        rw [Int.toNat_of_nonneg (by omega), Int.toNat_of_nonneg (by omega), Int.toNat_of_nonneg (by omega)]
      have := hW.rt (l[m] * prodL (l.drop (m + 1))).toNat (prodL (l.take m)).toNat (by
        rw [← hall, e2]
        show _ = (prodL (l.take m)).toNat * ((prodL (l.drop (m + 1))).toNat * (l.getD m 1).toNat)
        rw [e]; grind)
      rw [Int.toNat_of_nonneg (by omega)] at this
      exact this
    show stepDo p ax inv ((k : Int), false, stgF l m) (linA p (dimsA ax) k _ x) = _
    unfold stepDo
    rw [Int.toNat_natCast, ha.linA_comp p _ _ hx]
    refine ha.linA_congr ?_ x
    intro c o _ _
    simp only [stC]
    congr 1
    refine S_congr fun q _ => ?_
    unfold stepM stgF
    simp only [Bool.false_eq_true, if_false]
    rw [e, g1, g2]
/-- All steps of an axis are its transform. -/
theorem axis_run {p : Int} {ax : List (Int × Bool)} (h : Chk7 p ax) {k : Nat} (hk : k < ax.length) (inv : Bool) {x : List Int} (hx : prodL (dimsA ax) = x.length) (hi : inS p x = true) (hu : ∀ d ∈ x, U64 d) :
    runL p ax inv (stepsA inv k (ax.getD k (1, false))) x = axL p (dimsA ax) k (ax.getD k (1, false)).2 inv x := by
  obtain ⟨ha, hc⟩ := h.at hk
  have hD := ha.D1
  have eD : ((((dimsA ax).getD k 1).toNat : Nat) : Int) = (ax.getD k (1, false)).1 := by rw [Int.toNat_of_nonneg (by omega), dimsA_at ax hk 1]
  have hs : (facS (((dimsA ax).getD k 1).toNat : Int)).2 = 0 := by simpa [smoothS] using hc.smooth
  obtain ⟨hf, _⟩ := facS_ok hs
  have hst : (stgS (ax.getD k (1, false)).1).1 = stgL (facS (((dimsA ax).getD k 1).toNat : Int)).1 := by rw [← eD, stgS_ok hs]
  have hW := roots_of inv hc.root1
  have hkn := hc.known
  have key : ∀ y : List Int, prodL (dimsA ax) = y.length → inS p y = true → (∀ d ∈ y, U64 d) → runL p ax inv ((stgS (ax.getD k (1, false)).1).1.map fun s => ((k : Int), false, s)) y =
      linA p (dimsA ax) k (fun c o => rtS p (((dimsA ax).getD k 1).toNat : Int) inv ^ (c * o)) y := fun y hy hyi hyu => by
    rw [hst]
    unfold stgL
    rw [stg_run ha inv hy hyi hyu hf hW _ (Nat.le_refl _)]
    refine ha.linA_congr ?_ y
    intro c o hc' ho'
    exact hf.stgs.whole hkn hW.one hc' ho'
  unfold stepsA
  rw [axL_linA]
  generalize hNeg : (ax.getD k (1, false)).2 = neg at *
  generalize hN : ((dimsA ax).getD k 1).toNat = N at *
  have tw : ∀ y : List Int, runL p ax inv [((k : Int), true, 0, 0, 0)] y = linA p (dimsA ax) k (fun c o => if c = o then twF p N neg inv o else 0) y := fun y => by
    show stepDo p ax inv _ y = _
    unfold stepDo
    rw [Int.toNat_natCast, hNeg, hN]
    rfl
  have diag : ∀ (f : Nat → Int) (g : Nat → Nat → Int) (c o : Nat), c < N → S N (fun e => (if c = e then f e else 0) * g e o) = f c * g c o := fun f g c o hc' => by
    rw [S_one hc' (f := fun e => (if c = e then f e else 0) * g e o) (fun i _ hne => by rw [if_neg (Ne.symm hne), Int.zero_mul]), if_pos rfl]
  have diag2 : ∀ (f : Nat → Int) (g : Nat → Nat → Int) (c o : Nat), o < N → S N (fun e => g c e * (if e = o then f o else 0)) = g c o * f o := fun f g c o ho' => by
    rw [S_one ho' (f := fun e => g c e * (if e = o then f o else 0)) (fun i _ hne => by rw [if_neg hne, Int.mul_zero]), if_pos rfl]
  cases inv with
  | true =>
    rw [show (neg && !true) = false from by cases neg <;> rfl]
    simp only [Bool.false_eq_true, if_false, List.nil_append, if_true]
    rw [runL_append, key x hx hi hu, tw, ha.linA_comp p _ _ hx, hN]
    refine ha.linA_congr ?_ x
    intro c o hc' ho'
    rw [hN] at hc' ho'
    have dg : S N (fun e => rtS p (N : Int) true ^ (c * e) * (if e = o then twF p N neg true o else 0)) = rtS p (N : Int) true ^ (c * o) * twF p N neg true o := diag2 (twF p N neg true) (fun c e => rtS p (N : Int) true ^ (c * e)) c o ho'
    rw [dg]
    unfold axW wgt twF
    rw [hN, if_pos rfl, if_pos rfl]
    unfold mulS
    rw [redS_mul_right, show ∀ a b c : Int, a * (b * c) = a * b * c from fun a b c => (Int.mul_assoc a b c).symm]
    refine red_mul ?_ rfl
    cases neg with
    | false =>
      simp only [Bool.false_eq_true, if_false]
      have : redS p (rtS p (N : Int) true ^ (c * o) * powS p 1 o) = redS p (rtS p (N : Int) true ^ (c * o)) := by
        rw [show powS p 1 o = 1 from by unfold powS; rw [Int.one_pow]; exact one_red hkn, Int.mul_one]
      rw [this]
      show redS p ((backS p N).1 ^ (c * o)) = redS p ((backS p N).1 ^ (o * c))
      rw [Nat.mul_comm]
    | true =>
      simp only [if_true]
      have hr := hc.root
      have e2 : ordS N true = ((N * 2 : Nat) : Int) := by simp [ordS]
      rw [e2] at hr ⊢
      have hb := (rootS_part hr).2
      have e3 : rtS p (N : Int) true = powS p (backS p ((N * 2 : Nat) : Int)).1 2 := by unfold rtS; rw [if_pos rfl, hb]
      have e4 : rtS p ((N : Int) * 2) true = (backS p ((N * 2 : Nat) : Int)).1 := by unfold rtS; rw [if_pos rfl]; push_cast; rfl
      rw [e3, e4]
      generalize (backS p ((N * 2 : Nat) : Int)).1 = b
      have q1 : redS p (powS p b 2 ^ (c * o)) = redS p (b ^ (2 * (c * o))) := by rw [pwm b 2 (c * o)]; exact red_pow (redS_redS _ _) _
      rw [red_mul q1 (show redS p (powS p b o) = redS p (b ^ o) from redS_redS _ _), ← Int.pow_add]
      congr 2
      unfold stp
      rw [if_pos rfl]; grind
  | false =>
    simp only [Bool.not_false, Bool.and_true, Bool.false_eq_true, if_false, List.append_nil]
    rw [runL_append]
    cases neg with
    | false =>
      simp only [Bool.false_eq_true, if_false]
      show runL p ax false _ x = _
      rw [key x hx hi hu]
      refine ha.linA_congr ?_ x
      intro c o _ _
      unfold axW wgt rtS
      rw [hN]
      simp only [Bool.false_eq_true, if_false]
      rfl
    | true =>
      simp only [if_true]
      rw [tw]
      have g1 := linA_in hkn (dimsA ax) k (fun c o => if c = o then twF p N true false o else 0) x
      have g2 := linA_u64 p (dimsA ax) k (fun c o => if c = o then twF p N true false o else 0) x
      rw [key _ (by rw [linA_length]; exact hx) g1 g2, ha.linA_comp p _ _ hx, hN]
      refine ha.linA_congr ?_ x
      intro c o hc' ho'
      rw [hN] at hc' ho'
      have dg : S N (fun e => (if c = e then twF p N true false e else 0) * rtS p (N : Int) false ^ (e * o)) = twF p N true false c * rtS p (N : Int) false ^ (c * o) := diag (twF p N true false) (fun e o => rtS p (N : Int) false ^ (e * o)) c o hc'
      rw [dg]
      unfold axW wgt twF
      rw [hN]
      simp only [Bool.false_eq_true, if_false, if_true]
      have hr := hc.root
      have e2 : ordS N true = ((N * 2 : Nat) : Int) := by simp [ordS]
      rw [e2] at hr ⊢
      have hb := (rootS_part hr).1
      have e3 : rtS p (N : Int) false = powS p (rootS p ((N * 2 : Nat) : Int)).1 2 := by unfold rtS; rw [if_neg (by decide), hb]
      have e4 : rtS p ((N : Int) * 2) false = (rootS p ((N * 2 : Nat) : Int)).1 := by unfold rtS; rw [if_neg (by decide)]; push_cast; rfl
      rw [e3, e4]
      generalize (rootS p ((N * 2 : Nat) : Int)).1 = b
      have q1 : redS p (powS p b 2 ^ (c * o)) = redS p (b ^ (2 * (c * o))) := by rw [pwm b 2 (c * o)]; exact red_pow (redS_redS _ _) _
      rw [red_mul (show redS p (powS p b c) = redS p (b ^ c) from redS_redS _ _) q1, ← Int.pow_add]
      congr 2
      unfold stp
      rw [if_pos rfl]; grind
/-- All steps of all axes are the transform. -/
theorem all_run {p : Int} {ax : List (Int × Bool)} (h : Chk7 p ax) (inv : Bool) {x : List Int} (hx : prodL (dimsA ax) = x.length) (hi : inS p x = true) (hu : ∀ d ∈ x, U64 d) : ∀ k, k ≤ ax.length → runL p ax inv (stepsN ax inv k) x = grN p ax inv x k
  | 0, _ => rfl
  | k + 1, hk => by
    rw [stepsN, runL_append, all_run h inv hx hi hu k (by omega), grN]
    exact axis_run h (by omega) inv (by rw [grN_length]; exact hx) (grN_in h.known _ _ hi _) (grN_u64 p ax inv hu k)
end Go.Proofs.YtohcoidbncbijaaDoor.P
