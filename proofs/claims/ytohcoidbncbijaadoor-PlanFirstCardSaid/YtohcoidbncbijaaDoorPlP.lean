
/- Requests that are made wrong, plainly: of two things that are wrong the one that is named first is told. Under no condition beside those of each lemma. -/
import Derived.Test.YtohcoidbncbijaaDoorPlE
namespace Go.Proofs.YtohcoidbncbijaaDoor.P
open Go.RowKit
set_option linter.unusedVariables false
/-- A request as numbers and lists. -/
structure Rq where
  p : Int
  ax : List (Int × Bool)
  b : Int
  rt : Int
  ag : Int
  x : List Int
  sd : List Int
def Rq.chk (q : Rq) : Int := chk17 q.p q.ax q.b q.rt q.ag q.x q.sd
/-- The first axis of another length; the first word another one. -/
def axTo (N : Int) : List (Int × Bool) → List (Int × Bool)
  | [] => []
  | a :: l => (N, a.2) :: l
def xTo (v : Int) : List Int → List Int
  | [] => []
  | _ :: l => v :: l
/-- What makes a request wrong, of eight kinds. -/
def sp (q : Rq) : Nat → Rq
  | 0 => { q with b := 0 }
  | 1 => { q with p := 4 }
  | 2 => { q with ax := [] }
  | 3 => { q with ax := axTo 7 q.ax }
  | 4 => { q with p := 998244353, ax := axTo 3 q.ax }
  | 5 => { q with x := q.x ++ [0] }
  | 6 => { q with x := xTo 18446744073709551615 q.x }
  | _ => { q with sd := [] }
/-- What is asked of a request, one by one. -/
def lv (q : Rq) : Nat → Prop
  | 0 => (btw q.b 1 16 && btw q.rt 0 8 && btw q.ag 0 8) = true
  | 1 => knownS q.p = true
  | 2 => Dims (dimsA q.ax)
  | 3 => ∀ a ∈ q.ax, smoothS a.1 = true
  | 4 => ∀ a ∈ q.ax, (rootS q.p (ordA a)).2 = 0
  | 5 => (q.x.length : Int) = prodL (dimsA q.ax) * q.b
  | 6 => inS q.p q.x = true
  | _ => btw q.sd.length 1 4 = true
theorem chk7_of {q : Rq} (h1 : lv q 1) (h2 : lv q 2) (h3 : lv q 3) (h4 : lv q 4) : chk7 q.p q.ax = 0 := by
  have h1' : knownS q.p = true := h1
  have h2' : Dims (dimsA q.ax) := h2
  have h3' : ∀ a ∈ q.ax, smoothS a.1 = true := h3
  have h4' : ∀ a ∈ q.ax, (rootS q.p (ordA a)).2 = 0 := h4
  rw [chk7, if_pos h1', if_pos h2', if_pos h3', if_pos h4']
theorem chk_first {q : Rq} {k : Nat} (hk : k < 8) (h : ∀ j, j < k → lv q j) (hn : ¬ lv q k) : q.chk = (k : Int) + 1 := by
  unfold Rq.chk chk17
  rcases (show k = 0 ∨ k = 1 ∨ k = 2 ∨ k = 3 ∨ k = 4 ∨ k = 5 ∨ k = 6 ∨ k = 7 by omega) with rfl | rfl | rfl | rfl | rfl | rfl | rfl | rfl
  · have hn' : ¬ ((btw q.b 1 16 && btw q.rt 0 8 && btw q.ag 0 8) = true) := hn
    rw [if_neg hn']; rfl
  · have hn' : ¬ (knownS q.p = true) := hn
    have h0 : (btw q.b 1 16 && btw q.rt 0 8 && btw q.ag 0 8) = true := h 0 (by decide)
    have hc : chk7 q.p q.ax = 2 := by rw [chk7, if_neg hn']
    rw [if_pos h0, if_neg (by rw [hc]; decide), hc]; rfl
  · have hn' : ¬ (Dims (dimsA q.ax)) := hn
    have h0 : (btw q.b 1 16 && btw q.rt 0 8 && btw q.ag 0 8) = true := h 0 (by decide)
    have h1 : knownS q.p = true := h 1 (by decide)
    have hc : chk7 q.p q.ax = 3 := by rw [chk7, if_pos h1, if_neg hn']
    rw [if_pos h0, if_neg (by rw [hc]; decide), hc]; rfl
  · have hn' : ¬ (∀ a ∈ q.ax, smoothS a.1 = true) := hn
    have h0 : (btw q.b 1 16 && btw q.rt 0 8 && btw q.ag 0 8) = true := h 0 (by decide)
    have h1 : knownS q.p = true := h 1 (by decide)
    have h2 : Dims (dimsA q.ax) := h 2 (by decide)
    have hc : chk7 q.p q.ax = 4 := by rw [chk7, if_pos h1, if_pos h2, if_neg hn']
    rw [if_pos h0, if_neg (by rw [hc]; decide), hc]; rfl
  · have hn' : ¬ (∀ a ∈ q.ax, (rootS q.p (ordA a)).2 = 0) := hn
    have h0 : (btw q.b 1 16 && btw q.rt 0 8 && btw q.ag 0 8) = true := h 0 (by decide)
    have h1 : knownS q.p = true := h 1 (by decide)
    have h2 : Dims (dimsA q.ax) := h 2 (by decide)
    have h3 : ∀ a ∈ q.ax, smoothS a.1 = true := h 3 (by decide)
    have hc : chk7 q.p q.ax = 5 := by rw [chk7, if_pos h1, if_pos h2, if_pos h3, if_neg hn']
    rw [if_pos h0, if_neg (by rw [hc]; decide), hc]; rfl
  · have hn' : ¬ ((q.x.length : Int) = prodL (dimsA q.ax) * q.b) := hn
    have h0 : (btw q.b 1 16 && btw q.rt 0 8 && btw q.ag 0 8) = true := h 0 (by decide)
    have h1 : knownS q.p = true := h 1 (by decide)
    have h2 : Dims (dimsA q.ax) := h 2 (by decide)
    have h3 : ∀ a ∈ q.ax, smoothS a.1 = true := h 3 (by decide)
    have h4 : ∀ a ∈ q.ax, (rootS q.p (ordA a)).2 = 0 := h 4 (by decide)
    have hc : chk7 q.p q.ax = 0 := chk7_of (h 1 (by decide)) (h 2 (by decide)) (h 3 (by decide)) (h 4 (by decide))
    rw [if_pos h0, if_pos hc, if_neg hn']; rfl
  · have hn' : ¬ (inS q.p q.x = true) := hn
    have h0 : (btw q.b 1 16 && btw q.rt 0 8 && btw q.ag 0 8) = true := h 0 (by decide)
    have h1 : knownS q.p = true := h 1 (by decide)
    have h2 : Dims (dimsA q.ax) := h 2 (by decide)
    have h3 : ∀ a ∈ q.ax, smoothS a.1 = true := h 3 (by decide)
    have h4 : ∀ a ∈ q.ax, (rootS q.p (ordA a)).2 = 0 := h 4 (by decide)
    have h5 : (q.x.length : Int) = prodL (dimsA q.ax) * q.b := h 5 (by decide)
    have hc : chk7 q.p q.ax = 0 := chk7_of (h 1 (by decide)) (h 2 (by decide)) (h 3 (by decide)) (h 4 (by decide))
    rw [if_pos h0, if_pos hc, if_pos h5, if_neg hn']; rfl
  · have hn' : ¬ (btw q.sd.length 1 4 = true) := hn
    have h0 : (btw q.b 1 16 && btw q.rt 0 8 && btw q.ag 0 8) = true := h 0 (by decide)
    have h1 : knownS q.p = true := h 1 (by decide)
    have h2 : Dims (dimsA q.ax) := h 2 (by decide)
    have h3 : ∀ a ∈ q.ax, smoothS a.1 = true := h 3 (by decide)
    have h4 : ∀ a ∈ q.ax, (rootS q.p (ordA a)).2 = 0 := h 4 (by decide)
    have h5 : (q.x.length : Int) = prodL (dimsA q.ax) * q.b := h 5 (by decide)
    have h6 : inS q.p q.x = true := h 6 (by decide)
    have hc : chk7 q.p q.ax = 0 := chk7_of (h 1 (by decide)) (h 2 (by decide)) (h 3 (by decide)) (h 4 (by decide))
    rw [if_pos h0, if_pos hc, if_pos h5, if_pos h6, if_neg hn']; rfl
theorem chk_zero {q : Rq} (h : q.chk = 0) : ∀ j, j < 8 → lv q j := by
  intro j hj
  by_cases hall : ∀ i, i < 8 → lv q i
  · exact hall j hj
  · exfalso
    have hex : ∃ k, k < 8 ∧ ¬ lv q k ∧ ∀ i, i < k → lv q i := by
      by_cases a0 : lv q 0
      · by_cases a1 : lv q 1
        · by_cases a2 : lv q 2
          · by_cases a3 : lv q 3
            · by_cases a4 : lv q 4
              · by_cases a5 : lv q 5
                · by_cases a6 : lv q 6
                  · by_cases a7 : lv q 7
                    · exfalso
                      apply hall
                      intro i hi
                      rcases (show i = 0 ∨ i = 1 ∨ i = 2 ∨ i = 3 ∨ i = 4 ∨ i = 5 ∨ i = 6 ∨ i = 7 by omega) with rfl | rfl | rfl | rfl | rfl | rfl | rfl | rfl <;> assumption
                    · exact ⟨7, by decide, a7, fun i hi => by rcases (show i = 0 ∨ i = 1 ∨ i = 2 ∨ i = 3 ∨ i = 4 ∨ i = 5 ∨ i = 6 by omega) with rfl | rfl | rfl | rfl | rfl | rfl | rfl <;> assumption⟩
                  · exact ⟨6, by decide, a6, fun i hi => by rcases (show i = 0 ∨ i = 1 ∨ i = 2 ∨ i = 3 ∨ i = 4 ∨ i = 5 by omega) with rfl | rfl | rfl | rfl | rfl | rfl <;> assumption⟩
                · exact ⟨5, by decide, a5, fun i hi => by rcases (show i = 0 ∨ i = 1 ∨ i = 2 ∨ i = 3 ∨ i = 4 by omega) with rfl | rfl | rfl | rfl | rfl <;> assumption⟩
              · exact ⟨4, by decide, a4, fun i hi => by rcases (show i = 0 ∨ i = 1 ∨ i = 2 ∨ i = 3 by omega) with rfl | rfl | rfl | rfl <;> assumption⟩
            · exact ⟨3, by decide, a3, fun i hi => by rcases (show i = 0 ∨ i = 1 ∨ i = 2 by omega) with rfl | rfl | rfl <;> assumption⟩
          · exact ⟨2, by decide, a2, fun i hi => by rcases (show i = 0 ∨ i = 1 by omega) with rfl | rfl <;> assumption⟩
        · exact ⟨1, by decide, a1, fun i hi => by rcases (show i = 0 by omega) with rfl; assumption⟩
      · exact ⟨0, by decide, a0, fun i hi => by omega⟩
    obtain ⟨k, hk, hn, hb⟩ := hex
    have := chk_first hk hb hn
    omega
theorem seven_not : smoothS 7 = false := by decide +kernel
theorem three_smooth : smoothS 3 = true := by decide +kernel
theorem three_no (neg : Bool) : ¬ (rootS 998244353 (ordA (3, neg))).2 = 0 := by
  cases neg
  · show ¬ (rootS 998244353 3).2 = 0
    unfold rootS
    rw [if_pos (by decide), if_neg (by decide)]
    decide
  · show ¬ (rootS 998244353 6).2 = 0
    unfold rootS
    rw [if_pos (by decide), if_neg (by decide)]
    decide
/-- A request, right up to a level, with what is wanted of its axes and words. -/
structure Gr (R : Rq) (d : Nat) : Prop where
  lvs : ∀ j, j < d → lv R j
  tl : d ≠ 2 → ∃ a l, R.ax = a :: l ∧ Pos (dimsA l) ∧ l.length ≤ 3 ∧ prodL (dimsA l) ≤ 60
  xl : 5 ≤ d → prodL (dimsA R.ax) * R.b ≤ (R.x.length : Int)
theorem dims_cons {N : Int} {neg : Bool} {l : List (Int × Bool)} (h1 : 1 ≤ N) (h7 : N ≤ 7) (hp : Pos (dimsA l)) (hl : l.length ≤ 3) (hq : prodL (dimsA l) ≤ 60) : Dims (dimsA ((N, neg) :: l)) := by
  have hpp := hp.prod
  have e : dimsA ((N, neg) :: l) = N :: dimsA l := rfl
  rw [e]
  refine ⟨by simp, by rw [List.length_cons, dimsA_length]; omega, ?_, ?_⟩
  · intro d hd
    rcases List.mem_cons.1 hd with rfl | hd
    · exact h1
    · exact hp d hd
  · have h2 : prodL (N :: dimsA l) = N * prodL (dimsA l) := by simp [prodL]
    rw [h2]
    have h3 : N * prodL (dimsA l) ≤ 7 * 60 := Int.mul_le_mul h7 hq (by omega) (by decide)
    omega
theorem sp_first {R : Rq} {d c : Nat} (h : Gr R d) (hc : c ≤ d) (h8 : c < 8) : (∀ j, j < c → lv (sp R c) j) ∧ ¬ lv (sp R c) c := by
  have hl : ∀ j, j < c → lv R j := fun j hj => h.lvs j (by omega)
  rcases (show c = 0 ∨ c = 1 ∨ c = 2 ∨ c = 3 ∨ c = 4 ∨ c = 5 ∨ c = 6 ∨ c = 7 by omega) with rfl | rfl | rfl | rfl | rfl | rfl | rfl | rfl
  · refine ⟨fun j hj => by omega, ?_⟩
    show ¬ (btw 0 1 16 && btw R.rt 0 8 && btw R.ag 0 8) = true
    rw [show btw 0 1 16 = false by decide]; simp
  · refine ⟨fun j hj => ?_, ?_⟩
    · obtain rfl : j = 0 := by omega
      exact hl 0 (by decide)
    · show ¬ knownS 4 = true
      decide
  · refine ⟨fun j hj => ?_, ?_⟩
    · rcases (show j = 0 ∨ j = 1 by omega) with rfl | rfl
      · exact hl 0 (by decide)
      · exact hl 1 (by decide)
    · show ¬ Dims (dimsA [])
      intro hd
      have := hd.n1
      simp [dimsA] at this
  · obtain ⟨a, l, hax, hp, hn, hq⟩ := h.tl (by omega)
    refine ⟨fun j hj => ?_, ?_⟩
    · rcases (show j = 0 ∨ j = 1 ∨ j = 2 by omega) with rfl | rfl | rfl
      · exact hl 0 (by decide)
      · exact hl 1 (by decide)
      · show Dims (dimsA (axTo 7 R.ax))
        rw [hax]
        exact dims_cons (by decide) (by decide) hp hn hq
    · show ¬ ∀ b ∈ axTo 7 R.ax, smoothS b.1 = true
      rw [hax]
      intro hs
      have := hs (7, a.2) (by simp [axTo])
      rw [show ((7 : Int), a.2).1 = 7 from rfl, seven_not] at this
      cases this
  · obtain ⟨a, l, hax, hp, hn, hq⟩ := h.tl (by omega)
    have hs3 : ∀ b ∈ R.ax, smoothS b.1 = true := hl 3 (by decide)
    refine ⟨fun j hj => ?_, ?_⟩
    · rcases (show j = 0 ∨ j = 1 ∨ j = 2 ∨ j = 3 by omega) with rfl | rfl | rfl | rfl
      · exact hl 0 (by decide)
      · show knownS 998244353 = true
        decide
      · show Dims (dimsA (axTo 3 R.ax))
        rw [hax]
        exact dims_cons (by decide) (by decide) hp hn hq
      · show ∀ b ∈ axTo 3 R.ax, smoothS b.1 = true
        rw [hax] at hs3 ⊢
        intro b hb
        rcases List.mem_cons.1 hb with rfl | hb
        · exact three_smooth
        · exact hs3 b (List.mem_cons_of_mem _ hb)
    · show ¬ ∀ b ∈ axTo 3 R.ax, (rootS 998244353 (ordA b)).2 = 0
      rw [hax]
      intro hs
      exact three_no a.2 (hs (3, a.2) (by simp [axTo]))
  · have hx := h.xl (by omega)
    refine ⟨fun j hj => ?_, ?_⟩
    · rcases (show j = 0 ∨ j = 1 ∨ j = 2 ∨ j = 3 ∨ j = 4 by omega) with rfl | rfl | rfl | rfl | rfl
      · exact hl 0 (by decide)
      · exact hl 1 (by decide)
      · exact hl 2 (by decide)
      · exact hl 3 (by decide)
      · exact hl 4 (by decide)
    · show ¬ ((R.x ++ [0]).length : Int) = prodL (dimsA R.ax) * R.b
      rw [List.length_append, List.length_singleton]
      push_cast
      omega
  · have h5 : (R.x.length : Int) = prodL (dimsA R.ax) * R.b := hl 5 (by decide)
    have h2 : Dims (dimsA R.ax) := hl 2 (by decide)
    have h0 : (btw R.b 1 16 && btw R.rt 0 8 && btw R.ag 0 8) = true := hl 0 (by decide)
    have h1 : knownS R.p = true := hl 1 (by decide)
    have hb : 1 ≤ R.b := by
      unfold btw at h0
      simp only [Bool.and_eq_true, decide_eq_true_eq] at h0
      omega
    have hpx : 1 ≤ prodL (dimsA R.ax) * R.b := by
      have h3 := Int.mul_le_mul h2.pos.prod hb (by decide) (by have := h2.pos.prod; omega)
      omega
    obtain ⟨v, xs, hxs⟩ : ∃ v xs, R.x = v :: xs := by
      cases hx : R.x with
      | nil => rw [hx] at h5; simp at h5; omega
      | cons v xs => exact ⟨v, xs, rfl⟩
    refine ⟨fun j hj => ?_, ?_⟩
    · rcases (show j = 0 ∨ j = 1 ∨ j = 2 ∨ j = 3 ∨ j = 4 ∨ j = 5 by omega) with rfl | rfl | rfl | rfl | rfl | rfl
      · exact h0
      · exact h1
      · exact h2
      · exact hl 3 (by decide)
      · exact hl 4 (by decide)
      · show ((xTo 18446744073709551615 R.x).length : Int) = prodL (dimsA R.ax) * R.b
        rw [← h5, hxs]; rfl
    · show ¬ inS R.p (xTo 18446744073709551615 R.x) = true
      rw [hxs]
      intro hi
      unfold inS at hi
      rw [Bool.and_eq_true, List.all_eq_true] at hi
      have h6 := hi.1 18446744073709551615 (by simp [xTo])
      have h7 := known_pos h1
      rw [decide_eq_true_eq] at h6
      omega
  · refine ⟨fun j hj => ?_, ?_⟩
    · rcases (show j = 0 ∨ j = 1 ∨ j = 2 ∨ j = 3 ∨ j = 4 ∨ j = 5 ∨ j = 6 by omega) with rfl | rfl | rfl | rfl | rfl | rfl | rfl
      · exact hl 0 (by decide)
      · exact hl 1 (by decide)
      · exact hl 2 (by decide)
      · exact hl 3 (by decide)
      · exact hl 4 (by decide)
      · exact hl 5 (by decide)
      · exact hl 6 (by decide)
    · show ¬ btw (([] : List Int).length : Int) 1 4 = true
      decide
theorem gr_start {q : Rq} (h : q.chk = 0) (h60 : prodL (dimsA q.ax) ≤ 60) : Gr q 8 := by
  have hl := chk_zero h
  have h2 : Dims (dimsA q.ax) := hl 2 (by decide)
  have h5 : (q.x.length : Int) = prodL (dimsA q.ax) * q.b := hl 5 (by decide)
  refine ⟨hl, fun _ => ?_, fun _ => by omega⟩
  cases hax : q.ax with
  | nil => rw [hax] at h2; have := h2.n1; simp [dimsA] at this
  | cons a l =>
    rw [hax] at h2 h60
    have e : dimsA (a :: l) = a.1 :: dimsA l := rfl
    rw [e] at h2 h60
    have hp : Pos (dimsA l) := fun d hd => h2.pos d (List.mem_cons_of_mem _ hd)
    have ha : 1 ≤ a.1 := h2.pos a.1 (by simp)
    refine ⟨a, l, rfl, hp, by have := h2.n4; rw [List.length_cons, dimsA_length] at this; omega, ?_⟩
    have h3 : prodL (a.1 :: dimsA l) = a.1 * prodL (dimsA l) := by simp [prodL]
    rw [h3] at h60
    have h4 := hp.prod
    have h6 : 1 * prodL (dimsA l) ≤ a.1 * prodL (dimsA l) := Int.mul_le_mul_of_nonneg_right ha (by omega)
    omega
theorem gr_sp {q : Rq} (h : Gr q 8) {c : Nat} (hc : c < 8) : Gr (sp q c) c := by
  have hf := sp_first h (by omega) hc
  obtain ⟨a, l, hax, hp, hn, hq⟩ := h.tl (by decide)
  have hx := h.xl (by decide)
  rcases (show c = 0 ∨ c = 1 ∨ c = 2 ∨ c = 3 ∨ c = 4 ∨ c = 5 ∨ c = 6 ∨ c = 7 by omega) with rfl | rfl | rfl | rfl | rfl | rfl | rfl | rfl
  · exact ⟨hf.1, fun _ => ⟨a, l, hax, hp, hn, hq⟩, fun h => by omega⟩
  · exact ⟨hf.1, fun _ => ⟨a, l, hax, hp, hn, hq⟩, fun h => by omega⟩
  · exact ⟨hf.1, fun h => absurd rfl h, fun h => by omega⟩
  · exact ⟨hf.1, fun _ => ⟨(7, a.2), l, by show axTo 7 q.ax = _; rw [hax]; rfl, hp, hn, hq⟩, fun h => by omega⟩
  · exact ⟨hf.1, fun _ => ⟨(3, a.2), l, by show axTo 3 q.ax = _; rw [hax]; rfl, hp, hn, hq⟩, fun h => by omega⟩
  · refine ⟨hf.1, fun _ => ⟨a, l, hax, hp, hn, hq⟩, fun _ => ?_⟩
    show prodL (dimsA q.ax) * q.b ≤ ((q.x ++ [0]).length : Int)
    rw [List.length_append, List.length_singleton]
    push_cast
    omega
  · refine ⟨hf.1, fun _ => ⟨a, l, hax, hp, hn, hq⟩, fun _ => ?_⟩
    show prodL (dimsA q.ax) * q.b ≤ ((xTo 18446744073709551615 q.x).length : Int)
    cases hxx : q.x with
    | nil => rw [hxx] at hx; exact hx
    | cons v xs => rw [hxx] at hx; exact hx
  · exact ⟨hf.1, fun _ => ⟨a, l, hax, hp, hn, hq⟩, fun _ => hx⟩
/-- One thing that is wrong, and two. -/
theorem sp_one {q : Rq} (h : q.chk = 0) (h60 : prodL (dimsA q.ax) ≤ 60) {d : Nat} (hd : d < 8) : (sp q d).chk = (d : Int) + 1 := by
  have hf := sp_first (gr_start h h60) (c := d) (by omega) hd
  exact chk_first hd hf.1 hf.2
theorem sp_two {q : Rq} (h : q.chk = 0) (h60 : prodL (dimsA q.ax) ≤ 60) {c d : Nat} (hcd : c ≤ d) (hd : d < 8) : (sp (sp q d) c).chk = (c : Int) + 1 := by
  have hf := sp_first (gr_sp (gr_start h h60) hd) (c := c) hcd (by omega)
  exact chk_first (by omega) hf.1 hf.2
end Go.Proofs.YtohcoidbncbijaaDoor.P
