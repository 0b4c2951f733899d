/- Shapes, plainly, and the contracts of package shape's All and brackenref05's All and behind. Conditions: words of their kinds; slices read as lists. -/
import Derived.Test.YtkofhmiakfmcaaaPow2
namespace Go.Proofs.Ytkofhmiakfmcaaa.P
open Go.RowKit
set_option linter.unusedVariables false
set_option linter.unusedSimpArgs false
theorem wrapI {n : Int} (h₀ : 0 ≤ n) (h₁ : n < 9223372036854775808) : IntKind.i64.wrap n = n := by rw [IntKind.wrap_i64]; omega
def prodL : List Int → Int
  | [] => 1
  | d :: l => d * prodL l
theorem prodL_append : ∀ l m : List Int, prodL (l ++ m) = prodL l * prodL m
  | [], m => by simp [prodL]
  | d :: l, m => by simp only [List.cons_append, prodL]; rw [prodL_append l m, Int.mul_assoc]
theorem prodL_take (l : List Int) (k : Nat) (h : k < l.length) : prodL (l.take (k + 1)) = prodL (l.take k) * l[k] := by
  rw [List.take_succ_eq_append_getElem h, prodL_append]; simp [prodL]
theorem prodL_drop (l : List Int) (k : Nat) (h : k < l.length) : prodL (l.drop k) = l[k] * prodL (l.drop (k + 1)) := by
  rw [List.drop_eq_getElem_cons h, prodL]
def Pos (l : List Int) : Prop := ∀ d ∈ l, 1 ≤ d
instance (l : List Int) : Decidable (Pos l) := by unfold Pos; exact inferInstance
theorem Pos.at {l : List Int} (h : Pos l) {k : Nat} (hk : k < l.length) : 1 ≤ l[k] := h _ (List.getElem_mem hk)
theorem Pos.take {l : List Int} (h : Pos l) (k : Nat) : Pos (l.take k) := fun d hd => h d (List.mem_of_mem_take hd)
theorem Pos.drop {l : List Int} (h : Pos l) (k : Nat) : Pos (l.drop k) := fun d hd => h d (List.mem_of_mem_drop hd)
theorem Pos.prod : ∀ {l : List Int}, Pos l → 1 ≤ prodL l
  | [], _ => by simp [prodL]
  | d :: l, h => by
    have h1 : 1 ≤ d := h d (by simp)
    have h2 : 1 ≤ prodL l := Pos.prod fun x hx => h x (by simp [hx])
    have : 1 * 1 ≤ d * prodL l := Int.mul_le_mul h1 h2 (by omega) (by omega)
    simpa [prodL] using this
theorem mul_mono {a b : Int} (ha : 1 ≤ a) (hb : 1 ≤ b) : a ≤ a * b := by
  have : a * 1 ≤ a * b := Int.mul_le_mul_of_nonneg_left hb (by omega)
  omega
theorem Pos.take_le {l : List Int} (h : Pos l) (k : Nat) : prodL (l.take k) ≤ prodL l := by
  have e : prodL l = prodL (l.take k) * prodL (l.drop k) := by rw [← prodL_append, List.take_append_drop]
  rw [e]; exact mul_mono (h.take k).prod (h.drop k).prod
theorem Pos.drop_le {l : List Int} (h : Pos l) (k : Nat) : prodL (l.drop k) ≤ prodL l := by
  have e : prodL l = prodL (l.take k) * prodL (l.drop k) := by rw [← prodL_append, List.take_append_drop]
  rw [e, Int.mul_comm]; exact mul_mono (h.drop k).prod (h.take k).prod
theorem Pos.at_le {l : List Int} (h : Pos l) {k : Nat} (hk : k < l.length) : l[k] ≤ prodL l := by
  have h1 := h.drop_le k
  rw [prodL_drop l k hk] at h1
  exact Int.le_trans (mul_mono (h.at hk) (h.drop (k + 1)).prod) h1
theorem pos_of {l : List Int} (h : ∀ j, (hj : j < l.length) → 1 ≤ l[j]) : Pos l := fun d hd => by
  obtain ⟨j, hj, rfl⟩ := List.getElem_of_mem hd
  exact h j hj
/-- Axes that may be. -/
structure Dims (l : List Int) : Prop where
  n1 : 1 ≤ l.length
  n4 : l.length ≤ 4
  pos : Pos l
  all : prodL l ≤ 4096
instance (l : List Int) : Decidable (Dims l) :=
  if h : 1 ≤ l.length ∧ l.length ≤ 4 ∧ Pos l ∧ prodL l ≤ 4096 then isTrue ⟨h.1, h.2.1, h.2.2.1, h.2.2.2⟩ else isFalse fun d => h ⟨d.n1, d.n4, d.pos, d.all⟩
def allS (l : List Int) : Int × Int := if Dims l then (prodL l, 0) else (0, 3)
theorem allS_yes {l : List Int} (h : Dims l) : allS l = (prodL l, 0) := if_pos h
theorem allS_no {l : List Int} (h : ¬ Dims l) : allS l = (0, 3) := if_neg h
theorem Dims.of_all {l : List Int} (h : (allS l).2 = 0) : Dims l := by
  by_cases hd : Dims l
  · exact hd
  · rw [allS_no hd] at h; exact absurd h (by decide)
theorem all_some (x : Addr) (c : Nat) (l : List Int) (w : World) (hr : Row w (some x) (nums .i64 l)) (h1 : 1 ≤ l.length) (h4 : l.length ≤ 4) (hw : ∀ d ∈ l, i64 d) :
    Calls Try.prog 31 #[.slice (some x) l.length c] w fun e w' => e = .returned (.tuple #[.int .i64 (allS l).1, .int .i64 (allS l).2]) ∧ w' = w := by
  have HR := Lib.hid hr
  have HW := Lib.hid hw
  clear hr hw
  have f0 : decide ((l.length : Int) < 1) = false := by simp; omega
  have f1 : decide (4 < (l.length : Int)) = false := by simp; omega
  go_enter Try.func31, Try.ntmps31
  go_wp2
  go_loopw [4, 17] (fun n i wr => ∃ k : Nat, k ≤ l.length ∧ i = .int .i64 k ∧ n = .int .i64 (prodL (l.take k)) ∧ 1 ≤ prodL (l.take k) ∧ prodL (l.take k) ≤ 4096 ∧ Hid (∀ j, (hj : j < l.length) → j < k → 1 ≤ l[j]) ∧ wr = w) (fun _ i _ => l.length - (intOf i).toNat)
  case atStart => exact ⟨0, Nat.zero_le _, rfl, rfl, by simp [prodL], by simp [prodL], Lib.hid fun _ _ h => absurd h (Nat.not_lt_zero _), rfl⟩
  case round =>
    obtain ⟨k, hk, rfl, rfl, hn1, hn2, H, rfl⟩ := hrel
    by_cases hlt : k < l.length
    · have hc := HR.out.num hlt
      have hp := Lib.hid (prodL_take l k hlt)
      generalize hd : l[k] = d at *
      have HD := Lib.hid hd
      by_cases g0 : d < 1
      · have HF : Hid (allS l = (0, 3)) := Lib.hid (allS_no fun D => by have := D.pos.at hlt; omega)
        have g1 : decide (d < 1) = true := by simpa using g0
        clear g0 hd
        go_wp2
        go_ret2
        exact ⟨by rw [HF.out]; rfl, rfl⟩
      · have g1 : decide (d < 1) = false := by simpa using g0
        by_cases g2 : 4096 < d
        · have HF : Hid (allS l = (0, 3)) := Lib.hid (allS_no fun D => by have := D.pos.at_le hlt; have := D.all; omega)
          have g3 : decide (4096 < d) = true := by simpa using g2
          clear hd
          go_wp2
          go_ret2
          exact ⟨by rw [HF.out]; rfl, rfl⟩
        · have g3 : decide (4096 < d) = false := by simpa using g2
          generalize hN : prodL (l.take k) = N at *
          have hm0 : 1 ≤ N * d := by have := mul_mono hn1 (show 1 ≤ d by omega); omega
          have hm1 : N * d ≤ 16777216 := by
            have : N * d ≤ 4096 * 4096 := Int.mul_le_mul hn2 (by omega) (by omega) (by omega)
            omega
          by_cases g4 : 4096 < N * d
          · have HF : Hid (allS l = (0, 3)) := Lib.hid (allS_no fun D => by
              have := D.pos.take_le (k + 1); have := D.all; have := hp.out; omega)
            clear hN hd
            generalize hM : N * d = M at *
            have g5 : decide (4096 < M) = true := by simpa using g4
            go_wp2
            go_ret2
            exact ⟨by rw [HF.out]; rfl, rfl⟩
          · have H2 : Hid (∀ j, (hj : j < l.length) → j < k + 1 → 1 ≤ l[j]) := Lib.hid fun j hj hjk => by
              by_cases e : j = k
              · subst e; have := HD.out; omega
              · exact H.out j hj (by omega)
            clear hN hd
            generalize hM : N * d = M at *
            have g5 : decide (4096 < M) = false := by simpa using g4
            go_wp2
            go_roundw
            case rel => exact ⟨k + 1, by omega, by go_num, by rw [hp.out], by have := hp.out; omega, by have := hp.out; omega, H2, by trivial⟩
            case measure => simp [intOf]; omega
    · have hk2 : k = l.length := by omega
      subst hk2
      have HT : Hid (l.take l.length = l) := Lib.hid (List.take_length)
      have HF : Hid (allS l = (prodL (l.take l.length), 0)) := Lib.hid (by
        rw [HT.out]
        rw [HT.out] at hn2
        exact allS_yes ⟨h1, h4, pos_of fun j hj => H.out j hj hj, hn2⟩)
      go_wp2
      go_ret2
      exact ⟨by rw [HF.out]; rfl, rfl⟩
theorem all_calls (A : Option Addr) (c : Nat) (l : List Int) (w : World) (hr : Row w A (nums .i64 l)) (hl : l.length ≤ 9223372036854775807) (hw : ∀ d ∈ l, i64 d) :
    Calls Try.prog 31 #[.slice A l.length c] w fun e w' => e = .returned (.tuple #[.int .i64 (allS l).1, .int .i64 (allS l).2]) ∧ w' = w := by
  by_cases h : 1 ≤ l.length ∧ l.length ≤ 4
  · obtain ⟨x, rfl⟩ := hr.some_of (by intro h0; have := nums_length .i64 l; rw [h0] at this; simp at this; omega)
    exact all_some x c l w hr h.1 h.2 hw
  · have HF : Hid (allS l = (0, 3)) := Lib.hid (allS_no fun D => h ⟨D.n1, D.n4⟩)
    clear hr hw
    by_cases h0 : l.length < 1
    · have f0 : decide ((l.length : Int) < 1) = true := by simp; omega
      clear h
      go_enter Try.func31, Try.ntmps31
      go_wp2
      go_ret2
      exact ⟨by rw [HF.out]; rfl, rfl⟩
    · have f0 : decide ((l.length : Int) < 1) = false := by simp; omega
      have f1 : decide (4 < (l.length : Int)) = true := by simp; omega
      clear h
      go_enter Try.func31, Try.ntmps31
      go_wp2
      go_ret2
      exact ⟨by rw [HF.out]; rfl, rfl⟩
end Go.Proofs.Ytkofhmiakfmcaaa.P
