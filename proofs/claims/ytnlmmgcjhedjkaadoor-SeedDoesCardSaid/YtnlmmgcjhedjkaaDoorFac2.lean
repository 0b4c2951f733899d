
/- The contracts of slices.Equal at stages, brackenref04's SameStages. Conditions: slices read as lists. -/
import Derived.Test.YtnlmmgcjhedjkaaDoorFac1
import Derived.Test.YtnlmmgcjhedjkaaDoorShapeB
import Derived.Test.YtnlmmgcjhedjkaaDoorRef05B
import Derived.Deep.Slices
namespace Go.Proofs.YtnlmmgcjhedjkaaDoor.P
open Go.RowKit
set_option linter.unusedVariables false
set_option linter.unusedSimpArgs false
theorem add_next (x : Addr) (i j : Nat) (hj : j ≠ 0) : (⟨(x.add i).block, (x.add i).off + j, none⟩ : Addr) = x.add (i + j) := by
  rw [← Go.Deep.add_add]
  show _ = (if j = 0 then x.add i else ⟨(x.add i).block, (x.add i).off + j, none⟩)
  rw [if_neg hj]
theorem stg_cells {w : World} {x : Addr} {l : List (Int × Int × Int)} (h : Row w (some x) (stR3 l)) {k : Nat} (hk : k < l.length) :
    w.cell? (x.add (k * 3)) = some (.int .i64 l[k].1) ∧ w.cell? ⟨(x.add (k * 3)).block, (x.add (k * 3)).off + 1, none⟩ = some (.int .i64 l[k].2.1) ∧ w.cell? ⟨(x.add (k * 3)).block, (x.add (k * 3)).off + 2, none⟩ = some (.int .i64 l[k].2.2) := by
  have e : ∀ j, j < 3 → (stR3 l)[k * 3 + j]? = (stC3 l[k])[j]? := fun j hj => flat_get stC3 3 (fun _ => rfl) l k hk j hj
  rw [add_next x _ 1 (by decide), add_next x _ 2 (by decide)]
  exact ⟨h.cell (e 0 (by decide)), h.cell (e 1 (by decide)), h.cell (e 2 (by decide))⟩
theorem sameStg_some (x y : Addr) (ca cb : Nat) (l m : List (Int × Int × Int)) (w : World) (hr : Row w (some x) (stR3 l)) (hl : l.length ≤ 9223372036854775807) (hrm : Row w (some y) (stR3 m)) (hlen : m.length = l.length) :
    Calls Tryd.prog 29 #[.slice (some x) l.length ca, .slice (some y) m.length cb] w fun e w' => e = .returned (.bool (decide (l = m))) ∧ Drawn0 w w' := by
  have HR := Lib.hid hr
  have HRM := Lib.hid hrm
  have f0 : ((l.length : Int) != (m.length : Int)) = false := by simp; omega
  clear hr hrm
  go_enter Tryd.func29, Tryd.ntmps29
  go_wp2
  go_loopw [13] (fun i wr => ∃ k : Nat, k ≤ l.length ∧ i = .int .i64 k ∧ Hid (∀ j, (hj : j < l.length) → (hj2 : j < m.length) → j < k → l[j] = m[j]) ∧ Drawn0 w wr) (fun i _ => l.length - (intOf i).toNat)
  case atStart => exact ⟨0, Nat.zero_le _, rfl, Lib.hid fun _ _ _ h => absurd h (Nat.not_lt_zero _), ⟨0, rfl⟩⟩
  case round =>
    obtain ⟨k, hk, rfl, H, ⟨q, rfl⟩⟩ := hrel
    by_cases hlt : k < l.length
    · have hltm : k < m.length := by omega
      obtain ⟨hc0, hc1, hc2⟩ := stg_cells HR.out hlt
      obtain ⟨hd0, hd1, hd2⟩ := stg_cells HRM.out hltm
      generalize hu : l[k] = u at *
      generalize hv : m[k] = v at *
      have HU := Lib.hid hu
      have HV := Lib.hid hv
      clear hu hv
      obtain ⟨u0, u1, u2⟩ := u
      obtain ⟨v0, v1, v2⟩ := v
      dsimp only at hc0 hc1 hc2 hd0 hd1 hd2
      by_cases he : u0 = v0 ∧ u1 = v1 ∧ u2 = v2
      · obtain ⟨e0, e1, e2⟩ := he
        subst e0 e1 e2
        have H2 : Hid (∀ j, (hj : j < l.length) → (hj2 : j < m.length) → j < k + 1 → l[j] = m[j]) := Lib.hid fun j hj hj2 hjk => by
          by_cases e : j = k
          · subst e; rw [HU.out, HV.out]
          · exact H.out j hj hj2 (by omega)
        go_wp2
        go_quiet (fail)
        go_wp2
        go_roundw
        case rel => exact ⟨k + 1, by omega, by go_num, H2, ⟨_, rfl⟩⟩
        case measure => simp [intOf]; omega
      · have HF : Hid (decide (l = m) = false) := Lib.hid (by
          rw [decide_eq_false_iff_not]
          intro h
          subst h
          have h1 := HU.out.symm.trans HV.out
          simp only [Prod.mk.injEq] at h1
          exact he h1)
        have hw : u0 ≠ v0 ∨ (u0 = v0 ∧ u1 ≠ v1) ∨ (u0 = v0 ∧ u1 = v1 ∧ u2 ≠ v2) := by
          by_cases e0 : u0 = v0
          · by_cases e1 : u1 = v1
            · exact .inr (.inr ⟨e0, e1, fun e2 => he ⟨e0, e1, e2⟩⟩)
            · exact .inr (.inl ⟨e0, e1⟩)
          · exact .inl e0
        clear he
        rcases hw with h | ⟨rfl, h⟩ | ⟨rfl, rfl, h⟩
        case' inl => have f1 : (u0 == v0) = false := by simpa using h
        case' inr.inl => have f1 : (u1 == v1) = false := by simpa using h
        case' inr.inr => have f1 : (u2 == v2) = false := by simpa using h
        all_goals
          clear h
          go_wp2
          go_quiet (fail)
          go_wp2
          go_ret
          exact ⟨by rw [HF.out]; rfl, drawn0_add _ _ _⟩
    · have HF : Hid (decide (l = m) = true) := Lib.hid (by
        rw [decide_eq_true_iff]
        apply List.ext_getElem
        · omega
        · intro i h1 h2; exact H.out i h1 h2 (by omega))
      go_wp2
      go_ret
      exact ⟨by rw [HF.out]; rfl, ⟨_, rfl⟩⟩
/- GENERATED below by gen/fac2.py -/
theorem equalStg_some (x y : Addr) (ca cb : Nat) (l m : List (Int × Int × Int)) (w : World) (hr : Row w (some x) (stR3 l)) (hl : l.length ≤ 9223372036854775807) (hrm : Row w (some y) (stR3 m)) (hlen : m.length = l.length) :
    Calls Tryd.prog 69 #[.slice (some x) l.length ca, .slice (some y) m.length cb] w fun e w' => e = .returned (.bool (decide (l = m))) ∧ Drawn0 w w' := by
  have HR := Lib.hid hr
  have HRM := Lib.hid hrm
  have f0 : ((l.length : Int) != (m.length : Int)) = false := by simp; omega
  clear hr hrm
  go_enter Tryd.func69, Tryd.ntmps69
  go_wp2
  go_loopw [13] (fun i wr => ∃ k : Nat, k ≤ l.length ∧ i = .int .i64 k ∧ Hid (∀ j, (hj : j < l.length) → (hj2 : j < m.length) → j < k → l[j] = m[j]) ∧ Drawn0 w wr) (fun i _ => l.length - (intOf i).toNat)
  case atStart => exact ⟨0, Nat.zero_le _, rfl, Lib.hid fun _ _ _ h => absurd h (Nat.not_lt_zero _), ⟨0, rfl⟩⟩
  case round =>
    obtain ⟨k, hk, rfl, H, ⟨q, rfl⟩⟩ := hrel
    by_cases hlt : k < l.length
    · have hltm : k < m.length := by omega
      obtain ⟨hc0, hc1, hc2⟩ := stg_cells HR.out hlt
      obtain ⟨hd0, hd1, hd2⟩ := stg_cells HRM.out hltm
      generalize hu : l[k] = u at *
      generalize hv : m[k] = v at *
      have HU := Lib.hid hu
      have HV := Lib.hid hv
      clear hu hv
      obtain ⟨u0, u1, u2⟩ := u
      obtain ⟨v0, v1, v2⟩ := v
      dsimp only at hc0 hc1 hc2 hd0 hd1 hd2
      by_cases he : u0 = v0 ∧ u1 = v1 ∧ u2 = v2
      · obtain ⟨e0, e1, e2⟩ := he
        subst e0 e1 e2
        have H2 : Hid (∀ j, (hj : j < l.length) → (hj2 : j < m.length) → j < k + 1 → l[j] = m[j]) := Lib.hid fun j hj hj2 hjk => by
          by_cases e : j = k
          · subst e; rw [HU.out, HV.out]
          · exact H.out j hj hj2 (by omega)
        go_wp2
        go_quiet (fail)
        go_wp2
        go_roundw
        case rel => exact ⟨k + 1, by omega, by go_num, H2, ⟨_, rfl⟩⟩
        case measure => simp [intOf]; omega
      · have HF : Hid (decide (l = m) = false) := Lib.hid (by
          rw [decide_eq_false_iff_not]
          intro h
          subst h
          have h1 := HU.out.symm.trans HV.out
          simp only [Prod.mk.injEq] at h1
          exact he h1)
        have hw : u0 ≠ v0 ∨ (u0 = v0 ∧ u1 ≠ v1) ∨ (u0 = v0 ∧ u1 = v1 ∧ u2 ≠ v2) := by
          by_cases e0 : u0 = v0
          · by_cases e1 : u1 = v1
            · exact .inr (.inr ⟨e0, e1, fun e2 => he ⟨e0, e1, e2⟩⟩)
            · exact .inr (.inl ⟨e0, e1⟩)
          · exact .inl e0
        clear he
        rcases hw with h | ⟨rfl, h⟩ | ⟨rfl, rfl, h⟩
        case' inl => have f1 : (u0 == v0) = false := by simpa using h
        case' inr.inl => have f1 : (u1 == v1) = false := by simpa using h
        case' inr.inr => have f1 : (u2 == v2) = false := by simpa using h
        all_goals
          clear h
          go_wp2
          go_quiet (fail)
          go_wp2
          go_ret
          exact ⟨by rw [HF.out]; rfl, drawn0_add _ _ _⟩
    · have HF : Hid (decide (l = m) = true) := Lib.hid (by
        rw [decide_eq_true_iff]
        apply List.ext_getElem
        · omega
        · intro i h1 h2; exact H.out i h1 h2 (by omega))
      go_wp2
      go_ret
      exact ⟨by rw [HF.out]; rfl, ⟨_, rfl⟩⟩
theorem sameStg_calls (A B : Option Addr) (ca cb : Nat) (l m : List (Int × Int × Int)) (w : World) (hr : Row w A (stR3 l)) (hl : l.length ≤ 9223372036854775807) (hrm : Row w B (stR3 m)) :
    Calls Tryd.prog 29 #[.slice A l.length ca, .slice B m.length cb] w fun e w' => e = .returned (.bool (decide (l = m))) ∧ Drawn0 w w' := by
  by_cases hlen : m.length = l.length
  · cases l with
    | nil =>
      have hm : m = [] := by cases m with | nil => rfl | cons a b => simp at hlen
      subst hm
      clear hr hrm hl hlen
      go_enter Tryd.func29, Tryd.ntmps29
      go_wp2
      refine wp_loop_once ?_
      go_wp2
      go_ret
      exact ⟨rfl, ⟨0, rfl⟩⟩
    | cons d l =>
      cases m with
      | nil => simp at hlen
      | cons e m =>
        obtain ⟨x, rfl⟩ := hr.some_of (by intro h; have := stR3_length (d :: l); rw [h] at this; simp at this)
        obtain ⟨y, rfl⟩ := hrm.some_of (by intro h; have := stR3_length (e :: m); rw [h] at this; simp at this)
        exact sameStg_some x y ca cb _ _ w hr hl hrm hlen
  · have HF : Hid (decide (l = m) = false) := Lib.hid (by
      rw [decide_eq_false_iff_not]; intro h; subst h; exact hlen rfl)
    have f0 : ((l.length : Int) != (m.length : Int)) = true := by simp; omega
    clear hr hrm hlen
    go_enter Tryd.func29, Tryd.ntmps29
    go_wp2
    go_ret
    exact ⟨by rw [HF.out]; rfl, ⟨0, rfl⟩⟩
theorem equalStg_calls (A B : Option Addr) (ca cb : Nat) (l m : List (Int × Int × Int)) (w : World) (hr : Row w A (stR3 l)) (hl : l.length ≤ 9223372036854775807) (hrm : Row w B (stR3 m)) :
    Calls Tryd.prog 69 #[.slice A l.length ca, .slice B m.length cb] w fun e w' => e = .returned (.bool (decide (l = m))) ∧ Drawn0 w w' := by
  by_cases hlen : m.length = l.length
  · cases l with
    | nil =>
      have hm : m = [] := by cases m with | nil => rfl | cons a b => simp at hlen
      subst hm
      clear hr hrm hl hlen
      go_enter Tryd.func69, Tryd.ntmps69
      go_wp2
      refine wp_loop_once ?_
      go_wp2
      go_ret
      exact ⟨rfl, ⟨0, rfl⟩⟩
    | cons d l =>
      cases m with
      | nil => simp at hlen
      | cons e m =>
        obtain ⟨x, rfl⟩ := hr.some_of (by intro h; have := stR3_length (d :: l); rw [h] at this; simp at this)
        obtain ⟨y, rfl⟩ := hrm.some_of (by intro h; have := stR3_length (e :: m); rw [h] at this; simp at this)
        exact equalStg_some x y ca cb _ _ w hr hl hrm hlen
  · have HF : Hid (decide (l = m) = false) := Lib.hid (by
      rw [decide_eq_false_iff_not]; intro h; subst h; exact hlen rfl)
    have f0 : ((l.length : Int) != (m.length : Int)) = true := by simp; omega
    clear hr hrm hlen
    go_enter Tryd.func69, Tryd.ntmps69
    go_wp2
    go_ret
    exact ⟨by rw [HF.out]; rfl, ⟨0, rfl⟩⟩
theorem stgS_len (n : Int) : (stgS n).1.length ≤ 9223372036854775807 := by
  by_cases h : (facS n).2 = 0
  · rw [stgS_ok h]
    have := (facS_ok h).1.len
    simp [stgL]; omega
  · rw [stgS_no h]; simp
theorem chk4_calls (n : Int) (A : Option Addr) (ca : Nat) (l : List (Int × Int × Int)) (w : World) (hn : i64 n) (hr : Row w A (stR3 l)) (hl : l.length ≤ 9223372036854775807) (hT : Tab w) :
    Calls Tryd.prog 24 #[.int .i64 n, .slice A l.length ca] w fun e w' => e = .returned (.int .i64 (chk4 n l)) ∧ Below w.heap.size w w' := by
  have HR := Lib.hid hr
  have HI := Lib.hid hn
  have HT := Lib.hid hT
  clear hT
  clear hr hn
  by_cases hs : (stgS n).2 = 0
  case neg =>
    have HF : Hid (chk4 n l = (stgS n).2) := Lib.hid (by rw [chk4, if_neg hs])
    have t0 : ((stgS n).2 != 0) = true := by simpa using hs
    rw [HF.out]
    clear hs
    go_enter Tryd.func24, Tryd.ntmps24
    go_wp2_with fail
    refine (stages_calls n _ HI.out HT.out).mono ?_
    rintro e w1 ⟨Z, z, rfl, ho, hb⟩
    have HB := Lib.hid hb
    clear ho hb
    go_wp2
    go_ret
    exact ⟨rfl, HB.out⟩
  have HL : Hid ((stgS n).1.length ≤ 9223372036854775807) := Lib.hid (stgS_len n)
  by_cases he : (stgS n).1 = l
  case' pos =>
    have HF : Hid (chk4 n l = 0) := Lib.hid (by rw [chk4, if_pos hs, if_pos he])
    have HD : Hid (decide ((stgS n).1 = l) = true) := Lib.hid (by simpa using he)
  case' neg =>
    have HF : Hid (chk4 n l = 1) := Lib.hid (by rw [chk4, if_pos hs, if_neg he])
    have HD : Hid (decide ((stgS n).1 = l) = false) := Lib.hid (by simpa using he)
  all_goals
    rw [HF.out]
    clear he
    go_enter Tryd.func24, Tryd.ntmps24
    go_wp2_with fail
    refine (stages_calls n _ HI.out HT.out).mono ?_
    rw [hs]
    rintro e w1 ⟨Z, z, rfl, ho, hb⟩
    have HB := Lib.hid hb
    have HO := Lib.hid ho.row
    have HR1 := Lib.hid (HR.out.below hb)
    clear ho hb
    go_wp2_with fail
    refine (equalStg_calls _ _ _ _ _ _ _ HO.out HL.out HR1.out).mono ?_
    rw [HD.out]
    rintro e w2 ⟨rfl, ⟨q, rfl⟩⟩
    go_wp2
    go_ret
    exact ⟨rfl, below_drewN HB.out _⟩
end Go.Proofs.YtnlmmgcjhedjkaaDoor.P
