/- Several texts as one: Ref05, Ref05b, Ref05c, Ref05d, SameU. Conditions: those of each lemma. -/
import Derived.Test.YtohcoidbncbijaaDoorShapeB
import Derived.Test.YtohcoidbncbijaaDoorRefB
import Derived.WalkMore
import Derived.BigQuiet
import Derived.Deep.QuietTactic
/- The contracts of brackenref05's behind, All, Inner. Conditions: words of their kinds; slices read as lists; behind's products stay small. -/
namespace Go.Proofs.YtohcoidbncbijaaDoor.P
open Go.RowKit
set_option linter.unusedVariables false
set_option linter.unusedSimpArgs false
theorem behind_calls (A : Option Addr) (c : Nat) (m : List Int) (w : World) (hr : Row w A (nums .i64 m)) (hl : m.length ≤ 9223372036854775807) (hp : Pos m) (hb : prodL m ≤ 4096) :
    Calls Tryd.prog 126 #[.slice A m.length c] w fun e w' => e = .returned (.int .i64 (prodL m)) ∧ w' = w := by
  cases m with
  | nil =>
    go_enter Tryd.func126, Tryd.ntmps126
    go_wp2
    refine wp_loop_once ?_
    go_wp2
    go_ret
    exact ⟨rfl, rfl⟩
  | cons d0 m0 =>
    obtain ⟨y, rfl⟩ := hr.some_of (by simp [nums])
    generalize d0 :: m0 = m at *
    have HR := Lib.hid hr
    have HP := Lib.hid hp
    have HB := Lib.hid hb
    clear hr hp hb
    go_enter Tryd.func126, Tryd.ntmps126
    go_wp2
    go_loopw [3, 8] (fun n i wr => ∃ k : Nat, k ≤ m.length ∧ i = .int .i64 k ∧ n = .int .i64 (prodL (m.take k)) ∧ wr = w) (fun _ i _ => m.length - (intOf i).toNat)
    case atStart => exact ⟨0, Nat.zero_le _, rfl, rfl, rfl⟩
    case round =>
      obtain ⟨k, hk, rfl, rfl, rfl⟩ := hrel
      by_cases hlt : k < m.length
      · have hc := HR.out.num hlt
        have hp := Lib.hid (prodL_take m k hlt)
        have h1 := HP.out.take_le (k + 1)
        have h2 := (HP.out.take (k + 1)).prod
        have h3 := HB.out
        rw [hp.out] at h1 h2
        generalize m[k] = d at *
        generalize prodL (m.take k) = V at *
        generalize hM : V * d = M at *
        have hm1 : M ≤ 4096 := by omega
        clear h1 h3
        go_wp2
        go_roundw
        case rel => exact ⟨k + 1, by omega, by go_num, by rw [hp.out], by trivial⟩
        case measure => simp [intOf]; omega
      · have hk2 : k = m.length := by omega
        subst hk2
        have HT : Hid (m.take m.length = m) := Lib.hid (List.take_length)
        go_wp2
        go_ret
        exact ⟨by rw [HT.out]; rfl, rfl⟩
theorem pow4096 (k : Nat) (h : k ≤ 3) : (4096 : Int) ^ k ≤ 68719476736 := by
  match k, h with
  | 0, _ => decide
  | 1, _ => decide
  | 2, _ => decide
  | 3, _ => decide
theorem r05_all_some (x : Addr) (c : Nat) (l : List Int) (w : World) (hr : Row w (some x) (nums .i64 l)) (h1 : 1 ≤ l.length) (h4 : l.length ≤ 4) (hw : ∀ d ∈ l, i64 d) :
    Calls Tryd.prog 56 #[.slice (some x) l.length c] w fun e w' => e = .returned (.tuple #[.int .i64 (allS l).1, .int .i64 (allS l).2]) ∧ w' = w := by
  have HR := Lib.hid hr
  have HW := Lib.hid hw
  clear hr hw
  have f0 : decide ((l.length : Int) < 1) = false := by simp; omega
  have f1 : decide (4 < (l.length : Int)) = false := by simp; omega
  go_enter Tryd.func56, Tryd.ntmps56
  go_wp2
  go_loopw [4, 17] (fun n i wr => ∃ k : Nat, k ≤ l.length ∧ i = .int .i64 k ∧ n = .int .i64 (prodL (l.take k)) ∧ 1 ≤ prodL (l.take k) ∧ prodL (l.take k) ≤ 281474976710656 ∧ Hid (prodL (l.take k) ≤ 4096 ^ k) ∧ Hid (∀ j, (hj : j < l.length) → j < k → 1 ≤ l[j]) ∧ wr = w) (fun _ i _ => l.length - (intOf i).toNat)
  case atStart => exact ⟨0, Nat.zero_le _, rfl, rfl, by simp [prodL], by simp [prodL], Lib.hid (by simp [prodL]), Lib.hid fun _ _ h => absurd h (Nat.not_lt_zero _), rfl⟩
  case round =>
    obtain ⟨k, hk, rfl, rfl, hn1, hn2, HN, H, rfl⟩ := hrel
    by_cases hlt : k < l.length
    · have hc := HR.out.num hlt
      have hp := Lib.hid (prodL_take l k hlt)
      generalize hd : l[k] = d at *
      have HD := Lib.hid hd
      by_cases g0 : d < 1
      · have HF : Hid (allS l = (0, 3)) := Lib.hid (allS_no fun D => by have := D.pos.at hlt; omega)
        have g1 : decide (d < 1) = true := by simpa using g0
        clear g0 hd
        go_wp2
        go_ret2
        exact ⟨by rw [HF.out]; rfl, rfl⟩
      · have g1 : decide (d < 1) = false := by simpa using g0
        by_cases g2 : 4096 < d
        · have HF : Hid (allS l = (0, 3)) := Lib.hid (allS_no fun D => by have := D.pos.at_le hlt; have := D.all; omega)
          have g3 : decide (4096 < d) = true := by simpa using g2
          clear hd
          go_wp2
          go_ret2
          exact ⟨by rw [HF.out]; rfl, rfl⟩
        · have g3 : decide (4096 < d) = false := by simpa using g2
          generalize hN : prodL (l.take k) = N at *
          have hm0 : 1 ≤ N * d := by have := mul_mono hn1 (show 1 ≤ d by omega); omega
          have HP : Hid (N * d ≤ 4096 ^ (k + 1)) := Lib.hid (by
            rw [Int.pow_succ]
            exact Int.mul_le_mul HN.out (by omega) (by omega) (Int.le_of_lt (Int.pow_pos (by omega))))
          have hm1 : N * d ≤ 281474976710656 := by
            have h5 := pow4096 k (by omega)
            have h6 : N * d ≤ 68719476736 * 4096 := Int.mul_le_mul (Int.le_trans HN.out h5) (by omega) (by omega) (by omega)
            omega
          have H2 : Hid (∀ j, (hj : j < l.length) → j < k + 1 → 1 ≤ l[j]) := Lib.hid fun j hj hjk => by
            by_cases e : j = k
            · subst e; have := HD.out; omega
            · exact H.out j hj (by omega)
          clear hN hd
          generalize hM : N * d = M at *
          go_wp2
          go_roundw
          case rel => exact ⟨k + 1, by omega, by go_num, by rw [hp.out], by have := hp.out; omega, by have := hp.out; omega, Lib.hid (by rw [hp.out]; exact HP.out), H2, by trivial⟩
          case measure => simp [intOf]; omega
    · have hk2 : k = l.length := by omega
      subst hk2
      have HT : Hid (l.take l.length = l) := Lib.hid (List.take_length)
      have HPL : Hid (prodL (l.take l.length) = prodL l) := Lib.hid (by rw [HT.out])
      have HPOS : Hid (Pos l) := Lib.hid (pos_of fun j hj => H.out j hj hj)
      generalize prodL (l.take l.length) = V at *
      by_cases g4 : 4096 < V
      · have HF : Hid (allS l = (0, 3)) := Lib.hid (allS_no fun D => by have := D.all; have := HPL.out; omega)
        have g5 : decide (4096 < V) = true := by simpa using g4
        go_wp2
        go_ret2
        exact ⟨by rw [HF.out]; rfl, rfl⟩
      · have HF : Hid (allS l = (V, 0)) := Lib.hid (by
          rw [HPL.out]
          exact allS_yes ⟨h1, h4, HPOS.out, by have := HPL.out; omega⟩)
        have g5 : decide (4096 < V) = false := by simpa using g4
        go_wp2
        go_ret2
        exact ⟨by rw [HF.out]; rfl, rfl⟩
theorem r05_all (A : Option Addr) (c : Nat) (l : List Int) (w : World) (hr : Row w A (nums .i64 l)) (hl : l.length ≤ 9223372036854775807) (hw : ∀ d ∈ l, i64 d) :
    Calls Tryd.prog 56 #[.slice A l.length c] w fun e w' => e = .returned (.tuple #[.int .i64 (allS l).1, .int .i64 (allS l).2]) ∧ w' = w := by
  by_cases h : 1 ≤ l.length ∧ l.length ≤ 4
  · obtain ⟨x, rfl⟩ := hr.some_of (by intro h0; have := nums_length .i64 l; rw [h0] at this; simp at this; omega)
    exact r05_all_some x c l w hr h.1 h.2 hw
  · have HF : Hid (allS l = (0, 3)) := Lib.hid (allS_no fun D => h ⟨D.n1, D.n4⟩)
    clear hr hw
    by_cases h0 : l.length < 1
    · have f0 : decide ((l.length : Int) < 1) = true := by simp; omega
      clear h
      go_enter Tryd.func56, Tryd.ntmps56
      go_wp2
      go_ret2
      exact ⟨by rw [HF.out]; rfl, rfl⟩
    · have f0 : decide ((l.length : Int) < 1) = false := by simp; omega
      have f1 : decide (4 < (l.length : Int)) = true := by simp; omega
      clear h
      go_enter Tryd.func56, Tryd.ntmps56
      go_wp2
      go_ret2
      exact ⟨by rw [HF.out]; rfl, rfl⟩
end Go.Proofs.YtohcoidbncbijaaDoor.P
/- The contracts of brackenref05's Inner, Flat and Coord. Conditions: words of their kinds; slices read as lists. -/
namespace Go.Proofs.YtohcoidbncbijaaDoor.P
open Go.RowKit
set_option linter.unusedVariables false
set_option linter.unusedSimpArgs false
theorem behind_drop {x : Addr} {A : Option Addr} {n c' N : Nat} {l : List Int} (w : World) (hr : Row w (some x) (nums .i64 l)) (hd : Dims l)
    (hA : (A = some x ∧ n = 0 ∧ l.length ≤ N + 1) ∨ (A = some (x.add (N + 1)) ∧ n = l.length - (N + 1))) :
    Calls Tryd.prog 126 #[.slice A n c'] w fun e w' => e = .returned (.int .i64 (prodL (l.drop (N + 1)))) ∧ w' = w := by
  have h4 := hd.n4
  rcases hA with ⟨rfl, rfl, h⟩ | ⟨rfl, rfl⟩
  · rw [List.drop_eq_nil_of_le h]
    exact behind_calls (some x) c' [] w (Row.nil _ _) (by simp) (fun d hd => by cases hd) (by simp [prodL])
  · have e : l.length - (N + 1) = (l.drop (N + 1)).length := by simp
    rw [e]
    exact behind_calls _ c' _ w (hr.drop (N + 1)) (by simp; omega) (hd.pos.drop _) (by have := hd.pos.drop_le (N + 1); have := hd.all; omega)
theorem r05_flat (A B : Option Addr) (ca cb : Nat) (l c : List Int) (w : World) (hr : Row w A (nums .i64 l)) (hl : l.length ≤ 9223372036854775807) (hcap : l.length ≤ ca) (hw : ∀ d ∈ l, i64 d) (hrc : Row w B (nums .i64 c)) (hlc : c.length ≤ 9223372036854775807) (hwc : ∀ d ∈ c, i64 d) :
    Calls Tryd.prog 127 #[.slice A l.length ca, .slice B c.length cb] w fun e w' => e = .returned (.tuple #[.int .i64 (flatS l c).1, .int .i64 (flatS l c).2]) ∧ w' = w := by
  have HR := Lib.hid hr
  have HL := Lib.hid hl
  have HW := Lib.hid hw
  have HRC := Lib.hid hrc
  have HWC := Lib.hid hwc
  clear hr hl hw hrc hwc
  by_cases hd : Dims l
  · have HA := Lib.hid (allS_yes hd)
    have HD := Lib.hid hd
    have hn1 := hd.n1
    have hn4 := hd.n4
    by_cases hlen : c.length = l.length
    · obtain ⟨x, rfl⟩ := HR.out.some_of (by intro h0; have := nums_length .i64 l; rw [h0] at this; simp at this; omega)
      obtain ⟨y, rfl⟩ := HRC.out.some_of (by intro h0; have := nums_length .i64 c; rw [h0] at this; simp at this; omega)
      have f0 : ((c.length : Int) != (l.length : Int)) = false := by simp; omega
      have HF1 : Hid (Fits l c → flatS l c = (hor l c l.length, 0)) := Lib.hid fun h => by rw [flatS, if_pos HD.out, if_pos h]
      have HF2 : Hid (¬ Fits l c → flatS l c = (0, 1)) := Lib.hid fun h => by rw [flatS, if_pos HD.out, if_neg h]
      clear hd
      go_enter Tryd.func127, Tryd.ntmps127
      go_wp2_with (go_at_call 56; refine (r05_all _ _ _ _ HR.out HL.out HW.out).mono ?_; rw [HA.out]; rintro e w' ⟨rfl, rfl⟩)
      go_loopw [8, 26] (fun v i wr => ∃ k : Nat, k ≤ l.length ∧ i = .int .i64 k ∧ v = .int .i64 (hor l c k * prodL (l.drop k)) ∧ Hid (∀ j, j < k → 0 ≤ c.getD j 0 ∧ c.getD j 0 < l.getD j 1) ∧ wr = w') (fun _ i _ => l.length - (intOf i).toNat)
      case atStart => exact ⟨0, Nat.zero_le _, rfl, by simp [hor], Lib.hid fun _ h => absurd h (Nat.not_lt_zero _), rfl⟩
      case round =>
        obtain ⟨k, hk, rfl, rfl, H, rfl⟩ := hrel
        by_cases hlt : k < l.length
        · have hltc : k < c.length := by omega
          have hc1 := HRC.out.num hltc
          have hc2 := HR.out.num hlt
          have HD1 := Lib.hid (HD.out.pos.at hlt)
          have HD2 : Hid (l[k] ≤ 4096) := Lib.hid (by have := HD.out.pos.at_le hlt; have := HD.out.all; omega)
          have HB := Lib.hid (hor_bound HD.out.pos k hk H.out)
          have HT := Lib.hid (HD.out.pos.take_le k)
          have HAL := Lib.hid HD.out.all
          have HS : Hid (hor l c (k + 1) = hor l c k * l[k] + c[k]) := Lib.hid (by simp only [hor]; rw [getD_at hlt, getD_at hltc])
          have HX1 := Lib.hid (getD_at hlt 1)
          have HX2 := Lib.hid (getD_at hltc 0)
          generalize l[k] = d at *
          generalize c[k] = u at *
          have hd1 := HD1.out
          have hd2 := HD2.out
          by_cases g0 : u < 0
          · have HN := Lib.hid (HF2.out (fun h => by have := h.2 k hlt; rw [HX2.out] at this; omega))
            have g1 : decide (u < 0) = true := by simpa using g0
            clear g0
            go_wp2
            go_ret2
            exact ⟨by rw [HN.out]; rfl, rfl⟩
          · have g1 : decide (u < 0) = false := by simpa using g0
            by_cases g2 : d ≤ u
            · have HN := Lib.hid (HF2.out (fun h => by have := h.2 k hlt; rw [HX2.out, HX1.out] at this; omega))
              have g3 : decide (d ≤ u) = true := by simpa using g2
              clear g2
              go_wp2
              go_ret2
              exact ⟨by rw [HN.out]; rfl, rfl⟩
            · have g3 : decide (d ≤ u) = false := by simpa using g2
              have hb := HB.out
              have ht := HT.out
              have ha := HAL.out
              have HPD := Lib.hid (prodL_drop l k hlt)
              have HPP := Lib.hid (HD.out.pos.drop (k + 1)).prod
              have HPQ : Hid (prodL (l.drop (k + 1)) ≤ 4096) := Lib.hid (by have := HD.out.pos.drop_le (k + 1); omega)
              have HS2 : Hid (hor l c (k + 1) * prodL (l.drop (k + 1)) = hor l c k * prodL (l.drop k) + u * prodL (l.drop (k + 1))) := Lib.hid (by
                rw [HS.out, HPD.out, Int.add_mul]
                congr 1
                rw [Int.mul_assoc]
                congr 2
                exact (HX1.out.symm.trans (getD_at hlt 1)))
              have hs0 : 0 ≤ hor l c k * prodL (l.drop k) := Int.mul_nonneg hb.1 (by have := (HD.out.pos.drop k).prod; omega)
              have hs1 : hor l c k * prodL (l.drop k) ≤ 16777216 := by
                have h6 := HD.out.pos.drop_le k
                have : hor l c k * prodL (l.drop k) ≤ 4096 * 4096 := Int.mul_le_mul (by omega) (by omega) (by have := (HD.out.pos.drop k).prod; omega) (by omega)
                omega
              have hp1 := HPP.out
              have hp2 := HPQ.out
              generalize hor l c k * prodL (l.drop k) = S at *
              generalize hP : prodL (l.drop (k + 1)) = P at *
              have hm0 : 0 ≤ u * P := Int.mul_nonneg (by omega) (by omega)
              have hm1 : u * P ≤ 16777216 := by
                have : u * P ≤ 4096 * 4096 := Int.mul_le_mul (by omega) hp2 (by omega) (by omega)
                omega
              have H2 : Hid (∀ j, j < k + 1 → 0 ≤ c.getD j 0 ∧ c.getD j 0 < l.getD j 1) := Lib.hid fun j hj => by
                by_cases e : j = k
                · subst e; rw [HX1.out, HX2.out]; omega
                · exact H.out j (by omega)
              have HPE := Lib.hid hP
              clear hb ht ha hP
              generalize hM : u * P = M at *
              by_cases hcx : ca = k + 1
              · have hlk : l.length ≤ k + 1 := by omega
                have hce : (ca = k + 1) = True := by simp [hcx]
                clear hcx
                go_wp2_with fail
                refine (behind_drop (N := k) _ HR.out HD.out (.inl ⟨rfl, by omega, by omega⟩)).mono ?_
                rw [HPE.out]
                rintro e w3 ⟨rfl, rfl⟩
                go_wp2
                go_roundw
                case rel => exact ⟨k + 1, by omega, by go_num, by rw [HPE.out, HS2.out], H2, by trivial⟩
                case measure => simp [intOf]; omega
              · have hce : (ca = k + 1) = False := by simp [hcx]
                clear hcx
                go_wp2_with fail
                refine (behind_drop (N := k) _ HR.out HD.out (.inr ⟨by simp [Addr.add], rfl⟩)).mono ?_
                rw [HPE.out]
                rintro e w3 ⟨rfl, rfl⟩
                go_wp2
                go_roundw
                case rel => exact ⟨k + 1, by omega, by go_num, by rw [HPE.out, HS2.out], H2, by trivial⟩
                case measure => simp [intOf]; omega
        · have hk2 : k = l.length := by omega
          subst hk2
          have HN := Lib.hid (HF1.out ⟨by omega, H.out⟩)
          have HE : Hid (hor l c l.length * prodL (l.drop l.length) = hor l c l.length) := Lib.hid (by rw [List.drop_length]; simp [prodL])
          rw [HE.out]
          go_wp2
          go_ret2
          exact ⟨by rw [HN.out]; rfl, rfl⟩
    · have HF : Hid (flatS l c = (0, 1)) := Lib.hid (by rw [flatS, if_pos hd, if_neg (fun h => hlen h.1)])
      have f0 : ((c.length : Int) != (l.length : Int)) = true := by simp; omega
      clear hd hlen
      go_enter Tryd.func127, Tryd.ntmps127
      go_wp2_with (go_at_call 56; refine (r05_all _ _ _ _ HR.out HL.out HW.out).mono ?_; rw [HA.out]; rintro e w' ⟨rfl, rfl⟩)
      go_ret2
      exact ⟨by rw [HF.out]; rfl, rfl⟩
  · have HF : Hid (flatS l c = (0, 3)) := Lib.hid (by rw [flatS, if_neg hd])
    have HA := Lib.hid (allS_no hd)
    clear hd
    go_enter Tryd.func127, Tryd.ntmps127
    go_wp2_with (go_at_call 56; refine (r05_all _ _ _ _ HR.out HL.out HW.out).mono ?_; rw [HA.out]; rintro e w' ⟨rfl, rfl⟩)
    go_ret2
    exact ⟨by rw [HF.out]; rfl, rfl⟩
end Go.Proofs.YtohcoidbncbijaaDoor.P
/- The contract of brackenref05's Coord. Conditions: words of their kinds; slices read as lists. -/
namespace Go.Proofs.YtohcoidbncbijaaDoor.P
open Go.RowKit
set_option linter.unusedVariables false
set_option linter.unusedSimpArgs false
theorem r05_coord (A : Option Addr) (c : Nat) (l : List Int) (i : Int) (w : World) (hr : Row w A (nums .i64 l)) (hl : l.length ≤ 9223372036854775807) (hcap : l.length ≤ c) (hw : ∀ d ∈ l, i64 d) (hi : i64 i) :
    Calls Tryd.prog 90 #[.slice A l.length c, .int .i64 i] w fun e w' => ∃ B b,
      e = .returned (.tuple #[.slice B (coordS l i).1.length b, .int .i64 (coordS l i).2]) ∧ Own w' w.heap.size 3 1 B (coordS l i).1.length b (nums .i64 (coordS l i).1) ∧ Below w.heap.size w w' := by
  have HR := Lib.hid hr
  have HL := Lib.hid hl
  have HW := Lib.hid hw
  clear hr hl hw
  by_cases hd : Dims l
  · have HA := Lib.hid (allS_yes hd)
    by_cases hin : 0 ≤ i ∧ i < prodL l
    · obtain ⟨i0, i1⟩ := hin
      have HF : Hid (coordS l i = (coordL l i, 0)) := Lib.hid (by rw [coordS, if_pos hd, if_pos ⟨i0, i1⟩])
      have HLL : Hid ((coordL l i).length = l.length) := Lib.hid (by simp [coordL])
      have hn1 := hd.n1
      have hn4 := hd.n4
      obtain ⟨x, rfl⟩ := HR.out.some_of (by intro h0; have := nums_length .i64 l; rw [h0] at this; simp at this; omega)
      have HD := Lib.hid hd
      rw [HF.out, show ((coordL l i, (0 : Int)).1) = coordL l i from rfl, show ((coordL l i, (0 : Int)).2) = 0 from rfl, HLL.out]
      have f0 : decide (i < 0) = false := by simp; omega
      have f1 : decide (prodL l ≤ i) = false := by simp; omega
      have hi4 : i ≤ 4095 := by have := hd.all; omega
      clear hd hi
      go_enter Tryd.func90, Tryd.ntmps90
      go_wp2_with (go_at_call 56; refine (r05_all _ _ _ _ HR.out HL.out HW.out).mono ?_; rw [HA.out]; rintro e w' ⟨rfl, rfl⟩)
      go_loopw [8, 28] (fun o q wr => ∃ (k : Nat) (Z : Option Addr) (z : Nat), k ≤ l.length ∧ q = .int .i64 k ∧ o = .slice Z k z ∧ Hid (Own wr w'.heap.size 3 1 Z k z (nums .i64 ((List.range k).map (coordF l i)))) ∧ Hid (Below w'.heap.size w' wr)) (fun _ q _ => l.length - (intOf q).toNat)
      case atStart => exact ⟨0, none, 0, Nat.zero_le _, rfl, rfl, Lib.hid (Own.nil _ _ _ _), Lib.hid (Below.refl _ _)⟩
      case round =>
        obtain ⟨k, Z, z, hk, rfl, rfl, HO2, HB2⟩ := hrel
        by_cases hlt : k < l.length
        · have hc : wr.cell? (x.add k) = some (.int .i64 l[k]) := (HR.out.below HB2.out).num hlt
          have HRR := Lib.hid (HR.out.below HB2.out)
          have HC := Lib.hid (coordF_at l i k hlt)
          have hd1 := HD.out.pos.at hlt
          have hP1 := (HD.out.pos.drop (k + 1)).prod
          generalize hd : l[k] = d at *
          generalize hP : prodL (l.drop (k + 1)) = P at *
          have HPE := Lib.hid hP
          have hq0 : 0 ≤ i / P := Int.ediv_nonneg i0 (by omega)
          have hq1 : i / P ≤ i := Int.ediv_le_self _ i0
          have ht1 : i.tdiv P = i / P := Int.tdiv_eq_ediv_of_nonneg i0
          have hwq : IntKind.i64.wrap (i / P) = i / P := wrapI hq0 (by omega)
          have hwq2 : wrap64 (i / P) = i / P := wrap64_id ⟨by omega, by omega⟩
          have ht2 : (i / P).tmod d = i / P % d := Int.tmod_eq_emod_of_nonneg hq0
          have hP0 : ¬ P = 0 := by omega
          have hd0 : ¬ d = 0 := by omega
          have HSZ := Lib.hid HB2.out.size
          clear hP hd
          by_cases hcx : c = k + 1
          case' pos =>
            have hlk : l.length ≤ k + 1 := by omega
            have hce : (c = k + 1) = True := by simp [hcx]
            clear hcx
            go_wp2_with fail
            refine (behind_drop (N := k) _ HRR.out HD.out (.inl ⟨rfl, by omega, by omega⟩)).mono ?_
          case' neg =>
            have hce : (c = k + 1) = False := by simp [hcx]
            clear hcx
            go_wp2_with fail
            refine (behind_drop (N := k) _ HRR.out HD.out (.inr ⟨by simp [Addr.add], rfl⟩)).mono ?_
          all_goals
            rw [HPE.out]
            rintro e w3 ⟨rfl, rfl⟩
            go_wp2_with (at_builtin; refine append_row _ Tryd.underlying70 info_int rfl _ _ rfl w'.heap.size k z 1 1 Z ⟨w3.heap.size, 0, none⟩ ((List.range k).map (coordF l i)) [i / P % d] rfl rfl (HO2.out.grown ((Below.refl _ _).alloc (Nat.le_refl _) _)) (row_new w3 [.int .i64 (i / P % d)] 3) rfl (by decide) (Nat.le_trans HSZ.out (by simp)) (by omega) (by omega) ?_; intro g cap2 w5 hown hbel hgrow hlt5)
            have HO5 : Hid (Own w5 w'.heap.size 3 1 (some ⟨g, 0, none⟩) (k + 1) cap2 (nums .i64 ((List.range (k + 1)).map (coordF l i)))) := Lib.hid (by
              rw [List.range_succ, List.map_append, List.map_singleton, HC.out]; exact hown)
            have HB5 : Hid (Below w'.heap.size w' w5) := Lib.hid ((HB2.out.alloc HSZ.out _).trans (hbel.mono (Nat.le_refl _)))
            clear hown hbel hgrow hlt5
            go_roundw
            case rel => exact ⟨k + 1, some ⟨g, 0, none⟩, cap2, by omega, by go_num, rfl, HO5, HB5⟩
            case measure => simp [intOf]; omega
        · have hke : k = l.length := by omega
          subst hke
          go_wp2
          go_ret2
          exact ⟨_, _, rfl, HO2.out, HB2.out⟩
    · have HF : Hid (coordS l i = ([], 1)) := Lib.hid (by rw [coordS, if_pos hd, if_neg hin])
      rw [HF.out]
      by_cases h0 : i < 0
      · have f0 : decide (i < 0) = true := by simpa using h0
        clear hin hd
        go_enter Tryd.func90, Tryd.ntmps90
        go_wp2_with (go_at_call 56; refine (r05_all _ _ _ _ HR.out HL.out HW.out).mono ?_; rw [HA.out]; rintro e w' ⟨rfl, rfl⟩)
        go_ret2
        exact ⟨none, 0, rfl, Own.nil _ _ _ _, Below.refl _ _⟩
      · have f0 : decide (i < 0) = false := by simpa using h0
        have f1 : decide (prodL l ≤ i) = true := by simp; omega
        clear hin hd
        go_enter Tryd.func90, Tryd.ntmps90
        go_wp2_with (go_at_call 56; refine (r05_all _ _ _ _ HR.out HL.out HW.out).mono ?_; rw [HA.out]; rintro e w' ⟨rfl, rfl⟩)
        go_ret2
        exact ⟨none, 0, rfl, Own.nil _ _ _ _, Below.refl _ _⟩
  · have HF : Hid (coordS l i = ([], 3)) := Lib.hid (by rw [coordS, if_neg hd])
    have HA := Lib.hid (allS_no hd)
    rw [HF.out]
    clear hd
    go_enter Tryd.func90, Tryd.ntmps90
    go_wp2_with (go_at_call 56; refine (r05_all _ _ _ _ HR.out HL.out HW.out).mono ?_; rw [HA.out]; rintro e w' ⟨rfl, rfl⟩)
    go_ret2
    exact ⟨none, 0, rfl, Own.nil _ _ _ _, Below.refl _ _⟩
end Go.Proofs.YtohcoidbncbijaaDoor.P
/- The contract of brackenref05's Line. Conditions: words of their kinds; slices read as lists. -/
namespace Go.Proofs.YtohcoidbncbijaaDoor.P
open Go.RowKit
set_option linter.unusedVariables false
set_option linter.unusedSimpArgs false
/-- What ref05's Line leans on. -/
structure LineK (l : List Int) (N : Nat) (I : Int) (D n K k : Nat) : Prop where
  I1 : 1 ≤ I
  D1 : 1 ≤ D
  D2 : D ≤ 4096
  n2 : n ≤ 4096
  kK : k < K
  c0 : ∀ V : Nat, V < n → coordS l V = (coordL l V, 0) ∧ (coordL l V).getD N 0 = xOf I D V
  at0 : ∀ (s V : Nat), V < n → s ≤ k → Seen I D s V → xOf I D V = 0 → (V : Int) = vOf I D s 0
  set : ∀ (x V : Nat), (V : Int) = vOf I D k 0 → x < D → (coordL l V).set N (x : Int) = coordL l (vOf I D k x)
  flat : ∀ x : Nat, x < D → flatS l (coordL l (vOf I D k x)) = (lineG l N k x, 0) ∧ ∀ d ∈ coordL l (vOf I D k x), i64 d
  len : lineL l N k = (List.range D).map (lineG l N k)
  lenD : (lineL l N k).length = D
  end' : ∀ s : Nat, s ≤ k → ¬ Seen I D s n
theorem lineK_of {l : List Int} (hd : Dims l) {N : Nat} (hN : N < l.length) {D n K k : Nat} (hD : l[N] = (D : Int)) (hn : prodL l = (n : Int)) (h : Lines l N (prodL (l.drop (N + 1))) D n K) (hk : k < K) :
    LineK l N (prodL (l.drop (N + 1))) D n K k := by
  have hd1 := hd.pos.at hN
  have hO1 := (hd.pos.take N).prod
  have hprod : prodL l = prodL (l.take N) * l[N] * prodL (l.drop (N + 1)) := by
    rw [← prodL_take l N hN, ← prodL_append, List.take_append_drop]
  have hI1 := h.I1
  have hD1 := h.D1
  refine ⟨hI1, hD1, ?_, ?_, hk, h.coord, ?_, ?_, ?_, h.len k, ?_, ?_⟩
  · have h1 := hd.pos.at_le hN
    have h2 := hd.all
    omega
  · have h2 := hd.all
    omega
  · intro s V hV hs hS hx
    refine hS.first hI1 (by omega) (O := prodL (l.take N)) hx (by omega) ?_
    rw [← hD, ← hprod, hn]; omega
  · intro x V hV hx
    rw [hV, ← hD]
    exact coordL_line hd.pos hN _ (by omega) (by omega)
  · intro x hx
    have hb := h.bound k x hk hx
    refine ⟨?_, coordL_i64 hd hb.1⟩
    rw [flat_coord hd hb.1 (by rw [hn]; exact hb.2), h.at' k x]
  · rw [h.len k]; simp
  · intro s hs hS
    have hb := h.bound s 0 (by omega) (by omega)
    have := hS.2
    rw [show (((0 : Nat) : Int)) = 0 from rfl] at hb
    omega
set_option maxRecDepth 100000 in
theorem r05_line (A : Option Addr) (ca : Nat) (l : List Int) (a k : Int) (w : World) (hr : Row w A (nums .i64 l)) (hl : l.length ≤ 9223372036854775807) (hcap : l.length ≤ ca) (hw : ∀ d ∈ l, i64 d) (ha : i64 a) (hk : i64 k) :
    Calls Tryd.prog 91 #[.slice A l.length ca, .int .i64 a, .int .i64 k] w fun e w' => ∃ B b,
      e = .returned (.tuple #[.slice B (lineS l a k).1.length b, .int .i64 (lineS l a k).2]) ∧ Own w' w.heap.size 3 1 B (lineS l a k).1.length b (nums .i64 (lineS l a k).1) ∧ Below w.heap.size w w' := by
  have HR := Lib.hid hr
  have HL := Lib.hid hl
  have HW := Lib.hid hw
  have HAA := Lib.hid ha
  clear hr hl hw
  by_cases hd : Dims l
  case neg =>
    have HF : Hid (lineS l a k = ([], 3)) := Lib.hid (by rw [lineS, if_neg hd])
    have HA := Lib.hid (allS_no hd)
    rw [HF.out]
    clear hd
    go_enter Tryd.func91, Tryd.ntmps91
    go_wp2_with (go_at_call 56; refine (r05_all _ _ _ _ HR.out HL.out HW.out).mono ?_; rw [HA.out]; rintro e w' ⟨rfl, rfl⟩)
    go_ret2
    exact ⟨none, 0, rfl, Own.nil _ _ _ _, Below.refl _ _⟩
  have HA := Lib.hid (allS_yes hd)
  have HD := Lib.hid hd
  have hn1 := hd.n1
  have hn4 := hd.n4
  by_cases hin : 0 ≤ a ∧ a < l.length
  case neg =>
    have HF : Hid (lineS l a k = ([], 1)) := Lib.hid (by rw [lineS, if_pos hd, if_neg hin])
    rw [HF.out]
    by_cases h0 : a < 0
    · have f0 : decide (a < 0) = true := by simpa using h0
      clear hd hin
      go_enter Tryd.func91, Tryd.ntmps91
      go_wp2_with (go_at_call 56; refine (r05_all _ _ _ _ HR.out HL.out HW.out).mono ?_; rw [HA.out]; rintro e w' ⟨rfl, rfl⟩)
      go_ret2
      exact ⟨none, 0, rfl, Own.nil _ _ _ _, Below.refl _ _⟩
    · have f0 : decide (a < 0) = false := by simpa using h0
      have f1 : decide ((l.length : Int) ≤ a) = true := by simp; omega
      clear hd hin
      go_enter Tryd.func91, Tryd.ntmps91
      go_wp2_with (go_at_call 56; refine (r05_all _ _ _ _ HR.out HL.out HW.out).mono ?_; rw [HA.out]; rintro e w' ⟨rfl, rfl⟩)
      go_ret2
      exact ⟨none, 0, rfl, Own.nil _ _ _ _, Below.refl _ _⟩
  obtain ⟨a0, a1⟩ := hin
  obtain ⟨N, rfl⟩ := Int.eq_ofNat_of_zero_le a0
  have hN : N < l.length := by omega
  obtain ⟨x, rfl⟩ := HR.out.some_of (by intro h0; have := nums_length .i64 l; rw [h0] at this; simp at this; omega)
  have hcell : w.cell? (x.add N) = some (.int .i64 l[N]) := HR.out.num hN
  obtain ⟨D, n, K, hD, hn, hLN⟩ := lines_of hd hN
  have hD1 := hLN.D1
  have hdiv : (n : Int) / (D : Int) = (K : Int) := hLN.div
  have hD0 : ¬ (D : Int) = 0 := by omega
  have hn2 : n ≤ 4096 := by have := hd.all; omega
  have hKn : K ≤ n := by
    have h1 : (n : Int) / (D : Int) ≤ n := Int.ediv_le_self _ (by omega)
    omega
  have f0 : decide ((N : Int) < 0) = false := by simp
  have f1 : decide ((l.length : Int) ≤ (N : Int)) = false := by simp; omega
  have f2 : decide (l.length ≤ N) = false := by simp; omega
  have hGD : l.getD N 1 = (D : Int) := by rw [getD_at hN, hD]
  by_cases hkin : 0 ≤ k ∧ k < (K : Int)
  case neg =>
    have HF : Hid (lineS l N k = ([], 1)) := Lib.hid (by rw [lineS, if_pos hd, if_pos ⟨a0, a1⟩, Int.toNat_natCast, hGD, hn, hdiv, if_neg hkin])
    rw [HF.out]
    rw [hD] at hcell
    rw [hn] at HA
    by_cases h0 : k < 0
    · have g0 : decide (k < 0) = true := by simpa using h0
      clear hd hkin hk ha a0 a1 hLN hD hn hGD HD
      go_enter Tryd.func91, Tryd.ntmps91
      go_wp2_with (go_at_call 56; refine (r05_all _ _ _ _ HR.out HL.out HW.out).mono ?_; rw [HA.out]; rintro e w' ⟨rfl, rfl⟩)
      go_ret2
      exact ⟨none, 0, rfl, Own.nil _ _ _ _, Below.refl _ _⟩
    · have g0 : decide (k < 0) = false := by simpa using h0
      have g1 : decide ((K : Int) ≤ k) = true := by simp; omega
      clear hd hkin hk ha a0 a1 hLN hD hn hGD HD
      go_enter Tryd.func91, Tryd.ntmps91
      go_wp2_with (go_at_call 56; refine (r05_all _ _ _ _ HR.out HL.out HW.out).mono ?_; rw [HA.out]; rintro e w' ⟨rfl, rfl⟩)
      go_ret2
      exact ⟨none, 0, rfl, Own.nil _ _ _ _, Below.refl _ _⟩
  obtain ⟨k0, k1⟩ := hkin
  obtain ⟨k, rfl⟩ := Int.eq_ofNat_of_zero_le k0
  have hkK : k < K := by omega
  have HK := Lib.hid (lineK_of hd hN hD hn hLN hkK)
  have HF : Hid (lineS l N (k : Int) = (lineL l N k, 0)) := Lib.hid (hLN.line k hkK)
  have HLL := Lib.hid HK.out.lenD
  have hD2 := HK.out.D2
  rw [HF.out, show ((lineL l N (k : Int), (0 : Int)).1) = lineL l N k from rfl, show ((lineL l N (k : Int), (0 : Int)).2) = 0 from rfl, HLL.out]
  rw [hD] at hcell
  rw [hn] at HA
  have g0 : decide ((k : Int) < 0) = false := by simp
  have g1 : decide ((K : Int) ≤ (k : Int)) = false := by simp; omega
  have g2 : decide (K ≤ k) = false := by simp; omega
  have HX : Hid ((x.add N).block < w.heap.size) := Lib.hid (World.block_lt_of_cell? w _ (HR.out.num hN))
  have HCW : Hid (∀ W', Below w.heap.size w W' → W'.cell? (x.add N) = some (.int .i64 (D : Int))) := Lib.hid fun W' hW' => by
    rw [hW'.cell HX.out]; exact hcell
  have HRA : Hid (∀ W', Below w.heap.size w W' → Row W' (some x) (nums .i64 l)) := Lib.hid fun W' hW' => HR.out.below hW'
  clear hd hk ha a0 a1 hLN hD hn hGD HD k0 k1
  generalize prodL (l.drop (N + 1)) = I at *
  go_enter Tryd.func91, Tryd.ntmps91
  go_wp2_with (go_at_call 56; refine (r05_all _ _ _ _ HR.out HL.out HW.out).mono ?_; rw [HA.out]; rintro e w' ⟨rfl, rfl⟩)
  go_loopw [10, 49] (fun f i wr => ∃ (s V : Nat), s ≤ k ∧ V ≤ n ∧ f = .int .i64 s ∧ i = .int .i64 V ∧ Hid (Seen I D s V) ∧ Hid (Below w'.heap.size w' wr)) (fun _ i _ => n - (intOf i).toNat)
  case atStart => exact ⟨0, 0, Nat.zero_le _, Nat.zero_le _, rfl, rfl, Lib.hid (Seen.start HK.out.I1), Lib.hid (Below.refl _ _)⟩
  case round =>
    obtain ⟨s, V, hs, hV, rfl, rfl, HS, HB⟩ := hrel
    by_cases hlt : V < n
    case neg =>
      exfalso
      have hVn : V = n := by omega
      subst hVn
      exact HK.out.end' s hs HS.out
    have HC := Lib.hid (HK.out.c0 V hlt)
    have HCL : Hid ((coordL l V).length = l.length) := Lib.hid (coordL_length l V)
    go_wp2_with fail
    refine (r05_coord _ _ l V _ (HRA.out _ HB.out) HL.out hcap HW.out ⟨by omega, by omega⟩).mono ?_
    rw [HC.out.1]
    rintro e w3 ⟨Z, cz, rfl, ho3, hb3⟩
    have HRZ := Lib.hid ho3.row
    obtain ⟨z, rfl⟩ := HRZ.out.some_of (by
      intro h0
      have h1 := nums_length .i64 (coordL l V)
      rw [h0, HCL.out] at h1
      simp at h1; omega)
    rw [show ((coordL l (V : Int), (0 : Int)).1.length) = l.length from HCL.out]
    have hcz : w3.cell? (z.add N) = some (.int .i64 (xOf I D V)) := by
      have h1 := HRZ.out.num (i := N) (by show N < (coordL l (V : Int)).length; rw [HCL.out]; exact hN)
      rw [h1, ← HC.out.2, getD_at (by rw [HCL.out]; exact hN)]
    have HB3 : Hid (Below w'.heap.size w' w3) := Lib.hid (HB.out.trans (hb3.mono HB.out.size))
    have HO3 : Hid (Own w3 w'.heap.size 3 1 (some z) l.length cz (nums .i64 (coordL l V))) := Lib.hid (by
      have h1 := ho3.mono HB.out.size
      rw [show ((coordL l (V : Int), (0 : Int)).1.length) = l.length from HCL.out] at h1
      exact h1)
    clear ho3 hb3
    by_cases hx : xOf I D V = 0
    case neg =>
      have HS2 := Lib.hid (HS.out.other HK.out.I1 (by have := HK.out.D1; omega) hx)
      generalize xOf I D V = X at *
      have t0 : (X != 0) = true := by simpa using hx
      clear hx
      go_wp2
      go_roundw
      case rel => exact ⟨s, V + 1, hs, by omega, rfl, by go_num, HS2, HB3⟩
      case measure => simp [intOf]; omega
    have HVS := Lib.hid (HK.out.at0 s V hlt hs HS.out hx)
    rw [hx] at hcz
    by_cases hsk : s < k
    case pos =>
      have HS2 := Lib.hid (HS.out.next HK.out.I1 (by have := HK.out.D1; omega) HVS.out)
      have t1 : decide ((s : Int) < (k : Int)) = true := by simp; omega
      clear hx
      go_wp2
      go_roundw
      case rel => exact ⟨s + 1, V + 1, by omega, by omega, by go_num, by go_num, HS2, HB3⟩
      case measure => simp [intOf]; omega
    have hse : s = k := by omega
    subst hse
    have t1 : decide ((s : Int) < (s : Int)) = false := by simp
    have hcD := HCW.out _ HB3.out
    obtain ⟨gz, cpz, hzv, _, _⟩ := World.ownsRow.form HO3.out (show 0 < l.length by omega)
    cases hzv
    have HZlt := Lib.hid HO3.out.base
    have hcz2 : w3.cell? ⟨gz, N, none⟩ = some (.int .i64 0) := by
      rw [HO3.out.cellAt N hN, nums_get .i64 _ N (by rw [HCL.out]; exact hN), ← getD_at (by rw [HCL.out]; exact hN) 0, HC.out.2, hx]
    clear hx hcz
    go_wp2
    go_hide hQ
    go_loopw [14, 72] (fun o q wr => ∃ (y : Nat) (m : List Int) (Z : Option Addr) (z : Nat), y ≤ D ∧ q = .int .i64 y ∧ o = .slice Z y z ∧ Hid (Own wr w3.heap.size 3 1 Z y z (nums .i64 ((List.range y).map (lineG l N s)))) ∧
      Hid (Own wr w'.heap.size 3 1 (some ⟨gz, 0, none⟩) l.length cz (nums .i64 m)) ∧ Hid (∀ v, m.set N v = (coordL l V).set N v) ∧ Hid (Below w'.heap.size w' wr) ∧ Hid (w3.heap.size ≤ wr.heap.size)) (fun _ q _ => D - (intOf q).toNat)
    case atStart => exact ⟨0, coordL l V, none, 0, Nat.zero_le _, rfl, rfl, Lib.hid (Own.nil _ _ _ _), HO3, Lib.hid (fun _ => rfl), HB3, Lib.hid (Nat.le_refl _)⟩
    case round =>
      obtain ⟨y, m, Z, z, hy, rfl, rfl, HO4, HC4, HM, HB4, HZ4⟩ := hrel
      by_cases hly : y < D
      · have HST : Hid (Own (wr.setCell ⟨gz, N, none⟩ (.int .i64 y)) w'.heap.size 3 1 (some ⟨gz, 0, none⟩) l.length cz (nums .i64 (coordL l (vOf I D s y)))) := Lib.hid (by
          have h1 := HC4.out.stored N (.int .i64 y)
          rw [nums_set, HM.out, HK.out.set y V HVS.out hly] at h1
          exact h1)
        have HSO := Lib.hid (HO4.out.setBelow (p := ⟨gz, N, none⟩) HZlt.out.2 (.int .i64 (y : Int)))
        have HSB : Hid (Below w'.heap.size w' (wr.setCell ⟨gz, N, none⟩ (.int .i64 y))) := Lib.hid (HB4.out.setCell HZlt.out.1 _)
        have HSS : Hid (w3.heap.size ≤ (wr.setCell ⟨gz, N, none⟩ (.int .i64 y)).heap.size) := Lib.hid (by rw [Deep.nblk_setCell]; exact HZ4.out)
        have hlm : m.length = l.length := by
          have h1 := HC4.out.len
          rw [nums_length] at h1
          omega
        have hc2 : wr.cell? ⟨gz, N, none⟩ = some (.int .i64 (m[N]'(by omega))) := by
          rw [HC4.out.cellAt N hN]; exact nums_get .i64 _ N (by omega)
        have hf2 : wr.frozen? ⟨gz, N, none⟩ = false := HC4.out.frozenAt N
        generalize m[N]'(by omega) = mN at *
        have HFL := Lib.hid (HK.out.flat y hly)
        have HLN : Hid ((coordL l (vOf I D s y)).length = l.length) := Lib.hid (coordL_length l _)
        have HSR : Hid ((List.range (y + 1)).map (lineG l N s) = (List.range y).map (lineG l N s) ++ [lineG l N s y]) := Lib.hid (by
          rw [List.range_succ, List.map_append, List.map_singleton])
        go_wp2_with fail
        have hcall := r05_flat (some x) (some ⟨gz, 0, none⟩) ca cz l (coordL l (vOf I D s y)) (wr.setCell ⟨gz, N, none⟩ (.int .i64 y)) (HRA.out _ HSB.out) HL.out hcap HW.out HST.out.row (by rw [HLN.out]; exact HL.out) HFL.out.2
        rw [HLN.out, HFL.out.1] at hcall
        refine hcall.mono ?_
        clear hcall hc2 hf2 hlm
        rintro e w5 ⟨rfl, rfl⟩
        generalize wr.setCell ⟨gz, N, none⟩ (.int .i64 y) = W4 at *
        generalize lineG l N s y = at0 at *
        go_wp2_with (at_builtin; refine append_row _ Tryd.underlying70 info_int rfl _ _ rfl w3.heap.size y z 1 1 Z ⟨W4.heap.size, 0, none⟩ ((List.range y).map (lineG l N s)) [at0] rfl rfl (HSO.out.grown ((Below.refl _ _).alloc (Nat.le_refl _) _)) (row_new W4 [.int .i64 at0] 3) rfl (by decide) (Nat.le_trans HSS.out (by simp)) (by omega) (by omega) ?_; intro g cap2 w6 hown hbel hgrow hlt5)
        have HO6 : Hid (Own w6 w3.heap.size 3 1 (some ⟨g, 0, none⟩) (y + 1) cap2 (nums .i64 ((List.range (y + 1)).map (lineG l N s)))) := Lib.hid (by rw [HSR.out]; exact hown)
        have HB6 : Hid (Below w3.heap.size W4 w6) := Lib.hid (((Below.refl _ _).alloc HSS.out _).trans (hbel.mono (Nat.le_refl _)))
        have HC6 := Lib.hid (HST.out.keepBelow HZlt.out.2 HB6.out)
        have HB7 : Hid (Below w'.heap.size w' w6) := Lib.hid (HSB.out.trans (HB6.out.mono HB3.out.size))
        have HZ6 : Hid (w3.heap.size ≤ w6.heap.size) := Lib.hid (Nat.le_trans HSS.out HB6.out.size)
        have HM6 : Hid (∀ v, (coordL l (vOf I D s y)).set N v = (coordL l V).set N v) := Lib.hid fun v => by
          rw [← HK.out.set y V HVS.out hly, List.set_set]
        clear hown hbel hgrow hlt5
        go_roundw
        case rel => exact ⟨y + 1, coordL l (vOf I D s y), some ⟨g, 0, none⟩, cap2, by omega, by go_num, rfl, HO6, HC6, HM6, HB7, HZ6⟩
        case measure => simp [intOf]; omega
      · have hye : y = D := by omega
        subst hye
        have HOE : Hid (Own wr w'.heap.size 3 1 Z y z (nums .i64 (lineL l N s))) := Lib.hid (by
          rw [HK.out.len]; exact HO4.out.mono HB3.out.size)
        go_wp2
        subst hQ
        go_wp2
        go_ret2
        exact ⟨_, _, rfl, HOE.out, HB4.out⟩
end Go.Proofs.YtohcoidbncbijaaDoor.P
/- The contract of brackenref01's Same. Conditions: slices read as lists. -/
namespace Go.Proofs.YtohcoidbncbijaaDoor.P
open Go.RowKit
set_option linter.unusedVariables false
set_option linter.unusedSimpArgs false
theorem drawn0_add (w : World) (a b : Nat) : Drawn0 w ((w.drewN a).drewN b) := ⟨a + b, World.drewN_drewN w a b⟩
theorem sameU_some (x y : Addr) (ca cb : Nat) (l m : List Int) (w : World) (hr : Row w (some x) (nums .u64 l)) (hl : l.length ≤ 9223372036854775807) (hrm : Row w (some y) (nums .u64 m)) (hlen : m.length = l.length) :
    Calls Tryd.prog 28 #[.slice (some x) l.length ca, .slice (some y) m.length cb] w fun e w' => e = .returned (.bool (decide (l = m))) ∧ Drawn0 w w' := by
  have HR := Lib.hid hr
  have HRM := Lib.hid hrm
  have f0 : ((l.length : Int) != (m.length : Int)) = false := by simp; omega
  clear hr hrm
  go_enter Tryd.func28, Tryd.ntmps28
  go_wp2
  go_loopw [13] (fun i wr => ∃ k : Nat, k ≤ l.length ∧ i = .int .i64 k ∧ Hid (∀ j, (hj : j < l.length) → (hj2 : j < m.length) → j < k → l[j] = m[j]) ∧ Drawn0 w wr) (fun i _ => l.length - (intOf i).toNat)
  case atStart => exact ⟨0, Nat.zero_le _, rfl, Lib.hid fun _ _ _ h => absurd h (Nat.not_lt_zero _), ⟨0, rfl⟩⟩
  case round =>
    obtain ⟨k, hk, rfl, H, ⟨q, rfl⟩⟩ := hrel
    by_cases hlt : k < l.length
    · have hltm : k < m.length := by omega
      have hc : w.cell? (x.add k) = some (.int .u64 l[k]) := HR.out.num hlt
      have hd : w.cell? (y.add k) = some (.int .u64 m[k]) := HRM.out.num hltm
      generalize hu : l[k] = u at *
      generalize hv : m[k] = v at *
      have HU := Lib.hid hu
      have HV := Lib.hid hv
      clear hu hv
      by_cases he : u = v
      · have f1 : (u != v) = false := by simpa using he
        have H2 : Hid (∀ j, (hj : j < l.length) → (hj2 : j < m.length) → j < k + 1 → l[j] = m[j]) := Lib.hid fun j hj hj2 hjk => by
          by_cases e : j = k
          · subst e; rw [HU.out, HV.out]; exact he
          · exact H.out j hj hj2 (by omega)
        clear he
        go_wp2
        go_quiet (fail)
        go_wp2
        go_roundw
        case rel => exact ⟨k + 1, by omega, by go_num, H2, ⟨_, rfl⟩⟩
        case measure => simp [intOf]; omega
      · have f1 : (u != v) = true := by simpa using he
        have HF : Hid (decide (l = m) = false) := Lib.hid (by
          rw [decide_eq_false_iff_not]
          intro h
          subst h
          exact he (HU.out.symm.trans HV.out))
        clear he
        go_wp2
        go_quiet (fail)
        go_wp2
        go_ret
        exact ⟨by rw [HF.out]; rfl, drawn0_add _ _ _⟩
    · have HF : Hid (decide (l = m) = true) := Lib.hid (by
        rw [decide_eq_true_iff]
        apply List.ext_getElem
        · omega
        · intro i h1 h2; exact H.out i h1 h2 (by omega))
      go_wp2
      go_ret
      exact ⟨by rw [HF.out]; rfl, ⟨_, rfl⟩⟩
theorem sameU_calls (A B : Option Addr) (ca cb : Nat) (l m : List Int) (w : World) (hr : Row w A (nums .u64 l)) (hl : l.length ≤ 9223372036854775807) (hrm : Row w B (nums .u64 m)) :
    Calls Tryd.prog 28 #[.slice A l.length ca, .slice B m.length cb] w fun e w' => e = .returned (.bool (decide (l = m))) ∧ Drawn0 w w' := by
  by_cases hlen : m.length = l.length
  · cases l with
    | nil =>
      have hm : m = [] := by cases m with | nil => rfl | cons a b => simp at hlen
      subst hm
      clear hr hrm hl hlen
      go_enter Tryd.func28, Tryd.ntmps28
      go_wp2
      refine wp_loop_once ?_
      go_wp2
      go_ret
      exact ⟨rfl, ⟨0, rfl⟩⟩
    | cons d l =>
      cases m with
      | nil => simp at hlen
      | cons e m =>
        obtain ⟨x, rfl⟩ := hr.some_of (by simp [nums])
        obtain ⟨y, rfl⟩ := hrm.some_of (by simp [nums])
        exact sameU_some x y ca cb _ _ w hr hl hrm hlen
  · have HF : Hid (decide (l = m) = false) := Lib.hid (by
      rw [decide_eq_false_iff_not]; intro h; subst h; exact hlen rfl)
    have f0 : ((l.length : Int) != (m.length : Int)) = true := by simp; omega
    clear hr hrm hlen
    go_enter Tryd.func28, Tryd.ntmps28
    go_wp2
    go_ret
    exact ⟨by rw [HF.out]; rfl, ⟨0, rfl⟩⟩
end Go.Proofs.YtohcoidbncbijaaDoor.P
