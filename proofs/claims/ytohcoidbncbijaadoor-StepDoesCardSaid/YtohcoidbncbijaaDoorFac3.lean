
/- The contracts of brackenref04's out, product, Radices, Smooth, Stages, Check. Conditions: numbers of their kinds; slices read as lists. -/
import Derived.Test.YtohcoidbncbijaaDoorFac2
import Derived.Test.YtohcoidbncbijaaDoorRefB
import Derived.Test.YtohcoidbncbijaaDoorShapeB
import Derived.Test.YtohcoidbncbijaaDoorRound3
namespace Go.Proofs.YtohcoidbncbijaaDoor.P
open Go.RowKit
set_option linter.unusedVariables false
set_option linter.unusedSimpArgs false
theorem own_one (w : World) (B : Nat) (E : TypeId) (vs : List Value) (n : Nat) (hB : B ≤ w.heap.size) (hn : vs.length = n) (h : n ≤ 9223372036854775807) :
    Own (w.alloc (.cells vs.toArray E)) B E 1 (some ⟨w.heap.size, 0, none⟩) n n vs :=
  ⟨by simp [hn], .inr ⟨w.heap.size, n, vs.toArray, rfl, hB, heap_alloc_new w _, Nat.le_refl _, by unfold maxLen; omega, by simp [hn], by simp [List.take_of_length_le (Nat.le_of_eq hn)]⟩⟩
set_option maxRecDepth 100000 in
theorem out_calls (f : Nat) : ∀ (n r : Nat) (w : World), 0 < n → n ≤ 4096 → n ≤ f → (r = 2 ∨ r = 3 ∨ r = 4 ∨ r = 5) →
    Calls Tryd.prog 144 #[.int .i64 (n : Int), .int .i64 (r : Int)] w fun e w' => ∃ B b,
      e = .returned (.tuple #[.slice B (cn n r) b, .int .i64 (leftN n r : Nat)]) ∧ Own w' w.heap.size 3 1 B (cn n r) b (nums .i64 (List.replicate (cn n r) (r : Int))) ∧ Below w.heap.size w w' := by
  induction f with
  | zero => intro n r w h0 _ h1 _; omega
  | succ f ih =>
    intro n r w h0 h1 h2 hr
    have HI := Lib.hid ih
    clear ih
    have hr0 : ¬ (r : Int) = 0 := by omega
    have hrm : (n : Int) % (r : Int) = ((n % r : Nat) : Int) := by push_cast; rfl
    have hrt : (n : Int).tmod (r : Int) = ((n % r : Nat) : Int) := by rw [Int.tmod_eq_emod_of_nonneg (by omega)]; push_cast; rfl
    have hdt : (n : Int).tdiv (r : Int) = ((n / r : Nat) : Int) := by rw [Int.tdiv_eq_ediv_of_nonneg (by omega)]; push_cast; rfl
    have hdd : (n : Int) / (r : Int) = ((n / r : Nat) : Int) := by push_cast; rfl
    by_cases hd : n % r = 0
    case neg =>
      clear hdt hdd
      have HC : Hid (cn n r = 0) := Lib.hid (cn_no hd)
      have HL : Hid (leftN n r = n) := Lib.hid (leftN_no hd)
      generalize n % r = e0 at *
      have t0 : ((e0 : Int) != 0) = true := by simp; omega
      rw [HC.out, HL.out]
      clear hd
      go_enter Tryd.func144, Tryd.ntmps144
      go_wp2_with fail
      go_ret2
      exact ⟨none, 0, rfl, Own.nil _ _ _ _, Below.refl _ _⟩
    obtain ⟨c1, c2, c3, c4⟩ := cnt_step h0 h1 hr hd
    have HIH : Hid (∀ w : World, Calls Tryd.prog 144 #[.int .i64 ((n / r : Nat) : Int), .int .i64 (r : Int)] w fun e w' => ∃ B b,
      e = .returned (.tuple #[.slice B (cn (n / r) r) b, .int .i64 (leftN (n / r) r : Nat)]) ∧ Own w' w.heap.size 3 1 B (cn (n / r) r) b (nums .i64 (List.replicate (cn (n / r) r) (r : Int))) ∧ Below w.heap.size w w') := Lib.hid fun w => HI.out (n / r) r w c3 (by omega) (by omega) hr
    have hw1 : IntKind.i64.wrap ((n / r : Nat) : Int) = ((n / r : Nat) : Int) := wrapI (by omega) (by omega)
    have hcb : cn n r ≤ 12 := by
      have : ∀ f n r, cnt f n r ≤ f := fun f => by
        induction f with
        | zero => intro n r; simp [cnt]
        | succ f ih => intro n r; rw [cnt]; split; have := ih (n / r) r; omega; omega
      exact this 12 n r
    rw [hd] at hrm hrt
    have t0 : (((0 : Nat) : Int) != 0) = false := rfl
    rw [c1, c2]
    rw [c1] at hcb
    generalize hq : n / r = q at *
    have HS : Hid (List.replicate (cn q r + 1) (r : Int) = [(r : Int)] ++ List.replicate (cn q r) (r : Int)) := Lib.hid (by rw [List.replicate_succ]; rfl)
    generalize cn q r = m at *
    clear hq hd c1 c2
    go_enter Tryd.func144, Tryd.ntmps144
    go_wp2_with fail
    refine (HIH.out _).mono ?_
    rintro e w1 ⟨Z, z, rfl, ho, hb⟩
    have HB := Lib.hid hb
    have HO := Lib.hid ho.row
    clear ho hb
    have HSZ := Lib.hid HB.out.size
    go_wp2_with (at_builtin; refine append_any _ Tryd.underlying70 info_int rfl _ _ rfl w1.heap.size 1 1 m z (some ⟨w1.heap.size, 0, none⟩) Z [(r : Int)] (List.replicate m (r : Int)) rfl rfl (own_one w1 w1.heap.size 3 [.int .i64 r] 1 (Nat.le_refl _) rfl (by decide)) (HO.out.below ((Below.refl _ _).alloc (Nat.le_refl _) _)) (by simp) (by simp) (by omega) (by omega) ?_; intro Y cap2 w5 hown hbel hgrow)
    have HO5 : Hid (Own w5 w1.heap.size 3 1 Y (m + 1) cap2 (nums .i64 (List.replicate (m + 1) (r : Int)))) := Lib.hid (by rw [HS.out, Nat.add_comm]; exact hown)
    have HB5 : Hid (Below _ _ w5) := Lib.hid (blT HB.out (((Below.refl _ _).alloc (Nat.le_refl _) _).trans (hbel.mono (Nat.le_refl _))))
    clear hown hbel hgrow
    go_wp2
    go_ret2
    exact ⟨Y, cap2, by first | rfl | (rw [Nat.add_comm m 1]; rfl), HO5.out.mono HB.out.size, HB5.out⟩
theorem product_calls (A : Option Addr) (n c : Nat) (l : List Int) (w : World) (hn : l.length = n) (hr : Row w A (nums .i64 l)) (hl : n ≤ 9223372036854775807) (hp : Pos l) (hb : prodL l ≤ 4096) :
    Calls Tryd.prog 110 #[.slice A n c] w fun e w' => e = .returned (.int .i64 (prodL l)) ∧ w' = w := by
  have HR := Lib.hid hr
  have HN := Lib.hid hn
  have HP := Lib.hid hp
  clear hr hn hp
  go_enter Tryd.func110, Tryd.ntmps110
  go_wp2
  go_loopw [3, 8] (fun v i wr => ∃ k : Nat, k ≤ n ∧ i = .int .i64 k ∧ v = .int .i64 (prodL (l.take k)) ∧ Hid (wr = w)) (fun _ i _ => n - (intOf i).toNat)
  case atStart => exact ⟨0, Nat.zero_le _, rfl, rfl, Lib.hid rfl⟩
  case round =>
    obtain ⟨k, hk, rfl, rfl, HE⟩ := hrel
    by_cases hlt : k < n
    · have hkl : k < l.length := by rw [HN.out]; exact hlt
      obtain ⟨x, rfl⟩ := HR.out.some_of (by intro h0; have := nums_length .i64 l; rw [h0] at this; simp at this; omega)
      have hc : wr.cell? (x.add k) = some (.int .i64 l[k]) := by rw [HE.out]; exact HR.out.num hkl
      have HX := Lib.hid (prodL_take l k hkl)
      have h1 := (HP.out.take (k + 1)).prod
      have h2 := HP.out.take_le (k + 1)
      rw [HX.out] at h1 h2
      generalize l[k] = d at *
      generalize prodL (l.take k) = v at *
      generalize hv : v * d = u at *
      have hw1 : IntKind.i64.wrap u = u := wrapI (by omega) (by omega)
      have hw2 : wrap64 u = u := wrap64_id ⟨by omega, by omega⟩
      go_wp2
      go_roundw
      case rel => exact ⟨k + 1, by omega, by go_num, by rw [HX.out], HE⟩
      case measure => simp [intOf]; omega
    · have hke : k = n := by omega
      subst hke
      have HZ : Hid (l.take k = l) := Lib.hid (by rw [← HN.out, List.take_length])
      go_wp2
      go_ret
      exact ⟨by first | rfl | (rw [HZ.out]; rfl), HE.out⟩
theorem take_row4 {w : World} {x : Addr} {k : IntKind} {l : List Int} (h : Row w (some x) (nums k l)) (n : Nat) : Row w (some x) (nums k (l.take n)) := by
  right
  refine ⟨x, rfl, fun i u hi => ?_⟩
  refine h.cell ?_
  unfold nums at hi ⊢
  rw [List.map_take, List.getElem?_take] at hi
  split at hi
  · exact hi
  · cases hi
theorem product_drop {x : Addr} {A : Option Addr} {n c' N : Nat} {l : List Int} (w : World) (hr : Row w (some x) (nums .i64 l)) (hp : Pos l) (hb : prodL l ≤ 4096)
    (hA : (A = some x ∧ n = 0 ∧ l.length ≤ N + 1) ∨ (A = some (x.add (N + 1)) ∧ n = l.length - (N + 1))) (hl : l.length ≤ 100 := by omega) :
    Calls Tryd.prog 110 #[.slice A n c'] w fun e w' => e = .returned (.int .i64 (prodL (l.drop (N + 1)))) ∧ w' = w := by
  rcases hA with ⟨rfl, rfl, h⟩ | ⟨rfl, rfl⟩
  · rw [List.drop_eq_nil_of_le h]
    exact product_calls (some x) 0 c' [] w rfl (Row.nil _ _) (by simp) (fun d hd => by cases hd) (by simp [prodL])
  · exact product_calls _ _ c' _ w (by simp) (hr.drop (N + 1)) (by omega) (hp.drop _) (by have := hp.drop_le (N + 1); omega)
theorem arr4 (w : World) (Wh : Nat) (i : Nat) (hi : i < 4) (h : w.heap[Wh]? = some (.cells #[.int .i64 4, .int .i64 2, .int .i64 3, .int .i64 5] 3)) : w.cell? ⟨Wh, i, none⟩ = some (.int .i64 (rI i : Nat)) := by
  have h2 := World.news_of_block (w := w) (cs := #[.int .i64 4, .int .i64 2, .int .i64 3, .int .i64 5]) (t := 3) (fr := (0, 0)) h
  match i, hi with
  | 0, _ => exact h2 0 _ rfl
  | 1, _ => exact h2 1 _ rfl
  | 2, _ => exact h2 2 _ rfl
  | 3, _ => exact h2 3 _ rfl
set_option maxRecDepth 100000 in
theorem r04_radices (n : Int) (w : World) (hn : i64 n) :
    Calls Tryd.prog 109 #[.int .i64 n] w fun e w' => ∃ B b,
      e = .returned (.tuple #[.slice B (facS n).1.length b, .int .i64 (facS n).2]) ∧ Own w' w.heap.size 3 1 B (facS n).1.length b (nums .i64 (facS n).1) ∧ Below w.heap.size w w' := by
  by_cases h1 : n < 1
  · have HF : Hid (facS n = ([], 4)) := Lib.hid (facS_out (by omega))
    have a1 : decide (n < 1) = true := by simpa using h1
    rw [HF.out]
    clear h1 hn
    go_enter Tryd.func109, Tryd.ntmps109
    go_wp2_with fail
    go_ret2
    exact ⟨none, 0, rfl, Own.nil _ _ _ _, Below.refl _ _⟩
  have a1 : decide (n < 1) = false := by simpa using h1
  by_cases h2 : 4096 < n
  · have HF : Hid (facS n = ([], 4)) := Lib.hid (facS_out (by omega))
    have a2 : decide (4096 < n) = true := by simpa using h2
    rw [HF.out]
    clear h1 h2 hn
    go_enter Tryd.func109, Tryd.ntmps109
    go_wp2_with fail
    go_ret2
    exact ⟨none, 0, rfl, Own.nil _ _ _ _, Below.refl _ _⟩
  have a2 : decide (4096 < n) = false := by simpa using h2
  obtain ⟨N, rfl⟩ := Int.eq_ofNat_of_zero_le (show 0 ≤ n by omega)
  have hN0 : 0 < N := by omega
  have hN1 : N ≤ 4096 := by omega
  have HO4 := Lib.hid (fun (i : Nat) (hi : i < 4) => ref_ok hN0 hN1 hi)
  have HIS := Lib.hid (ref_is hN0 hN1)
  have HST : Hid (∀ i, refSt N (i + 1) = ((refSt N i).1 ++ List.replicate (cn (refSt N i).2 (rI i)) (rI i : Int), leftN (refSt N i).2 (rI i))) := Lib.hid fun i => rfl
  have HS0 : Hid (refSt N 0 = ([], N)) := Lib.hid rfl
  clear h1 h2 hn
  go_enter Tryd.func109, Tryd.ntmps109
  go_wp2_with fail
  have HB0 : Hid (Below w.heap.size w (w.alloc (.cells #[.int .i64 4, .int .i64 2, .int .i64 3, .int .i64 5] 3))) := Lib.hid ((Below.refl _ _).alloc (Nat.le_refl _) _)
  have HA : Hid ((w.alloc (.cells #[.int .i64 4, .int .i64 2, .int .i64 3, .int .i64 5] 3)).heap[w.heap.size]? = some (.cells #[.int .i64 4, .int .i64 2, .int .i64 3, .int .i64 5] 3)) := Lib.hid (heap_alloc_new w _)
  have HAS : Hid (w.heap.size < (w.alloc (.cells #[.int .i64 4, .int .i64 2, .int .i64 3, .int .i64 5] 3)).heap.size) := Lib.hid (by simp)
  generalize hW : (w.alloc (.cells #[.int .i64 4, .int .i64 2, .int .i64 3, .int .i64 5] 3)) = W at *
  clear hW
  go_loopw [0, 4, 17] (fun m o q wr => ∃ (i : Nat) (Z : Option Addr) (z : Nat), i ≤ 4 ∧ q = .int .i64 i ∧ m = .int .i64 ((refSt N i).2 : Nat) ∧ o = .slice Z (refSt N i).1.length z ∧ Hid (Own wr W.heap.size 3 1 Z (refSt N i).1.length z (nums .i64 (refSt N i).1)) ∧ Hid (Below W.heap.size W wr)) (fun _ _ q _ => 4 - (intOf q).toNat)
  case atStart => exact ⟨0, none, 0, by decide, rfl, rfl, rfl, Lib.hid (Own.nil _ _ _ _), Lib.hid (Below.refl _ _)⟩
  case round =>
    obtain ⟨i, Z, z, hi, rfl, rfl, rfl, HO2, HB2⟩ := hrel
    by_cases hlt : i < 4
    · have hc : wr.cell? ⟨w.heap.size, i, none⟩ = some (.int .i64 (rI i : Nat)) := arr4 wr _ i hlt (by rw [HB2.out.block _ HAS.out]; exact HA.out)
      obtain ⟨o1, o2, o3, o4⟩ := HO4.out i hlt
      have HNX := Lib.hid (HST.out i)
      have hr : rI i = 2 ∨ rI i = 3 ∨ rI i = 4 ∨ rI i = 5 := by unfold rI; split <;> (try split) <;> (try split) <;> omega
      have HOC := Lib.hid (fun w => out_calls 4096 (refSt N i).2 (rI i) w o1 o2 o2 hr)
      have HL1 : Hid ((refSt N (i + 1)).1.length = (refSt N i).1.length + cn (refSt N i).2 (rI i)) := Lib.hid (by rw [HNX.out]; simp)
      have HL2 : Hid ((refSt N (i + 1)).1 = (refSt N i).1 ++ List.replicate (cn (refSt N i).2 (rI i)) (rI i : Int)) := Lib.hid (by rw [HNX.out])
      have HL3 : Hid ((refSt N (i + 1)).2 = leftN (refSt N i).2 (rI i)) := Lib.hid (by rw [HNX.out])
      clear HNX hr
      generalize refSt N i = st at *
      generalize rI i = r at *
      have HSZ := Lib.hid HB2.out.size
      go_wp2_with fail
      refine (HOC.out _).mono ?_
      rintro e w3 ⟨Y, cy, rfl, ho, hb⟩
      have HB3 : Hid (Below W.heap.size W w3) := Lib.hid (blT HB2.out hb)
      have HOY := Lib.hid ho.row
      have HOA := Lib.hid (HO2.out.grown hb)
      clear ho hb
      go_wp2_with (at_builtin; refine append_any _ Tryd.underlying70 info_int rfl _ _ rfl W.heap.size st.1.length z (cn st.2 r) cy Z Y st.1 (List.replicate (cn st.2 r) (r : Int)) rfl rfl HOA.out HOY.out (by simp) HB3.out.size (by omega) (by omega) ?_; intro V cap2 w5 hown hbel hgrow)
      have HO5 : Hid (Own w5 W.heap.size 3 1 V (refSt N (i + 1)).1.length cap2 (nums .i64 (refSt N (i + 1)).1)) := Lib.hid (by rw [HL1.out, HL2.out]; exact hown)
      have HB5 : Hid (Below W.heap.size W w5) := Lib.hid (HB3.out.trans hbel)
      clear hown hbel hgrow
      go_wp2
      go_roundw
      case rel => exact ⟨i + 1, V, cap2, by omega, by go_num, by rw [HL3.out], by rw [HL1.out], HO5, HB5⟩
      case measure => simp [intOf]; omega
    · have hie : i = 4 := by omega
      subst hie
      have HBW : Hid (Below w.heap.size w wr) := Lib.hid (blT HB0.out HB2.out)
      by_cases he : (refSt N 4).2 = 1
      · have HF : Hid (facS (N : Int) = ((refSt N 4).1, 0)) := Lib.hid (by rw [HIS.out.2, if_pos he])
        have HOW : Hid (Own wr w.heap.size 3 1 Z (refSt N 4).1.length z (nums .i64 (refSt N 4).1)) := Lib.hid (HO2.out.mono HB0.out.size)
        have t0 : (((refSt N 4).2 : Nat) : Int) = 1 := by omega
        clear he
        go_wp2_with fail
        go_ret2
        exact ⟨Z, z, by rw [HF.out]; rfl, by rw [HF.out]; exact HOW.out, HBW.out⟩
      · have HF : Hid (facS (N : Int) = ([], 4)) := Lib.hid (by rw [HIS.out.2, if_neg he])
        have t0 : ((((refSt N 4).2 : Nat) : Int) != 1) = true := by simp; omega
        clear he
        go_wp2_with fail
        go_ret2
        exact ⟨none, 0, by rw [HF.out]; rfl, by rw [HF.out]; exact Own.nil _ _ _ _, HBW.out⟩
theorem r04_smooth (n : Int) (w : World) (hn : i64 n) :
    Calls Tryd.prog 108 #[.int .i64 n] w fun e w' => e = .returned (.bool (smoothS n)) ∧ Below w.heap.size w w' := by
  have HI := Lib.hid hn
  clear hn
  go_enter Tryd.func108, Tryd.ntmps108
  go_wp2_with fail
  refine (r04_radices n _ HI.out).mono ?_
  rintro e w' ⟨B, b, rfl, ho, hb⟩
  have HB := Lib.hid hb
  clear ho hb
  go_wp2
  go_ret
  exact ⟨rfl, HB.out⟩
end Go.Proofs.YtohcoidbncbijaaDoor.P
