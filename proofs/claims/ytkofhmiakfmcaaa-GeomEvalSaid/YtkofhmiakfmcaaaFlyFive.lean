/- The contract of package fly's five. Conditions: words of their kinds; the slices read as lists. -/
import Derived.Test.YtkofhmiakfmcaaaFlyTwo
import Derived.WalkMore
namespace Go.Proofs.Ytkofhmiakfmcaaa.P
open Go.RowKit
set_option linter.unusedVariables false
set_option linter.unusedSimpArgs false
theorem getD_of {l : List Int} {k : Nat} (h : k < l.length) (v : Int) : l.getD k v = l[k] := by
  rw [List.getD_eq_getElem?_getD, List.getElem?_eq_getElem h]; rfl
/-- What five's word u has summed at t, its first word raw. -/
def fiveG (p a : Int) (l : List Int) (u t : Nat) : Int := if t = 1 then l.getD 0 0 else fiveF p a l u t
theorem fiveG_one (p a : Int) (l : List Int) (u : Nat) : fiveG p a l u 1 = l.getD 0 0 := rfl
theorem fiveG_step {p a b : Int} (h : Turn p a b 5) (l : List Int) (u t : Nat) (ht : 1 ≤ t) : addL p [fiveG p a l u t, mulS p (l.getD t 0) (powS p a (t * u % 5))] = fiveG p a l u (t + 1) := by
  have e : ∀ s m, addL p [s, m] = addS p (redS p s) m := fun s m => by simp [addL, addS]
  have e2 : fiveG p a l u (t + 1) = fiveF p a l u (t + 1) := if_neg (by omega)
  rw [e2, e, ← fiveF_step h l u t]
  congr 1
  unfold fiveG
  split
  · rename_i h1
    subst h1
    unfold fiveF
    simp [S]
  · exact redS_redS _ _
theorem u64_fiveG {p a : Int} {l : List Int} (hl : ∀ d ∈ l, U64 d) (u t : Nat) : U64 (fiveG p a l u t) := by
  unfold fiveG
  split
  · rw [List.getD_eq_getElem?_getD]
    cases h : l[0]? with
    | none => exact (show U64 0 by decide)
    | some v => exact hl v (List.mem_of_getElem? h)
  · exact u64_redS _ _
/-- What five has told when u words are over. -/
def fiveL (p a : Int) (l : List Int) (u : Nat) : List Int := (List.range u).map (doF p a l)
theorem fiveL_one (p a : Int) (l : List Int) (h : l.length = 5) : fiveL p a l 1 = [addL p l] := by
  obtain ⟨x0, x1, x2, x3, x4, rfl⟩ : ∃ x0 x1 x2 x3 x4, l = [x0, x1, x2, x3, x4] := by
    match l, h with
    | [x0, x1, x2, x3, x4], _ => exact ⟨x0, x1, x2, x3, x4, rfl⟩
  simp [fiveL, doF, S, addL, addS, redS_add_left]
theorem fiveL_step {p a : Int} (l : List Int) (h : l.length = 5) (u : Nat) : fiveL p a l (u + 1) = fiveL p a l u ++ [fiveG p a l u 5] := by
  rw [fiveL, List.range_succ, List.map_append, List.map_singleton, fiveG, if_neg (by decide), ← h, fiveF_all]
  rfl
theorem fiveL_all (p a : Int) (l : List Int) (h : l.length = 5) : fiveL p a l 5 = doL p a l := by rw [doL, h]; rfl
set_option maxRecDepth 100000 in
set_option maxHeartbeats 4000000 in
theorem five_calls (p a b : Int) (y : Addr) (c : Nat) (x : Addr) (ca : Nat) (l : List Int) (w : World) (hp : U64 p) (hT : Turn p a b 5) (hy : Row w (some y) (nums .u64 ((List.range 5).map (powS p a)))) (hr : Row w (some x) (nums .u64 l)) (hl : l.length = 5) (hw : ∀ d ∈ l, U64 d) :
    Calls Try.prog 105 #[wing p (some y) 5 c, .slice (some x) 5 ca] w fun e w' => ∃ g b,
      e = .returned (.slice (some ⟨g, 0, none⟩) 5 b) ∧ Own w' w.heap.size 37 1 (some ⟨g, 0, none⟩) 5 b (nums .u64 (doL p a l)) ∧ Below w.heap.size w w' := by
  have HP := Lib.hid hp
  have HT := Lib.hid hT
  have HW := Lib.hid hw
  have HLE := Lib.hid hl
  have HB : Hid (Below w.heap.size w (w.alloc (.cells #[.int .u64 p, .slice (some y) 5 c] 99))) := Lib.hid ((Below.refl _ _).alloc (Nat.le_refl _) _)
  have HR := Lib.hid (hr.below HB.out)
  have HY := Lib.hid (hy.below HB.out)
  have hN : ∀ (i : Nat) (v : Value), #[Value.int .u64 p, .slice (some y) 5 c].toList[i]? = some v → (w.alloc (.cells #[.int .u64 p, .slice (some y) 5 c] 99)).cell? ((⟨w.heap.size, 0, none⟩ : Addr).add i) = some v := fun i v h => (row_new w [.int .u64 p, .slice (some y) 5 c] 99).cell h
  have hc0 : (w.alloc (.cells #[.int .u64 p, .slice (some y) 5 c] 99)).cell? ⟨w.heap.size, 0, none⟩ = some (.int .u64 p) := hN 0 _ rfl
  have hc1 : (w.alloc (.cells #[.int .u64 p, .slice (some y) 5 c] 99)).cell? ⟨w.heap.size, 1, none⟩ = some (.slice (some y) 5 c) := hN 1 _ rfl
  clear hN hr hp hw hy hT
  unfold wing
  go_enter Try.func105, Try.ntmps105
  go_wp2_with fail
  generalize hw1 : (w.alloc (.cells #[.int .u64 p, .slice (some y) 5 c] 99)) = w1 at *
  refine (wadd_n p (some y) 5 c _ 5 ca l _ hl HP.out HR.out (by decide) HW.out).mono ?_
  rintro e w2 ⟨rfl, hb⟩
  have HL1 := Lib.hid (fiveL_one p a l hl)
  have HX0 : Hid (Below w.heap.size w w2) := Lib.hid (blC HB.out hb)
  have HR2 := Lib.hid (HR.out.below hb)
  have HY2 := Lib.hid (HY.out.below hb)
  have HC0 := Lib.hid (keepc hb hc0)
  have HC1 := Lib.hid (keepc hb hc1)
  clear hb hc0 hc1 hl
  have hown := own_lit w2 w2.heap.size 37 (nums .u64 [addL p l]) 1 (Nat.le_refl _) rfl (by decide)
  rw [← HL1.out] at hown
  have HO1 : Hid (Own (w2.alloc (.cells #[.int .u64 (addL p l)] 37)) w2.heap.size 37 1 (some ⟨w2.heap.size, 0, none⟩) 1 1 (nums .u64 (fiveL p a l 1))) := Lib.hid (by rw [HL1.out] at hown ⊢; exact hown)
  have HB1 : Hid (Below w2.heap.size w2 (w2.alloc (.cells #[.int .u64 (addL p l)] 37))) := Lib.hid (blA (Below.refl _ _) _)
  clear hown
  go_wp2
  generalize (w2.alloc (.cells #[.int .u64 (addL p l)] 37)) = w3 at *
  go_loopw [5, 6] (fun o i wr => ∃ (u : Nat) (Z : Option Addr) (z : Nat), 1 ≤ u ∧ u ≤ 5 ∧ i = .int .i64 u ∧ o = .slice Z u z ∧ Hid (Own wr w2.heap.size 37 1 Z u z (nums .u64 (fiveL p a l u))) ∧ Hid (Below w2.heap.size w2 wr)) (fun _ i _ => 5 - (intOf i).toNat)
  case atStart => exact ⟨1, _, 1, Nat.le_refl _, by omega, rfl, rfl, HO1, HB1⟩
  case round =>
    obtain ⟨u, Z, z, hu1, hu5, rfl, rfl, HO, HBW⟩ := hrel
    by_cases hlt : u < 5
    · have hx0 : wr.cell? x = some (.int .u64 (l.getD 0 0)) := by
        have h1 := (HR2.out.below HBW.out).num (i := 0) (by have := HLE.out; omega)
        rw [getD_of (by have := HLE.out; omega)]
        simpa [Addr.add] using h1
      have HG1 := Lib.hid (fiveG_one p a l u)
      have d0 : decide (u < 5) = true := by simp; omega
      have d1 : decide ((u : Int) < 5) = true := by simp; omega
      rw [← HG1.out] at hx0
      go_wp2
      go_hide hQ
      go_loopw [7, 8] (fun s i wr => ∃ t : Nat, 1 ≤ t ∧ t ≤ 5 ∧ i = .int .i64 t ∧ s = .int .u64 (fiveG p a l u t) ∧ Hid (Own wr w2.heap.size 37 1 Z u z (nums .u64 (fiveL p a l u))) ∧ Hid (Below w2.heap.size w2 wr)) (fun _ i _ => 5 - (intOf i).toNat)
      case atStart => exact ⟨1, Nat.le_refl _, by omega, rfl, rfl, HO, HBW⟩
      case round =>
        obtain ⟨t, ht1, ht5, rfl, rfl, HO2, HBW2⟩ := hrel
        by_cases hlt2 : t < 5
        · have hlt3 : t < l.length := by have := HLE.out; omega
          have hxt : wr.cell? (x.add t) = some (.int .u64 (l.getD t 0)) := by
            rw [getD_of hlt3]
            exact (HR2.out.below HBW2.out).num hlt3
          have HD : Hid (U64 (l.getD t 0)) := Lib.hid (by rw [getD_of hlt3]; exact HW.out _ (List.getElem_mem hlt3))
          have hm5 : t * u % 5 < 5 := Nat.mod_lt _ (by decide)
          have hym : wr.cell? (y.add (t * u % 5)) = some (.int .u64 (powS p a (t * u % 5))) := by
            have h1 := (HY2.out.below HBW2.out).cell (i := t * u % 5) (u := .int .u64 (powS p a (t * u % 5))) (by
              rw [nums_get .u64 _ _ (by simpa using hm5)]
              simp)
            exact h1
          have HVP := Lib.hid (u64_powS p a (t * u % 5))
          have hMb : (t : Int) * (u : Int) ≤ 25 := by
            have : (t : Int) * (u : Int) ≤ 5 * 5 := Int.mul_le_mul (by omega) (by omega) (by omega) (by omega)
            omega
          have hM0 : 0 ≤ (t : Int) * (u : Int) := Int.mul_nonneg (by omega) (by omega)
          have hMm : (t : Int) * (u : Int) % 5 = ((t * u % 5 : Nat) : Int) := by rw [Int.natCast_emod, Int.natCast_mul]; rfl
          have HST := Lib.hid (fiveG_step HT.out l u t ht1)
          have HSU := Lib.hid (u64_fiveG (p := p) (a := a) HW.out u t)
          have hk0 := keepc HBW2.out HC0.out
          have hk1 := keepc HBW2.out HC1.out
          generalize hM : (t : Int) * (u : Int) = M at *
          generalize t * u % 5 = m at *
          generalize l.getD t 0 = d at *
          generalize powS p a m = v at *
          generalize fiveG p a l u t = s at *
          have hwM : IntKind.i64.wrap M = M := by rw [IntKind.wrap_i64]; omega
          have hmt : M.tmod 5 = (m : Int) := by rw [Int.tmod_eq_emod_of_nonneg hM0]; exact hMm
          have hwm : IntKind.i64.wrap (m : Int) = (m : Int) := by rw [IntKind.wrap_i64]; omega
          have hm0 : (0 : Int) ≤ (m : Int) := by omega
          have hm6 : (m : Int) < 5 := by omega
          have hmm : decide (5 ≤ m) = false := by simp; omega
          go_wp2
          generalize hw4 : wr = w4 at *
          go_region_held3 (fun w' => w'.cell? ⟨w.heap.size, 0, none⟩ = some (.int .u64 p) ∧ w'.cell? ⟨w.heap.size, 1, none⟩ = some (.slice (some y) 5 c) ∧ w'.cell? (x.add t) = some (.int .u64 d) ∧ w'.cell? (y.add m) = some (.int .u64 v))
            (first | exact keep4 (by assumption) (by assumption) | go_keep)
            (first
              | (go_at_call 111; (with_reducible refine (wmul_calls p (some y) 5 c d v _ HP.out HD.out HVP.out).mono ?_); rintro e w5 ⟨rfl, hb5⟩)
              | (go_at_call 109; (with_reducible refine (wadd_n p (some y) 5 c _ 2 2 [s, mulS p d v] _ rfl HP.out ?row (by decide) ?all).mono ?_); (case row => repeat (first | (with_reducible exact row_new2 _ _ _ _) | ((with_reducible refine row_new2e _ _ _ _ _ ?_); simp; done) | (with_reducible refine Row.drew ?_) | (with_reducible refine Row.alloc ?_ _) | (with_reducible refine Row.below ?_ (by assumption)))); (case all => simp [HSU.out, u64_mulS]); rintro e w6 ⟨rfl, hb6⟩))
          have hb7 : Below w4.heap.size w4 w6 := by repeat (first | with_reducible exact Below.refl _ _ | with_reducible refine blA ?_ _ | with_reducible refine blD ?_ | refine blC ?_ (by assumption))
          have HO6 := Lib.hid (HO2.out.grown hb7)
          have HB6 : Hid (Below w2.heap.size w2 w6) := Lib.hid (blC HBW2.out hb7)
          clear hb5 hb6 hb7
          go_wp2
          go_roundw
          case rel => exact ⟨t + 1, by omega, by omega, by go_num, by rw [← HST.out], HO6, HB6⟩
          case measure => simp [intOf]; omega
        · have hte : t = 5 := by omega
          subst hte
          have HLS := Lib.hid (fiveL_step (p := p) (a := a) l HLE.out u)
          have HSU := Lib.hid (u64_fiveG (p := p) (a := a) HW.out u 5)
          have HSZ := Lib.hid HBW2.out.size
          generalize fiveG p a l u 5 = s at *
          go_wp2
          subst hQ
          go_wp2_with (at_builtin; refine append_row _ Try.underlying47 info_u64 rfl _ _ rfl w2.heap.size u z 1 1 Z ⟨wr.heap.size, 0, none⟩ (fiveL p a l u) [s] rfl rfl (HO2.out.grown ((Below.refl _ _).alloc (Nat.le_refl _) _)) (row_new wr [.int .u64 s] 37) rfl (by decide) (Nat.le_trans HSZ.out (by simp)) (by omega) (by omega) ?_; intro g cap2 w6 hown hbel hgrow hlt5)
          have HO6 : Hid (Own w6 w2.heap.size 37 1 (some ⟨g, 0, none⟩) (u + 1) cap2 (nums .u64 (fiveL p a l (u + 1)))) := Lib.hid (by rw [HLS.out]; exact hown)
          have HB6 : Hid (Below w2.heap.size w2 w6) := Lib.hid ((HBW2.out.alloc HSZ.out _).trans (hbel.mono (Nat.le_refl _)))
          clear hown hbel hgrow hlt5
          go_roundw
          case rel => exact ⟨u + 1, some ⟨g, 0, none⟩, cap2, by omega, by omega, by go_num, rfl, HO6, HB6⟩
          case measure => simp [intOf]; omega
    · have hue : u = 5 := by omega
      subst hue
      have HLA := Lib.hid (fiveL_all p a l HLE.out)
      obtain ⟨g, cap, hzv, _, _⟩ := World.ownsRow.form HO.out (show 0 < 5 by decide)
      cases hzv
      have HOE : Hid (Own wr w.heap.size 37 1 (some ⟨g, 0, none⟩) 5 z (nums .u64 (doL p a l))) := Lib.hid (by rw [← HLA.out]; exact HO.out.mono HX0.out.size)
      have HBE : Hid (Below w.heap.size w wr) := Lib.hid (blC HX0.out HBW.out)
      go_wp2
      go_ret
      exact ⟨g, z, rfl, HOE.out, HBE.out⟩
end Go.Proofs.Ytkofhmiakfmcaaa.P
