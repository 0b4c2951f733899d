/- Several texts as one: Shape0, Shape1, Shape2, Shape3, Shape4, Same, ShapeP, ShapeL, LawSl, LineP, FacQ. Conditions: those of each lemma. -/
import Derived.Test.YtohcoidbncbijaaDoorRefB
import Derived.Deep.RegionHeld3
import Derived.Test.YtohcoidbncbijaaDoorFieldB
import Derived.WalkMore
import Derived.Deep.Heap
import Derived.Test.YtohcoidbncbijaaDoorBaseB
/- Shapes, plainly, and the contracts of package shape's All and brackenref05's All and behind. Conditions: words of their kinds; slices read as lists. -/
namespace Go.Proofs.YtohcoidbncbijaaDoor.P
open Go.RowKit
set_option linter.unusedVariables false
set_option linter.unusedSimpArgs false
theorem wrapI {n : Int} (h₀ : 0 ≤ n) (h₁ : n < 9223372036854775808) : IntKind.i64.wrap n = n := by rw [IntKind.wrap_i64]; omega
def prodL : List Int → Int
  | [] => 1
  | d :: l => d * prodL l
theorem prodL_append : ∀ l m : List Int, prodL (l ++ m) = prodL l * prodL m
  | [], m => by simp [prodL]
  | d :: l, m => by simp only [List.cons_append, prodL]; rw [prodL_append l m, Int.mul_assoc]
theorem prodL_take (l : List Int) (k : Nat) (h : k < l.length) : prodL (l.take (k + 1)) = prodL (l.take k) * l[k] := by
  rw [List.take_succ_eq_append_getElem h, prodL_append]; simp [prodL]
theorem prodL_drop (l : List Int) (k : Nat) (h : k < l.length) : prodL (l.drop k) = l[k] * prodL (l.drop (k + 1)) := by
  rw [List.drop_eq_getElem_cons h, prodL]
def Pos (l : List Int) : Prop := ∀ d ∈ l, 1 ≤ d
instance (l : List Int) : Decidable (Pos l) := by unfold Pos; exact inferInstance
theorem Pos.at {l : List Int} (h : Pos l) {k : Nat} (hk : k < l.length) : 1 ≤ l[k] := h _ (List.getElem_mem hk)
theorem Pos.take {l : List Int} (h : Pos l) (k : Nat) : Pos (l.take k) := fun d hd => h d (List.mem_of_mem_take hd)
theorem Pos.drop {l : List Int} (h : Pos l) (k : Nat) : Pos (l.drop k) := fun d hd => h d (List.mem_of_mem_drop hd)
theorem Pos.prod : ∀ {l : List Int}, Pos l → 1 ≤ prodL l
  | [], _ => by simp [prodL]
  | d :: l, h => by
    have h1 : 1 ≤ d := h d (by simp)
    have h2 : 1 ≤ prodL l := Pos.prod fun x hx => h x (by simp [hx])
    have : 1 * 1 ≤ d * prodL l := Int.mul_le_mul h1 h2 (by omega) (by omega)
    simpa [prodL] using this
theorem mul_mono {a b : Int} (ha : 1 ≤ a) (hb : 1 ≤ b) : a ≤ a * b := by
  have : a * 1 ≤ a * b := Int.mul_le_mul_of_nonneg_left hb (by omega)
  omega
theorem Pos.take_le {l : List Int} (h : Pos l) (k : Nat) : prodL (l.take k) ≤ prodL l := by
  have e : prodL l = prodL (l.take k) * prodL (l.drop k) := by rw [← prodL_append, List.take_append_drop]
  rw [e]; exact mul_mono (h.take k).prod (h.drop k).prod
theorem Pos.drop_le {l : List Int} (h : Pos l) (k : Nat) : prodL (l.drop k) ≤ prodL l := by
  have e : prodL l = prodL (l.take k) * prodL (l.drop k) := by rw [← prodL_append, List.take_append_drop]
  rw [e, Int.mul_comm]; exact mul_mono (h.drop k).prod (h.take k).prod
theorem Pos.at_le {l : List Int} (h : Pos l) {k : Nat} (hk : k < l.length) : l[k] ≤ prodL l := by
  have h1 := h.drop_le k
  rw [prodL_drop l k hk] at h1
  exact Int.le_trans (mul_mono (h.at hk) (h.drop (k + 1)).prod) h1
theorem pos_of {l : List Int} (h : ∀ j, (hj : j < l.length) → 1 ≤ l[j]) : Pos l := fun d hd => by
  obtain ⟨j, hj, rfl⟩ := List.getElem_of_mem hd
  exact h j hj
/-- Axes that may be. -/
structure Dims (l : List Int) : Prop where
  n1 : 1 ≤ l.length
  n4 : l.length ≤ 4
  pos : Pos l
  all : prodL l ≤ 4096
instance (l : List Int) : Decidable (Dims l) :=
  if h : 1 ≤ l.length ∧ l.length ≤ 4 ∧ Pos l ∧ prodL l ≤ 4096 then isTrue ⟨h.1, h.2.1, h.2.2.1, h.2.2.2⟩ else isFalse fun d => h ⟨d.n1, d.n4, d.pos, d.all⟩
def allS (l : List Int) : Int × Int := if Dims l then (prodL l, 0) else (0, 3)
theorem allS_yes {l : List Int} (h : Dims l) : allS l = (prodL l, 0) := if_pos h
theorem allS_no {l : List Int} (h : ¬ Dims l) : allS l = (0, 3) := if_neg h
theorem Dims.of_all {l : List Int} (h : (allS l).2 = 0) : Dims l := by
  by_cases hd : Dims l
  · exact hd
  · rw [allS_no hd] at h; exact absurd h (by decide)
theorem all_some (x : Addr) (c : Nat) (l : List Int) (w : World) (hr : Row w (some x) (nums .i64 l)) (h1 : 1 ≤ l.length) (h4 : l.length ≤ 4) (hw : ∀ d ∈ l, i64 d) :
    Calls Tryd.prog 59 #[.slice (some x) l.length c] w fun e w' => e = .returned (.tuple #[.int .i64 (allS l).1, .int .i64 (allS l).2]) ∧ w' = w := by
  have HR := Lib.hid hr
  have HW := Lib.hid hw
  clear hr hw
  have f0 : decide ((l.length : Int) < 1) = false := by simp; omega
  have f1 : decide (4 < (l.length : Int)) = false := by simp; omega
  go_enter Tryd.func59, Tryd.ntmps59
  go_wp2
  go_loopw [4, 17] (fun n i wr => ∃ k : Nat, k ≤ l.length ∧ i = .int .i64 k ∧ n = .int .i64 (prodL (l.take k)) ∧ 1 ≤ prodL (l.take k) ∧ prodL (l.take k) ≤ 4096 ∧ Hid (∀ j, (hj : j < l.length) → j < k → 1 ≤ l[j]) ∧ wr = w) (fun _ i _ => l.length - (intOf i).toNat)
  case atStart => exact ⟨0, Nat.zero_le _, rfl, rfl, by simp [prodL], by simp [prodL], Lib.hid fun _ _ h => absurd h (Nat.not_lt_zero _), rfl⟩
  case round =>
    obtain ⟨k, hk, rfl, rfl, hn1, hn2, H, rfl⟩ := hrel
    by_cases hlt : k < l.length
    · have hc := HR.out.num hlt
      have hp := Lib.hid (prodL_take l k hlt)
      generalize hd : l[k] = d at *
      have HD := Lib.hid hd
      by_cases g0 : d < 1
      · have HF : Hid (allS l = (0, 3)) := Lib.hid (allS_no fun D => by have := D.pos.at hlt; omega)
        have g1 : decide (d < 1) = true := by simpa using g0
        clear g0 hd
        go_wp2
        go_ret2
        exact ⟨by rw [HF.out]; rfl, rfl⟩
      · have g1 : decide (d < 1) = false := by simpa using g0
        by_cases g2 : 4096 < d
        · have HF : Hid (allS l = (0, 3)) := Lib.hid (allS_no fun D => by have := D.pos.at_le hlt; have := D.all; omega)
          have g3 : decide (4096 < d) = true := by simpa using g2
          clear hd
          go_wp2
          go_ret2
          exact ⟨by rw [HF.out]; rfl, rfl⟩
        · have g3 : decide (4096 < d) = false := by simpa using g2
          generalize hN : prodL (l.take k) = N at *
          have hm0 : 1 ≤ N * d := by have := mul_mono hn1 (show 1 ≤ d by omega); omega
          have hm1 : N * d ≤ 16777216 := by
            have : N * d ≤ 4096 * 4096 := Int.mul_le_mul hn2 (by omega) (by omega) (by omega)
            omega
          by_cases g4 : 4096 < N * d
          · have HF : Hid (allS l = (0, 3)) := Lib.hid (allS_no fun D => by
              have := D.pos.take_le (k + 1); have := D.all; have := hp.out; omega)
            clear hN hd
            generalize hM : N * d = M at *
            have g5 : decide (4096 < M) = true := by simpa using g4
            go_wp2
            go_ret2
            exact ⟨by rw [HF.out]; rfl, rfl⟩
          · have H2 : Hid (∀ j, (hj : j < l.length) → j < k + 1 → 1 ≤ l[j]) := Lib.hid fun j hj hjk => by
              by_cases e : j = k
              · subst e; have := HD.out; omega
              · exact H.out j hj (by omega)
            clear hN hd
            generalize hM : N * d = M at *
            have g5 : decide (4096 < M) = false := by simpa using g4
            go_wp2
            go_roundw
            case rel => exact ⟨k + 1, by omega, by go_num, by rw [hp.out], by have := hp.out; omega, by have := hp.out; omega, H2, by trivial⟩
            case measure => simp [intOf]; omega
    · have hk2 : k = l.length := by omega
      subst hk2
      have HT : Hid (l.take l.length = l) := Lib.hid (List.take_length)
      have HF : Hid (allS l = (prodL (l.take l.length), 0)) := Lib.hid (by
        rw [HT.out]
        rw [HT.out] at hn2
        exact allS_yes ⟨h1, h4, pos_of fun j hj => H.out j hj hj, hn2⟩)
      go_wp2
      go_ret2
      exact ⟨by rw [HF.out]; rfl, rfl⟩
theorem all_calls (A : Option Addr) (c : Nat) (l : List Int) (w : World) (hr : Row w A (nums .i64 l)) (hl : l.length ≤ 9223372036854775807) (hw : ∀ d ∈ l, i64 d) :
    Calls Tryd.prog 59 #[.slice A l.length c] w fun e w' => e = .returned (.tuple #[.int .i64 (allS l).1, .int .i64 (allS l).2]) ∧ w' = w := by
  by_cases h : 1 ≤ l.length ∧ l.length ≤ 4
  · obtain ⟨x, rfl⟩ := hr.some_of (by intro h0; have := nums_length .i64 l; rw [h0] at this; simp at this; omega)
    exact all_some x c l w hr h.1 h.2 hw
  · have HF : Hid (allS l = (0, 3)) := Lib.hid (allS_no fun D => h ⟨D.n1, D.n4⟩)
    clear hr hw
    by_cases h0 : l.length < 1
    · have f0 : decide ((l.length : Int) < 1) = true := by simp; omega
      clear h
      go_enter Tryd.func59, Tryd.ntmps59
      go_wp2
      go_ret2
      exact ⟨by rw [HF.out]; rfl, rfl⟩
    · have f0 : decide ((l.length : Int) < 1) = false := by simp; omega
      have f1 : decide (4 < (l.length : Int)) = true := by simp; omega
      clear h
      go_enter Tryd.func59, Tryd.ntmps59
      go_wp2
      go_ret2
      exact ⟨by rw [HF.out]; rfl, rfl⟩
end Go.Proofs.YtohcoidbncbijaaDoor.P
/- The contract of package shape's Coord. Conditions: words of their kinds; slices read as lists. -/
namespace Go.Proofs.YtohcoidbncbijaaDoor.P
open Go.RowKit
set_option linter.unusedVariables false
set_option linter.unusedSimpArgs false
/-- A list that is being filled from its end. -/
def fillB (f : Nat → Int) (n k : Nat) : List Int := (List.range n).map fun i => if k ≤ i then f i else 0
theorem fillB_length (f : Nat → Int) (n k : Nat) : (fillB f n k).length = n := by simp [fillB]
theorem fillB_none (f : Nat → Int) (n : Nat) : fillB f n n = List.replicate n 0 := by
  apply List.ext_getElem
  · simp [fillB]
  · intro i h1 h2
    simp [fillB] at h1
    simp [fillB]; intro h; omega
theorem fillB_set (f : Nat → Int) (n k : Nat) (h : k < n) : (fillB f n (k + 1)).set k (f k) = fillB f n k := by
  apply List.ext_getElem
  · simp [fillB]
  · intro i h1 h2
    rw [List.getElem_set]
    simp only [fillB, List.getElem_map, List.getElem_range]
    split
    · rename_i e; subst e; rw [if_pos (by omega)]
    · rename_i e
      by_cases hik : k + 1 ≤ i
      · rw [if_pos hik, if_pos (by omega)]
      · rw [if_neg hik, if_neg (by omega)]
theorem fillB_all (f : Nat → Int) (n : Nat) : fillB f n 0 = (List.range n).map f := by
  apply List.ext_getElem
  · simp [fillB]
  · intro i h1 h2
    simp [fillB]
/-- A place's coordinate of an axis. -/
def coordF (l : List Int) (i : Int) (k : Nat) : Int := i / prodL (l.drop (k + 1)) % l.getD k 1
def coordL (l : List Int) (i : Int) : List Int := (List.range l.length).map (coordF l i)
def coordS (l : List Int) (i : Int) : List Int × Int :=
  if Dims l then (if 0 ≤ i ∧ i < prodL l then (coordL l i, 0) else ([], 1)) else ([], 3)
theorem coordF_at (l : List Int) (i : Int) (k : Nat) (h : k < l.length) : coordF l i k = i / prodL (l.drop (k + 1)) % l[k] := by
  rw [coordF, List.getD_eq_getElem?_getD, List.getElem?_eq_getElem h]; rfl
theorem coord_next (l : List Int) (i : Int) (k : Nat) (h : k < l.length) (hp : Pos l) : i / prodL (l.drop (k + 1)) / l[k] = i / prodL (l.drop k) := by
  rw [prodL_drop l k h, Int.ediv_ediv_of_nonneg (by have := (hp.drop (k + 1)).prod; omega), Int.mul_comm]
theorem make_int (n : Nat) (hn : n ≤ 17592186044415) (w : World) : (Instr.makeSlice 70 (.int .i64 (n : Int)) (.int .i64 (n : Int))).run Tryd.prog w =
    .ok (.slice (some ⟨w.heap.size, 0, none⟩) n n) (w.alloc (.cells (madeCells #[.int .i64 0] n) 3)) := by
  obtain ⟨i0, hi, hz⟩ := Option.map_eq_some_iff.1 info_int
  simp only [Prod.mk.injEq] at hz
  obtain ⟨h0, h1, h2⟩ := hz
  rw [run_make w 70 3 i0 (.int .i64 0) Tryd.underlying70 hi h0 .i64 .i64 n n (by omega) (by omega) (by rw [h2]; omega) (by omega), h1]
  simp [Value.cells]
theorem coord_calls (A : Option Addr) (c : Nat) (l : List Int) (i : Int) (w : World) (hr : Row w A (nums .i64 l)) (hl : l.length ≤ 9223372036854775807) (hw : ∀ d ∈ l, i64 d) (hi : i64 i) :
    Calls Tryd.prog 112 #[.slice A l.length c, .int .i64 i] w fun e w' => ∃ B b,
      e = .returned (.tuple #[.slice B (coordS l i).1.length b, .int .i64 (coordS l i).2]) ∧ Own w' w.heap.size 3 1 B (coordS l i).1.length b (nums .i64 (coordS l i).1) ∧ Below w.heap.size w w' := by
  have HR := Lib.hid hr
  have HL := Lib.hid hl
  have HW := Lib.hid hw
  clear hr hl hw
  by_cases hd : Dims l
  · have HA := Lib.hid (allS_yes hd)
    by_cases hin : 0 ≤ i ∧ i < prodL l
    · obtain ⟨i0, i1⟩ := hin
      have HF : Hid (coordS l i = (coordL l i, 0)) := Lib.hid (by rw [coordS, if_pos hd, if_pos ⟨i0, i1⟩])
      have HLL : Hid ((coordL l i).length = l.length) := Lib.hid (by simp [coordL])
      have hn1 := hd.n1
      have hn4 := hd.n4
      obtain ⟨x, rfl⟩ := HR.out.some_of (by intro h0; have := nums_length .i64 l; rw [h0] at this; simp at this; omega)
      have hmk := make_int l.length (by omega)
      have HD := Lib.hid hd
      rw [HF.out, show ((coordL l i, (0 : Int)).1) = coordL l i from rfl, show ((coordL l i, (0 : Int)).2) = 0 from rfl, HLL.out]
      have f0 : decide (i < 0) = false := by simp; omega
      have f1 : decide (prodL l ≤ i) = false := by simp; omega
      have hi4 : i ≤ 4095 := by have := hd.all; omega
      clear hd hi
      go_enter Tryd.func112, Tryd.ntmps112
      go_wp2_with (go_at_call 59; refine (all_calls _ _ _ _ HR.out HL.out HW.out).mono ?_; rw [HA.out]; rintro e w' ⟨rfl, rfl⟩)
      have hown := own_made w' w'.heap.size 3 (.int .i64 0) l.length (Nat.le_refl _) (by omega)
      have hbel : Below w'.heap.size w' (w'.alloc (.cells (madeCells #[.int .i64 0] l.length) 3)) := (Below.refl _ _).alloc (Nat.le_refl _) _
      rw [nums_replicate, ← fillB_none (coordF l i)] at hown
      generalize (w'.alloc (.cells (madeCells #[.int .i64 0] l.length) 3)) = W at *
      have HO := Lib.hid hown
      have HB := Lib.hid hbel
      clear hown hbel hmk
      have HN : Hid (l.drop l.length = []) := Lib.hid (by simp)
      go_loopw [1, 9] (fun v q wr => ∃ k : Nat, k ≤ l.length ∧ q = .int .i64 ((k : Int) - 1) ∧ v = .int .i64 (i / prodL (l.drop k)) ∧ 0 ≤ i / prodL (l.drop k) ∧ i / prodL (l.drop k) ≤ 4095 ∧ Hid (Own wr w'.heap.size 3 1 (some ⟨w'.heap.size, 0, none⟩) l.length l.length (nums .i64 (fillB (coordF l i) l.length k))) ∧ Hid (Below w'.heap.size w' wr)) (fun _ q _ => (intOf q + 1).toNat)
      case atStart => exact ⟨l.length, Nat.le_refl _, rfl, by rw [HN.out]; simp [prodL], by rw [HN.out]; simpa [prodL] using i0, by rw [HN.out]; simpa [prodL] using hi4, HO, HB⟩
      case round =>
        obtain ⟨k, hk, rfl, rfl, hv0, hv1, HO2, HB2⟩ := hrel
        rcases Nat.eq_zero_or_pos k with hk0 | hk0
        · subst hk0
          have HZ : Hid (fillB (coordF l i) l.length 0 = coordL l i) := Lib.hid (fillB_all _ _)
          go_wp2
          go_ret2
          exact ⟨_, _, rfl, by rw [← HZ.out]; exact HO2.out, HB2.out⟩
        · obtain ⟨j, rfl⟩ : ∃ j, k = j + 1 := ⟨k - 1, by omega⟩
          have hj : j < l.length := by omega
          rw [show (((j + 1 : Nat) : Int) - 1) = (j : Int) from by omega]
          have hc : wr.cell? (x.add j) = some (.int .i64 l[j]) := (HR.out.below HB2.out).num hj
          have hf : wr.frozen? ⟨w'.heap.size, j, none⟩ = false := HO2.out.frozenAt j
          have hc2 : wr.cell? ⟨w'.heap.size, j, none⟩ = some (.int .i64 ((fillB (coordF l i) l.length (j + 1))[j]'(by rw [fillB_length]; exact hj))) := by
            rw [HO2.out.cellAt j hj]; exact nums_get .i64 _ j (by rw [fillB_length]; exact hj)
          have HC := Lib.hid (coordF_at l i j hj)
          have HX := Lib.hid (coord_next l i j hj HD.out.pos)
          have hd1 := HD.out.pos.at hj
          have hb : (x.add j).block < w'.heap.size := World.block_lt_of_cell? w' _ (HR.out.num hj)
          have hkeep : ∀ u, (wr.setCell ⟨w'.heap.size, j, none⟩ u).cell? (x.add j) = some (.int .i64 l[j]) := fun u =>
            (((Below.refl w'.heap.size wr).setCell (p := ⟨w'.heap.size, j, none⟩) (Nat.le_refl _) u).cell hb).trans hc
          have HK := Lib.hid hkeep
          clear hkeep
          generalize hd : l[j] = d at *
          generalize hV : i / prodL (l.drop (j + 1)) = V at *
          have hq0 : 0 ≤ V / d := Int.ediv_nonneg hv0 (by omega)
          have hq1 : V / d ≤ V := Int.ediv_le_self _ hv0
          have hm0 : 0 ≤ V % d := Int.emod_nonneg _ (by omega)
          have hm1 : V % d < d := Int.emod_lt_of_pos _ (by omega)
          have ht1 : V.tmod d = V % d := Int.tmod_eq_emod_of_nonneg hv0
          have ht2 : V.tdiv d = V / d := Int.tdiv_eq_ediv_of_nonneg hv0
          have hd0 : ¬ d = 0 := by omega
          have hwq : IntKind.i64.wrap (V / d) = V / d := wrapI (by omega) (by omega)
          clear hV hd
          go_wp2
          go_region_held3 (fun w' => w'.cell? (x.add j) = some (.int .i64 d)) (first | exact HK.out _ | go_keep) (fail)
          go_wp2
          go_roundw
          case rel => exact ⟨j, by omega, rfl, by rw [HX.out], by rw [← HX.out]; exact hq0, by rw [← HX.out]; omega, by
            have h1 := HO2.out.stored j (.int .i64 (V % d))
            rw [nums_set] at h1
            have h2 := fillB_set (coordF l i) l.length j hj
            rw [HC.out] at h2
            rw [h2] at h1
            exact Lib.hid (h1.drewN 1), Lib.hid (below_drewN (HB2.out.setCell (Nat.le_refl _) _) 1)⟩
          case measure => simp [intOf]
    · have HF : Hid (coordS l i = ([], 1)) := Lib.hid (by rw [coordS, if_pos hd, if_neg hin])
      rw [HF.out]
      by_cases h0 : i < 0
      · have f0 : decide (i < 0) = true := by simpa using h0
        clear hin hd
        go_enter Tryd.func112, Tryd.ntmps112
        go_wp2_with (go_at_call 59; refine (all_calls _ _ _ _ HR.out HL.out HW.out).mono ?_; rw [HA.out]; rintro e w' ⟨rfl, rfl⟩)
        go_ret2
        exact ⟨none, 0, rfl, Own.nil _ _ _ _, Below.refl _ _⟩
      · have f0 : decide (i < 0) = false := by simpa using h0
        have f1 : decide (prodL l ≤ i) = true := by simp; omega
        clear hin hd
        go_enter Tryd.func112, Tryd.ntmps112
        go_wp2_with (go_at_call 59; refine (all_calls _ _ _ _ HR.out HL.out HW.out).mono ?_; rw [HA.out]; rintro e w' ⟨rfl, rfl⟩)
        go_ret2
        exact ⟨none, 0, rfl, Own.nil _ _ _ _, Below.refl _ _⟩
  · have HF : Hid (coordS l i = ([], 3)) := Lib.hid (by rw [coordS, if_neg hd])
    have HA := Lib.hid (allS_no hd)
    rw [HF.out]
    clear hd
    go_enter Tryd.func112, Tryd.ntmps112
    go_wp2_with (go_at_call 59; refine (all_calls _ _ _ _ HR.out HL.out HW.out).mono ?_; rw [HA.out]; rintro e w' ⟨rfl, rfl⟩)
    go_ret2
    exact ⟨none, 0, rfl, Own.nil _ _ _ _, Below.refl _ _⟩
end Go.Proofs.YtohcoidbncbijaaDoor.P
/- The contracts of package shape's Flat and Inner. Conditions: words of their kinds; slices read as lists. -/
namespace Go.Proofs.YtohcoidbncbijaaDoor.P
open Go.RowKit
set_option linter.unusedVariables false
set_option linter.unusedSimpArgs false
/-- The place of the first coordinates. -/
def hor (l c : List Int) : Nat → Int
  | 0 => 0
  | k + 1 => hor l c k * l.getD k 1 + c.getD k 0
def Fits (l c : List Int) : Prop := c.length = l.length ∧ ∀ k, k < l.length → 0 ≤ c.getD k 0 ∧ c.getD k 0 < l.getD k 1
instance (l c : List Int) : Decidable (Fits l c) := by unfold Fits; exact inferInstance
def flatS (l c : List Int) : Int × Int := if Dims l then (if Fits l c then (hor l c l.length, 0) else (0, 1)) else (0, 3)
theorem getD_at {l : List Int} {k : Nat} (h : k < l.length) (v : Int) : l.getD k v = l[k] := by
  rw [List.getD_eq_getElem?_getD, List.getElem?_eq_getElem h]; rfl
theorem hor_bound {l c : List Int} (hp : Pos l) : ∀ k, k ≤ l.length → (∀ j, j < k → 0 ≤ c.getD j 0 ∧ c.getD j 0 < l.getD j 1) → 0 ≤ hor l c k ∧ hor l c k < prodL (l.take k)
  | 0, _, _ => by simp [hor, prodL]
  | k + 1, hk, h => by
    have ih := hor_bound hp k (by omega) (fun j hj => h j (by omega))
    have hx := h k (by omega)
    have hd := hp.at (k := k) (by omega)
    rw [prodL_take l k (by omega)]
    rw [getD_at (show k < l.length by omega)] at hx
    simp only [hor]
    rw [getD_at (show k < l.length by omega)]
    have h1 : 0 ≤ hor l c k * l[k] := Int.mul_nonneg ih.1 (by omega)
    have h2 : (hor l c k + 1) * l[k] ≤ prodL (l.take k) * l[k] := Int.mul_le_mul_of_nonneg_right (by omega) (by omega)
    rw [Int.add_mul, Int.one_mul] at h2
    omega
end Go.Proofs.YtohcoidbncbijaaDoor.P
/- The contracts of package shape's Inner and Line. Conditions: words of their kinds; slices read as lists. -/
namespace Go.Proofs.YtohcoidbncbijaaDoor.P
open Go.RowKit
set_option linter.unusedVariables false
set_option linter.unusedSimpArgs false
theorem addr_add_add (x : Addr) (n i : Nat) : (x.add n).add i = x.add (n + i) := by
  simp only [Addr.add]
  by_cases h0 : n = 0 <;> by_cases h1 : i = 0 <;> simp [h0, h1, Nat.add_assoc]
theorem Row.drop {w : World} {x : Addr} {k : IntKind} {l : List Int} (h : Row w (some x) (nums k l)) (n : Nat) : Row w (some (x.add n)) (nums k (l.drop n)) := by
  right
  refine ⟨_, rfl, fun i u hi => ?_⟩
  have h1 : (nums k l)[n + i]? = some u := by rw [← hi]; simp [nums]
  have h2 := h.cell h1
  rw [← h2]
  rw [addr_add_add]
def innerS (l : List Int) (a : Int) : Int × Int := if Dims l then (if 0 ≤ a ∧ a < l.length then (prodL (l.drop (a.toNat + 1)), 0) else (0, 1)) else (0, 3)
theorem inner_calls (A : Option Addr) (c : Nat) (l : List Int) (a : Int) (w : World) (hr : Row w A (nums .i64 l)) (hl : l.length ≤ 9223372036854775807) (hc : l.length ≤ c) (hw : ∀ d ∈ l, i64 d) (ha : i64 a) :
    Calls Tryd.prog 141 #[.slice A l.length c, .int .i64 a] w fun e w' => e = .returned (.tuple #[.int .i64 (innerS l a).1, .int .i64 (innerS l a).2]) ∧ w' = w := by
  have HR := Lib.hid hr
  have HL := Lib.hid hl
  have HW := Lib.hid hw
  clear hr hl hw
  by_cases hd : Dims l
  · have HA := Lib.hid (allS_yes hd)
    have HD := Lib.hid hd
    have hn1 := hd.n1
    have hn4 := hd.n4
    by_cases hin : 0 ≤ a ∧ a < l.length
    · obtain ⟨a0, a1⟩ := hin
      obtain ⟨N, rfl⟩ := Int.eq_ofNat_of_zero_le a0
      obtain ⟨x, rfl⟩ := HR.out.some_of (by intro h0; have := nums_length .i64 l; rw [h0] at this; simp at this; omega)
      have HF : Hid (innerS l N = (prodL (l.drop (N + 1)), 0)) := Lib.hid (by rw [innerS, if_pos hd, if_pos ⟨a0, a1⟩, Int.toNat_natCast])
      have f0 : decide ((N : Int) < 0) = false := by simp
      have f1 : decide ((l.length : Int) ≤ (N : Int)) = false := by simp; omega
      have hN : N < l.length := by omega
      clear hd ha a0 a1
      go_enter Tryd.func141, Tryd.ntmps141
      go_wp2_with (go_at_call 59; refine (all_calls _ _ _ _ HR.out HL.out HW.out).mono ?_; rw [HA.out]; rintro e w' ⟨rfl, rfl⟩)
      case inl =>
        have hm0 : l.length - (N + 1) = 0 := by omega
        have HE : Hid (prodL (l.drop (N + 1)) = 1) := Lib.hid (by rw [List.drop_eq_nil_of_le (by omega)]; rfl)
        rw [hm0]
        refine wp_loop_once ?_
        go_wp2
        go_ret2
        exact ⟨by rw [HF.out, HE.out]; rfl, rfl⟩
      case inr =>
        generalize hy : (⟨x.block, x.off + (N + 1), none⟩ : Addr) = y at *
        have HRM : Hid (Row w' (some y) (nums .i64 (l.drop (N + 1)))) := Lib.hid (by rw [← hy]; simpa [Addr.add] using HR.out.drop (N + 1))
        have HPM : Hid (Pos (l.drop (N + 1)) ∧ prodL (l.drop (N + 1)) ≤ 4096) := Lib.hid ⟨HD.out.pos.drop _, by have := HD.out.pos.drop_le (N + 1); have := HD.out.all; omega⟩
        have hml : (l.drop (N + 1)).length = l.length - (N + 1) := by simp
        rw [← hml]
        generalize l.drop (N + 1) = m at *
        have hm4 : m.length ≤ 4 := by omega
        clear hml hy
        go_loopw [8, 34] (fun n i wr => ∃ k : Nat, k ≤ m.length ∧ i = .int .i64 k ∧ n = .int .i64 (prodL (m.take k)) ∧ wr = w') (fun _ i _ => m.length - (intOf i).toNat)
        case atStart => exact ⟨0, Nat.zero_le _, rfl, rfl, rfl⟩
        case round =>
          obtain ⟨k, hk, rfl, rfl, rfl⟩ := hrel
          by_cases hlt : k < m.length
          · have hc := HRM.out.num hlt
            have hp := Lib.hid (prodL_take m k hlt)
            have h1 := HPM.out.1.take_le (k + 1)
            have h2 := (HPM.out.1.take (k + 1)).prod
            have h3 := HPM.out.2
            rw [hp.out] at h1 h2
            generalize m[k] = d at *
            generalize prodL (m.take k) = V at *
            generalize hM : V * d = M at *
            have hm1 : M ≤ 4096 := by omega
            clear h1 h3
            go_wp2
            go_roundw
            case rel => exact ⟨k + 1, by omega, by go_num, by rw [hp.out], by trivial⟩
            case measure => simp [intOf]; omega
          · have hk2 : k = m.length := by omega
            subst hk2
            have HT : Hid (m.take m.length = m) := Lib.hid (List.take_length)
            go_wp2
            go_ret2
            exact ⟨by rw [HF.out, ← HT.out]; simp, rfl⟩
    · have HF : Hid (innerS l a = (0, 1)) := Lib.hid (by rw [innerS, if_pos hd, if_neg hin])
      by_cases h0 : a < 0
      · have f0 : decide (a < 0) = true := by simpa using h0
        clear hin hd
        go_enter Tryd.func141, Tryd.ntmps141
        go_wp2_with (go_at_call 59; refine (all_calls _ _ _ _ HR.out HL.out HW.out).mono ?_; rw [HA.out]; rintro e w' ⟨rfl, rfl⟩)
        go_ret2
        exact ⟨by rw [HF.out]; rfl, rfl⟩
      · have f0 : decide (a < 0) = false := by simpa using h0
        have f1 : decide ((l.length : Int) ≤ a) = true := by simp; omega
        clear hin hd
        go_enter Tryd.func141, Tryd.ntmps141
        go_wp2_with (go_at_call 59; refine (all_calls _ _ _ _ HR.out HL.out HW.out).mono ?_; rw [HA.out]; rintro e w' ⟨rfl, rfl⟩)
        go_ret2
        exact ⟨by rw [HF.out]; rfl, rfl⟩
  · have HF : Hid (innerS l a = (0, 3)) := Lib.hid (by rw [innerS, if_neg hd])
    have HA := Lib.hid (allS_no hd)
    clear hd
    go_enter Tryd.func141, Tryd.ntmps141
    go_wp2_with (go_at_call 59; refine (all_calls _ _ _ _ HR.out HL.out HW.out).mono ?_; rw [HA.out]; rintro e w' ⟨rfl, rfl⟩)
    go_ret2
    exact ⟨by rw [HF.out]; rfl, rfl⟩
end Go.Proofs.YtohcoidbncbijaaDoor.P
/- The contract of package shape's Line. Conditions: words of their kinds; slices read as lists. -/
namespace Go.Proofs.YtohcoidbncbijaaDoor.P
open Go.RowKit
set_option linter.unusedVariables false
set_option linter.unusedSimpArgs false
/-- A line's first place. -/
def lineF (l : List Int) (a : Nat) (k : Int) : Int := k / prodL (l.drop (a + 1)) * l.getD a 1 * prodL (l.drop (a + 1)) + k % prodL (l.drop (a + 1))
def lineG (l : List Int) (a : Nat) (k : Int) (i : Nat) : Int := lineF l a k + i * prodL (l.drop (a + 1))
def lineL (l : List Int) (a : Nat) (k : Int) : List Int := (List.range (l.getD a 1).toNat).map (lineG l a k)
def lineS (l : List Int) (a k : Int) : List Int × Int :=
  if Dims l then (if 0 ≤ a ∧ a < l.length then (if 0 ≤ k ∧ k < prodL l / l.getD a.toNat 1 then (lineL l a.toNat k, 0) else ([], 1)) else ([], 1)) else ([], 3)
theorem line_calls (A : Option Addr) (c : Nat) (l : List Int) (a k : Int) (w : World) (hr : Row w A (nums .i64 l)) (hl : l.length ≤ 9223372036854775807) (hc : l.length ≤ c) (hw : ∀ d ∈ l, i64 d) (ha : i64 a) (hk : i64 k) :
    Calls Tryd.prog 102 #[.slice A l.length c, .int .i64 a, .int .i64 k] w fun e w' => ∃ B b,
      e = .returned (.tuple #[.slice B (lineS l a k).1.length b, .int .i64 (lineS l a k).2]) ∧ Own w' w.heap.size 3 1 B (lineS l a k).1.length b (nums .i64 (lineS l a k).1) ∧ Below w.heap.size w w' := by
  have HR := Lib.hid hr
  have HL := Lib.hid hl
  have HW := Lib.hid hw
  have HAA := Lib.hid ha
  clear hr hl hw
  by_cases hd : Dims l
  · have HA := Lib.hid (allS_yes hd)
    have HD := Lib.hid hd
    have hn1 := hd.n1
    have hn4 := hd.n4
    by_cases hin : 0 ≤ a ∧ a < l.length
    · obtain ⟨a0, a1⟩ := hin
      obtain ⟨N, rfl⟩ := Int.eq_ofNat_of_zero_le a0
      obtain ⟨x, rfl⟩ := HR.out.some_of (by intro h0; have := nums_length .i64 l; rw [h0] at this; simp at this; omega)
      have hN : N < l.length := by omega
      have HI : Hid (innerS l N = (prodL (l.drop (N + 1)), 0)) := Lib.hid (by rw [innerS, if_pos hd, if_pos ⟨a0, a1⟩, Int.toNat_natCast])
      have HG := Lib.hid (getD_at hN 1)
      have hcell : w.cell? (x.add N) = some (.int .i64 l[N]) := HR.out.num hN
      have hd1 := hd.pos.at hN
      have hd2 : l[N] ≤ 4096 := by have := hd.pos.at_le hN; have := hd.all; omega
      have hI1 := (hd.pos.drop (N + 1)).prod
      have hI2 : prodL (l.drop (N + 1)) ≤ 4096 := by have := hd.pos.drop_le (N + 1); have := hd.all; omega
      have hP1 := hd.pos.prod
      have hP2 := hd.all
      have hq1 : prodL l / l[N] ≤ prodL l := Int.ediv_le_self _ (by omega)
      have ht1 : (prodL l).tdiv l[N] = prodL l / l[N] := Int.tdiv_eq_ediv_of_nonneg (by omega)
      have hq0 : 0 ≤ prodL l / l[N] := Int.ediv_nonneg (by omega) (by omega)
      have hwq : IntKind.i64.wrap (prodL l / l[N]) = prodL l / l[N] := wrapI hq0 (by omega)
      have hd0 : ¬ l[N] = 0 := by omega
      by_cases hkin : 0 ≤ k ∧ k < prodL l / l[N]
      · obtain ⟨k0, k1⟩ := hkin
        have HF : Hid (lineS l N k = (lineL l N k, 0)) := Lib.hid (by rw [lineS, if_pos hd, if_pos ⟨a0, a1⟩, Int.toNat_natCast, HG.out, if_pos ⟨k0, k1⟩])
        have HLL : Hid ((lineL l N k).length = l[N].toNat) := Lib.hid (by rw [lineL, HG.out]; simp)
        have HLF : Hid (lineF l N k = k / prodL (l.drop (N + 1)) * l[N] * prodL (l.drop (N + 1)) + k % prodL (l.drop (N + 1))) := Lib.hid (by rw [lineF, HG.out])
        have HLG : Hid (∀ i : Nat, lineG l N k i = lineF l N k + i * prodL (l.drop (N + 1))) := Lib.hid fun _ => rfl
        have HLA : Hid (lineL l N k = (List.range l[N].toNat).map (lineG l N k)) := Lib.hid (by rw [lineL, HG.out])
        have f0 : decide (k < 0) = false := by simp; omega
        have f1 : decide (prodL l / l[N] ≤ k) = false := by simp; omega
        rw [HF.out, show ((lineL l N k, (0 : Int)).1) = lineL l N k from rfl, show ((lineL l N k, (0 : Int)).2) = 0 from rfl, HLL.out]
        generalize prodL (l.drop (N + 1)) = I at *
        generalize l[N] = d at *
        obtain ⟨D, rfl⟩ := Int.eq_ofNat_of_zero_le (show 0 ≤ d by omega)
        rw [Int.toNat_natCast] at *
        have hmk := make_int D (by omega)
        have hk4 : k ≤ 4095 := by omega
        clear hd hk ha a0 a1
        go_enter Tryd.func102, Tryd.ntmps102
        go_wp2_with (first
          | (go_at_call 141; refine (inner_calls _ _ _ _ _ HR.out HL.out hc HW.out HAA.out).mono ?_; rw [HI.out]; rintro e w' ⟨rfl, rfl⟩)
          | (go_at_call 59; refine (all_calls _ _ _ _ HR.out HL.out HW.out).mono ?_; rw [HA.out]; rintro e w' ⟨rfl, rfl⟩))
        have hown := own_made w' w'.heap.size 3 (.int .i64 0) D (Nat.le_refl _) (by omega)
        have hbel : Below w'.heap.size w' (w'.alloc (.cells (madeCells #[.int .i64 0] D) 3)) := (Below.refl _ _).alloc (Nat.le_refl _) _
        rw [nums_replicate, ← fillL_zero (lineG l N k)] at hown
        generalize (w'.alloc (.cells (madeCells #[.int .i64 0] D) 3)) = W at *
        have HO := Lib.hid hown
        have HB := Lib.hid hbel
        clear hown hbel hmk
        have hq2 : k / I ≤ k := Int.ediv_le_self _ k0
        have hq3 : 0 ≤ k / I := Int.ediv_nonneg k0 (by omega)
        have hr2 : 0 ≤ k % I := Int.emod_nonneg _ (by omega)
        have hr3 : k % I < I := Int.emod_lt_of_pos _ (by omega)
        have hqi : k / I * I ≤ k := Int.ediv_mul_le _ (by omega)
        have ht2 : k.tdiv I = k / I := Int.tdiv_eq_ediv_of_nonneg k0
        have ht3 : k.tmod I = k % I := Int.tmod_eq_emod_of_nonneg k0
        have hm2 : k / I * D * I ≤ 16773120 := by
          rw [Int.mul_right_comm]
          have : k / I * I * D ≤ 4095 * 4096 := Int.mul_le_mul (by omega) hd2 (by omega) (by omega)
          omega
        have hm1 : k / I * D ≤ 16773120 := by
          have : k / I * D ≤ 4095 * 4096 := Int.mul_le_mul (by omega) hd2 (by omega) (by omega)
          omega
        have hm3 : 0 ≤ k / I * D := Int.mul_nonneg hq3 (by omega)
        have hm4 : 0 ≤ k / I * D * I := Int.mul_nonneg hm3 (by omega)
        have hz1 : ¬ I = 0 := by omega
        have hF0 : 0 ≤ lineF l N k := by rw [HLF.out]; omega
        have hF1 : lineF l N k ≤ 16777216 := by rw [HLF.out]; omega
        generalize k / I = q at *
        generalize hM1 : q * (D : Int) = M1 at *
        generalize hM2 : M1 * I = M2 at *
        generalize k % I = R at *
        have hS := HLF.out.symm
        generalize lineF l N k = F at *
        have hw1 : IntKind.i64.wrap q = q := wrapI hq3 (by omega)
        have hw2 : IntKind.i64.wrap M1 = M1 := wrapI hm3 (by omega)
        have hw3 : IntKind.i64.wrap M2 = M2 := wrapI hm4 (by omega)
        have hw4 : IntKind.i64.wrap F = F := wrapI hF0 (by omega)
        refine wp_region_below (by kernel_rfl) (by kernel_rfl) ?_
        repeat (first
          | (refine wpQuiet_step (fun K hK => ?_); go_simp; refine ⟨_, fun _ _ => rfl, hK _ ?_⟩; clear hK K))
        refine wpQuiet_nil ?_
        intro w2 hw2
        have HO2 := Lib.hid (HO.out.grown hw2)
        have HB2 : Hid (Below w'.heap.size w' w2) := Lib.hid (HB.out.trans (hw2.mono HB.out.size))
        clear hw2 HO HB hS HLF hM1 hM2
        clear hw1 hw2 hw3 hw4 hm1 hm2 hm3 hm4 hq2 hq3 hqi hr2 hr3 ht2 ht3 ht1 hwq hq0 hq1
        go_wp2
        go_loopw [61] (fun i wr => ∃ j : Nat, j ≤ D ∧ i = .int .i64 j ∧ Hid (Own wr w'.heap.size 3 1 (some ⟨w'.heap.size, 0, none⟩) D D (nums .i64 (fillL (lineG l N k) D j))) ∧ Hid (Below w'.heap.size w' wr)) (fun i _ => D - (intOf i).toNat)
        case atStart => exact ⟨0, Nat.zero_le _, rfl, HO2, HB2⟩
        case round =>
          obtain ⟨j, hj, rfl, HO3, HB3⟩ := hrel
          by_cases hlt : j < D
          · have hc2 : wr.cell? ⟨w'.heap.size, j, none⟩ = some (.int .i64 ((fillL (lineG l N k) D j)[j]'(by rw [fillL_length]; exact hlt))) := by
              rw [HO3.out.cellAt j hlt]; exact nums_get .i64 _ j (by rw [fillL_length]; exact hlt)
            have hf : wr.frozen? ⟨w'.heap.size, j, none⟩ = false := HO3.out.frozenAt j
            have HGJ := Lib.hid (HLG.out j)
            have hp0 : 0 ≤ (j : Int) * I := Int.mul_nonneg (by omega) (by omega)
            have hp1 : (j : Int) * I ≤ 16777216 := by
              have : (j : Int) * I ≤ 4096 * 4096 := Int.mul_le_mul (by omega) hI2 (by omega) (by omega)
              omega
            generalize hM : (j : Int) * I = M at *
            go_wp2
            go_roundw
            case rel => exact ⟨j + 1, by omega, by go_num, by
              have h1 := HO3.out.stored j (.int .i64 (F + M))
              rw [nums_set] at h1
              have h2 := fillL_set (lineG l N k) D j hlt
              rw [HGJ.out] at h2
              rw [h2] at h1
              exact Lib.hid h1, Lib.hid (HB3.out.setCell (Nat.le_refl _) _)⟩
            case measure => simp [intOf]; omega
          · have hj2 : j = D := by omega
            subst hj2
            have HZ : Hid (fillL (lineG l N k) j j = lineL l N k) := Lib.hid (by rw [HLA.out]; exact fillL_all _ _)
            go_wp2
            go_ret2
            exact ⟨_, _, rfl, by rw [← HZ.out]; exact HO3.out, HB3.out⟩
      · have HF : Hid (lineS l N k = ([], 1)) := Lib.hid (by rw [lineS, if_pos hd, if_pos ⟨a0, a1⟩, Int.toNat_natCast, HG.out, if_neg hkin])
        rw [HF.out]
        generalize prodL (l.drop (N + 1)) = I at *
        generalize l[N] = d at *
        by_cases h0 : k < 0
        · have f0 : decide (k < 0) = true := by simpa using h0
          clear hd hk ha a0 a1 hkin
          go_enter Tryd.func102, Tryd.ntmps102
          go_wp2_with (first
            | (go_at_call 141; refine (inner_calls _ _ _ _ _ HR.out HL.out hc HW.out HAA.out).mono ?_; rw [HI.out]; rintro e w' ⟨rfl, rfl⟩)
            | (go_at_call 59; refine (all_calls _ _ _ _ HR.out HL.out HW.out).mono ?_; rw [HA.out]; rintro e w' ⟨rfl, rfl⟩))
          go_ret2
          exact ⟨none, 0, rfl, Own.nil _ _ _ _, Below.refl _ _⟩
        · have f0 : decide (k < 0) = false := by simpa using h0
          have f1 : decide (prodL l / d ≤ k) = true := by simp; omega
          clear hd hk ha a0 a1 hkin
          go_enter Tryd.func102, Tryd.ntmps102
          go_wp2_with (first
            | (go_at_call 141; refine (inner_calls _ _ _ _ _ HR.out HL.out hc HW.out HAA.out).mono ?_; rw [HI.out]; rintro e w' ⟨rfl, rfl⟩)
            | (go_at_call 59; refine (all_calls _ _ _ _ HR.out HL.out HW.out).mono ?_; rw [HA.out]; rintro e w' ⟨rfl, rfl⟩))
          go_ret2
          exact ⟨none, 0, rfl, Own.nil _ _ _ _, Below.refl _ _⟩
    · have HF : Hid (lineS l a k = ([], 1)) := Lib.hid (by rw [lineS, if_pos hd, if_neg hin])
      have HI : Hid (innerS l a = (0, 1)) := Lib.hid (by rw [innerS, if_pos hd, if_neg hin])
      rw [HF.out]
      clear hd hin
      go_enter Tryd.func102, Tryd.ntmps102
      go_wp2_with (go_at_call 141; refine (inner_calls _ _ _ _ _ HR.out HL.out hc HW.out HAA.out).mono ?_; rw [HI.out]; rintro e w' ⟨rfl, rfl⟩)
      go_ret2
      exact ⟨none, 0, rfl, Own.nil _ _ _ _, Below.refl _ _⟩
  · have HF : Hid (lineS l a k = ([], 3)) := Lib.hid (by rw [lineS, if_neg hd])
    have HI : Hid (innerS l a = (0, 3)) := Lib.hid (by rw [innerS, if_neg hd])
    rw [HF.out]
    clear hd
    go_enter Tryd.func102, Tryd.ntmps102
    go_wp2_with (go_at_call 141; refine (inner_calls _ _ _ _ _ HR.out HL.out hc HW.out HAA.out).mono ?_; rw [HI.out]; rintro e w' ⟨rfl, rfl⟩)
    go_ret2
    exact ⟨none, 0, rfl, Own.nil _ _ _ _, Below.refl _ _⟩
end Go.Proofs.YtohcoidbncbijaaDoor.P
/- The contract of brackenref04's SameInts. Conditions: slices read as lists. -/
namespace Go.Proofs.YtohcoidbncbijaaDoor.P
open Go.RowKit
set_option linter.unusedVariables false
set_option linter.unusedSimpArgs false
theorem drawn0_two (w : World) (a b : Nat) : Drawn0 w ((w.drewN a).drewN b) := ⟨a + b, World.drewN_drewN w a b⟩
theorem sameInts_some (x y : Addr) (ca cb : Nat) (l m : List Int) (w : World) (hr : Row w (some x) (nums .i64 l)) (hl : l.length ≤ 9223372036854775807) (hrm : Row w (some y) (nums .i64 m)) (hlen : m.length = l.length) :
    Calls Tryd.prog 92 #[.slice (some x) l.length ca, .slice (some y) m.length cb] w fun e w' => e = .returned (.bool (decide (l = m))) ∧ Drawn0 w w' := by
  have HR := Lib.hid hr
  have HRM := Lib.hid hrm
  have f0 : ((l.length : Int) != (m.length : Int)) = false := by simp; omega
  clear hr hrm
  go_enter Tryd.func92, Tryd.ntmps92
  go_wp2
  go_loopw [13] (fun i wr => ∃ k : Nat, k ≤ l.length ∧ i = .int .i64 k ∧ Hid (∀ j, (hj : j < l.length) → (hj2 : j < m.length) → j < k → l[j] = m[j]) ∧ Drawn0 w wr) (fun i _ => l.length - (intOf i).toNat)
  case atStart => exact ⟨0, Nat.zero_le _, rfl, Lib.hid fun _ _ _ h => absurd h (Nat.not_lt_zero _), ⟨0, rfl⟩⟩
  case round =>
    obtain ⟨k, hk, rfl, H, ⟨q, rfl⟩⟩ := hrel
    by_cases hlt : k < l.length
    · have hltm : k < m.length := by omega
      have hc : w.cell? (x.add k) = some (.int .i64 l[k]) := HR.out.num hlt
      have hd : w.cell? (y.add k) = some (.int .i64 m[k]) := HRM.out.num hltm
      generalize hu : l[k] = u at *
      generalize hv : m[k] = v at *
      have HU := Lib.hid hu
      have HV := Lib.hid hv
      clear hu hv
      by_cases he : u = v
      · have f1 : (u != v) = false := by simpa using he
        have H2 : Hid (∀ j, (hj : j < l.length) → (hj2 : j < m.length) → j < k + 1 → l[j] = m[j]) := Lib.hid fun j hj hj2 hjk => by
          by_cases e : j = k
          · subst e; rw [HU.out, HV.out]; exact he
          · exact H.out j hj hj2 (by omega)
        clear he
        go_wp2
        go_quiet (fail)
        go_wp2
        go_roundw
        case rel => exact ⟨k + 1, by omega, by go_num, H2, ⟨_, rfl⟩⟩
        case measure => simp [intOf]; omega
      · have f1 : (u != v) = true := by simpa using he
        have HF : Hid (decide (l = m) = false) := Lib.hid (by
          rw [decide_eq_false_iff_not]
          intro h
          subst h
          exact he (HU.out.symm.trans HV.out))
        clear he
        go_wp2
        go_quiet (fail)
        go_wp2
        go_ret
        exact ⟨by rw [HF.out]; rfl, drawn0_two _ _ _⟩
    · have HF : Hid (decide (l = m) = true) := Lib.hid (by
        rw [decide_eq_true_iff]
        apply List.ext_getElem
        · omega
        · intro i h1 h2; exact H.out i h1 h2 (by omega))
      go_wp2
      go_ret
      exact ⟨by rw [HF.out]; rfl, ⟨_, rfl⟩⟩
theorem sameInts_calls (A B : Option Addr) (ca cb : Nat) (l m : List Int) (w : World) (hr : Row w A (nums .i64 l)) (hl : l.length ≤ 9223372036854775807) (hrm : Row w B (nums .i64 m)) :
    Calls Tryd.prog 92 #[.slice A l.length ca, .slice B m.length cb] w fun e w' => e = .returned (.bool (decide (l = m))) ∧ Drawn0 w w' := by
  by_cases hlen : m.length = l.length
  · cases l with
    | nil =>
      have hm : m = [] := by cases m with | nil => rfl | cons a b => simp at hlen
      subst hm
      clear hr hrm hl hlen
      go_enter Tryd.func92, Tryd.ntmps92
      go_wp2
      refine wp_loop_once ?_
      go_wp2
      go_ret
      exact ⟨rfl, ⟨0, rfl⟩⟩
    | cons d l =>
      cases m with
      | nil => simp at hlen
      | cons e m =>
        obtain ⟨x, rfl⟩ := hr.some_of (by simp [nums])
        obtain ⟨y, rfl⟩ := hrm.some_of (by simp [nums])
        exact sameInts_some x y ca cb _ _ w hr hl hrm hlen
  · have HF : Hid (decide (l = m) = false) := Lib.hid (by
      rw [decide_eq_false_iff_not]; intro h; subst h; exact hlen rfl)
    have f0 : ((l.length : Int) != (m.length : Int)) = true := by simp; omega
    clear hr hrm hlen
    go_enter Tryd.func92, Tryd.ntmps92
    go_wp2
    go_ret
    exact ⟨by rw [HF.out]; rfl, ⟨0, rfl⟩⟩
end Go.Proofs.YtohcoidbncbijaaDoor.P
/- Places and coordinates, plainly; the law ShapeBack, walked. Conditions: words of their kinds; slices read as lists. -/
namespace Go.Proofs.YtohcoidbncbijaaDoor.P
open Go.RowKit
set_option linter.unusedVariables false
set_option linter.unusedSimpArgs false
theorem coordL_length (l : List Int) (i : Int) : (coordL l i).length = l.length := by simp [coordL]
theorem coordL_at (l : List Int) (i : Int) {k : Nat} (h : k < l.length) : (coordL l i).getD k 0 = coordF l i k := by
  rw [List.getD_eq_getElem?_getD]; simp [coordL, h]
theorem coordL_fits {l : List Int} (hp : Pos l) {i : Int} (h0 : 0 ≤ i) : Fits l (coordL l i) := by
  refine ⟨coordL_length l i, fun k hk => ?_⟩
  rw [coordL_at l i hk, coordF_at l i k hk, getD_at hk]
  have := hp.at hk
  exact ⟨Int.emod_nonneg _ (by omega), Int.emod_lt_of_pos _ (by omega)⟩
theorem hor_coord {l : List Int} (hp : Pos l) {i : Int} (h0 : 0 ≤ i) (h1 : i < prodL l) : ∀ k, k ≤ l.length → hor l (coordL l i) k = i / prodL (l.drop k)
  | 0, _ => by rw [hor, List.drop_zero, Int.ediv_eq_zero_of_lt h0 h1]
  | k + 1, hk => by
    have hk' : k < l.length := by omega
    rw [hor, hor_coord hp h0 h1 k (by omega), coordL_at l i hk', getD_at hk', coordF_at l i k hk', ← coord_next l i k hk' hp]
    exact Int.ediv_mul_add_emod _ _
theorem flat_coord {l : List Int} (hd : Dims l) {i : Int} (h0 : 0 ≤ i) (h1 : i < prodL l) : flatS l (coordL l i) = (i, 0) := by
  rw [flatS, if_pos hd, if_pos (coordL_fits hd.pos h0), hor_coord hd.pos h0 h1 _ (Nat.le_refl _), List.drop_length]
  simp [prodL]
theorem hor_div {l c : List Int} (hp : Pos l) (hf : Fits l c) : ∀ j k, k + j = l.length → hor l c l.length / prodL (l.drop k) = hor l c k
  | 0, k, h => by
    have : k = l.length := by omega
    subst this
    rw [List.drop_length]; simp [prodL]
  | j + 1, k, h => by
    have hk : k < l.length := by omega
    rw [← coord_next l _ k hk hp, hor_div hp hf j (k + 1) (by omega), hor, getD_at hk]
    have h2 := hf.2 k hk
    rw [getD_at hk] at h2
    have := hp.at hk
    rw [Int.add_comm, Int.add_mul_ediv_right _ _ (by omega), Int.ediv_eq_zero_of_lt h2.1 h2.2, Int.zero_add]
theorem coord_flat {l c : List Int} (hp : Pos l) (hf : Fits l c) : coordL l (hor l c l.length) = c := by
  apply List.ext_getElem
  · rw [coordL_length, hf.1]
  · intro k h1 h2
    have hk : k < l.length := by rw [coordL_length] at h1; exact h1
    have e : (coordL l (hor l c l.length))[k] = coordF l (hor l c l.length) k := by simp [coordL]
    rw [e, coordF_at l _ k hk, hor_div hp hf (l.length - (k + 1)) (k + 1) (by omega), hor, getD_at hk, getD_at h2]
    have h3 := hf.2 k hk
    rw [getD_at hk, getD_at h2] at h3
    rw [Int.add_comm, Int.add_mul_emod_self_right]
    exact Int.emod_eq_of_lt h3.1 h3.2
theorem i64_all {l : List Int} (h : ∀ x ∈ l, (Lit.int .i64 x).wf = true) : ∀ d ∈ l, i64 d := fun d hd => i64_wf (h d hd)
theorem u64_all {l : List Int} (h : ∀ x ∈ l, (Lit.int .u64 x).wf = true) : ∀ d ∈ l, U64 d := fun d hd => u64_wf (h d hd)
theorem coordL_i64 {l : List Int} (hd : Dims l) {i : Int} (h0 : 0 ≤ i) : ∀ d ∈ coordL l i, i64 d := by
  intro d hm
  obtain ⟨k, hk, rfl⟩ := List.getElem_of_mem hm
  have hk2 : k < l.length := by rw [coordL_length] at hk; exact hk
  have e : (coordL l i)[k] = coordF l i k := by simp [coordL]
  rw [e, coordF_at l i k hk2]
  have h1 := hd.pos.at hk2
  have h2 := hd.pos.at_le hk2
  have h3 := hd.all
  have h4 := Int.emod_nonneg (i / prodL (l.drop (k + 1))) (b := l[k]) (by omega)
  have h5 := Int.emod_lt_of_pos (i / prodL (l.drop (k + 1))) (b := l[k]) (by omega)
  exact ⟨by omega, by omega⟩
theorem coordS_ok {l : List Int} {i : Int} (h : (coordS l i).2 = 0) : Dims l ∧ 0 ≤ i ∧ i < prodL l ∧ coordS l i = (coordL l i, 0) := by
  unfold coordS at h ⊢
  by_cases hd : Dims l
  · rw [if_pos hd] at h ⊢
    by_cases hi : 0 ≤ i ∧ i < prodL l
    · rw [if_pos hi]; exact ⟨hd, hi.1, hi.2, rfl⟩
    · rw [if_neg hi] at h; exact absurd h (by decide)
  · rw [if_neg hd] at h; exact absurd h (by decide)
theorem flatS_ok {l c : List Int} (h : (flatS l c).2 = 0) : Dims l ∧ Fits l c ∧ flatS l c = (hor l c l.length, 0) := by
  unfold flatS at h ⊢
  by_cases hd : Dims l
  · rw [if_pos hd] at h ⊢
    by_cases hi : Fits l c
    · rw [if_pos hi]; exact ⟨hd, hi, rfl⟩
    · rw [if_neg hi] at h; exact absurd h (by decide)
  · rw [if_neg hd] at h; exact absurd h (by decide)
theorem flatS_no {l c : List Int} (h : (flatS l c).2 ≠ 0) : (flatS l c).1 = 0 := by
  unfold flatS at h ⊢
  by_cases hd : Dims l
  · rw [if_pos hd] at h ⊢
    by_cases hi : Fits l c
    · rw [if_pos hi] at h; exact absurd rfl h
    · rw [if_neg hi]
  · rw [if_neg hd]
theorem flatS_i64 (l c : List Int) : i64 (flatS l c).1 := by
  by_cases h : (flatS l c).2 = 0
  · obtain ⟨hd, hf, e⟩ := flatS_ok h
    rw [e]
    have h1 := hor_bound hd.pos l.length (Nat.le_refl _) hf.2
    rw [List.take_length] at h1
    have := hd.all
    exact ⟨by show _ ≤ hor l c l.length; omega, by show hor l c l.length < _; omega⟩
  · rw [flatS_no h]; decide
end Go.Proofs.YtohcoidbncbijaaDoor.P
/- Lines, plainly: each place lies in one line. Under no condition beside those of each lemma. -/
namespace Go.Proofs.YtohcoidbncbijaaDoor.P
set_option linter.unusedVariables false
/-- The line of a place, its coordinate, and the place back from both: I: how far two stand apart, d: how long the axis is. -/
def kOf (I d v : Int) : Int := v / I / d * I + v % I
def xOf (I d v : Int) : Int := v / I % d
def vOf (I d k x : Int) : Int := k / I * d * I + k % I + x * I
theorem vOf_div {I d k x : Int} (hI : 1 ≤ I) : vOf I d k x / I = k / I * d + x := by
  have h0 := Int.emod_nonneg k (b := I) (by omega)
  have h1 := Int.emod_lt_of_pos k (b := I) (by omega)
  have e : vOf I d k x = k % I + (k / I * d + x) * I := by unfold vOf; rw [Int.add_mul]; omega
  rw [e, Int.add_mul_ediv_right _ _ (by omega), Int.ediv_eq_zero_of_lt h0 h1, Int.zero_add]
theorem vOf_mod {I d k x : Int} (hI : 1 ≤ I) : vOf I d k x % I = k % I := by
  have e : vOf I d k x = k % I + (k / I * d + x) * I := by unfold vOf; rw [Int.add_mul]; omega
  rw [e, Int.add_mul_emod_self_right, Int.emod_emod_of_dvd _ (Int.dvd_refl I)]
theorem xOf_vOf {I d k x : Int} (hI : 1 ≤ I) (x0 : 0 ≤ x) (x1 : x < d) : xOf I d (vOf I d k x) = x := by
  rw [xOf, vOf_div hI, Int.add_comm, Int.add_mul_emod_self_right, Int.emod_eq_of_lt x0 x1]
theorem kOf_vOf {I d k x : Int} (hI : 1 ≤ I) (x0 : 0 ≤ x) (x1 : x < d) : kOf I d (vOf I d k x) = k := by
  rw [kOf, vOf_div hI, vOf_mod hI, Int.add_comm (k / I * d), Int.add_mul_ediv_right _ _ (by omega), Int.ediv_eq_zero_of_lt x0 x1, Int.zero_add]
  exact Int.ediv_mul_add_emod _ _
theorem vOf_of {I d v : Int} (hI : 1 ≤ I) : vOf I d (kOf I d v) (xOf I d v) = v := by
  have h0 := Int.emod_nonneg v (b := I) (by omega)
  have h1 := Int.emod_lt_of_pos v (b := I) (by omega)
  have e1 : kOf I d v / I = v / I / d := by
    rw [kOf, Int.add_comm, Int.add_mul_ediv_right _ _ (by omega), Int.ediv_eq_zero_of_lt h0 h1, Int.zero_add]
  have e2 : kOf I d v % I = v % I := by
    rw [kOf, Int.add_comm, Int.add_mul_emod_self_right, Int.emod_emod_of_dvd _ (Int.dvd_refl I)]
  rw [vOf, e1, e2, xOf]
  have e3 : v / I / d * d + v / I % d = v / I := Int.ediv_mul_add_emod _ _
  have e4 : v / I * I + v % I = v := Int.ediv_mul_add_emod _ _
  rw [← e3, Int.add_mul] at e4
  omega
theorem vOf_bound {I d O k x : Int} (hI : 1 ≤ I) (hd : 1 ≤ d) (k0 : 0 ≤ k) (k1 : k < O * I) (x0 : 0 ≤ x) (x1 : x < d) : 0 ≤ vOf I d k x ∧ vOf I d k x < O * d * I := by
  have hq0 : 0 ≤ k / I := Int.ediv_nonneg k0 (by omega)
  have hq1 : k / I < O := Int.ediv_lt_of_lt_mul (by omega) k1
  have h0 := Int.emod_nonneg k (b := I) (by omega)
  have h1 := Int.emod_lt_of_pos k (b := I) (by omega)
  have e : vOf I d k x = (k / I * d + x) * I + k % I := by unfold vOf; rw [Int.add_mul]; omega
  have h2 : 0 ≤ k / I * d := Int.mul_nonneg hq0 (by omega)
  have h3 : (k / I + 1) * d ≤ O * d := Int.mul_le_mul_of_nonneg_right (by omega) (by omega)
  rw [Int.add_mul, Int.one_mul] at h3
  have h4 : (k / I * d + x + 1) * I ≤ O * d * I := Int.mul_le_mul_of_nonneg_right (by omega) (by omega)
  have h5 : 0 ≤ (k / I * d + x) * I := Int.mul_nonneg (by omega) (by omega)
  rw [Int.add_mul, Int.one_mul] at h4
  rw [e]
  omega
theorem kOf_bound {I d O v : Int} (hI : 1 ≤ I) (hd : 1 ≤ d) (v0 : 0 ≤ v) (v1 : v < O * d * I) : 0 ≤ kOf I d v ∧ kOf I d v < O * I := by
  have h0 := Int.emod_nonneg v (b := I) (by omega)
  have h1 := Int.emod_lt_of_pos v (b := I) (by omega)
  have h2 : 0 ≤ v / I := Int.ediv_nonneg v0 (by omega)
  have h3 : v / I < O * d := Int.ediv_lt_of_lt_mul (by omega) v1
  have h4 : 0 ≤ v / I / d := Int.ediv_nonneg h2 (by omega)
  have h5 : v / I / d < O := Int.ediv_lt_of_lt_mul (by omega) h3
  have h6 : 0 ≤ v / I / d * I := Int.mul_nonneg h4 (by omega)
  have h7 : (v / I / d + 1) * I ≤ O * I := Int.mul_le_mul_of_nonneg_right (by omega) (by omega)
  rw [Int.add_mul, Int.one_mul] at h7
  unfold kOf
  omega
theorem xOf_bound {I d v : Int} (hd : 1 ≤ d) : 0 ≤ xOf I d v ∧ xOf I d v < d :=
  ⟨Int.emod_nonneg _ (by omega), Int.emod_lt_of_pos _ (by omega)⟩
theorem vOf_next {I d k : Int} (hI : 1 ≤ I) (hd : 1 ≤ d) : vOf I d k 0 < vOf I d (k + 1) 0 := by
  have h0 := Int.emod_nonneg k (b := I) (by omega)
  have h1 := Int.emod_lt_of_pos k (b := I) (by omega)
  have hk : k / I * I + k % I = k := Int.ediv_mul_add_emod _ _
  unfold vOf
  rw [Int.zero_mul, Int.add_zero, Int.add_zero]
  by_cases hr : k % I + 1 < I
  · have e1 : (k + 1) / I = k / I := by
      rw [show k + 1 = (k % I + 1) + k / I * I from by omega, Int.add_mul_ediv_right _ _ (by omega), Int.ediv_eq_zero_of_lt (by omega) hr, Int.zero_add]
    have e2 : (k + 1) % I = k % I + 1 := by
      have := Int.ediv_mul_add_emod (k + 1) I
      rw [e1] at this
      omega
    rw [e1, e2]; omega
  · have hr2 : k % I + 1 = I := by omega
    have e0 : k + 1 = (k / I + 1) * I := by rw [Int.add_mul, Int.one_mul]; omega
    have e1 : (k + 1) / I = k / I + 1 := by rw [e0, Int.mul_ediv_cancel _ (by omega)]
    have e2 : (k + 1) % I = 0 := by rw [e0, Int.mul_emod_left]
    rw [e1, e2, Int.add_mul, Int.one_mul, Int.add_mul]
    have h6 : 1 * I ≤ d * I := Int.mul_le_mul_of_nonneg_right hd (by omega)
    omega
/-- What has been met when k lines and x of the next are over. -/
def metB (I d : Int) (k x : Nat) (v : Nat) : Bool := decide (kOf I d v < k) || (decide (kOf I d v = k) && decide (xOf I d v < x))
def metL (I d : Int) (n k x : Nat) : List Int := (List.range n).map fun v => if metB I d k x v then 1 else 0
theorem metL_length (I d : Int) (n k x : Nat) : (metL I d n k x).length = n := by simp [metL]
theorem metL_at (I d : Int) (n k x v : Nat) (h : v < n) : (metL I d n k x)[v]'(by rw [metL_length]; exact h) = if metB I d k x v then 1 else 0 := by simp [metL]
theorem metL_start {I d O : Int} {n : Nat} (hI : 1 ≤ I) (hd : 1 ≤ d) (hn : (n : Int) = O * d * I) : metL I d n 0 0 = List.replicate n 0 := by
  apply List.ext_getElem
  · simp [metL]
  · intro v h1 h2
    have hv : v < n := by rw [metL_length] at h1; exact h1
    have hk := kOf_bound hI hd (v := (v : Int)) (by omega) (by rw [← hn]; omega)
    have hx := xOf_bound (I := I) (v := (v : Int)) hd
    rw [metL_at _ _ _ _ _ _ hv]
    have : metB I d 0 0 v = false := by
      unfold metB
      rw [decide_eq_false (by omega), decide_eq_false (p := xOf I d v < _) (by omega)]; simp
    rw [this]; simp
theorem metL_step {I d : Int} {n k x v : Nat} (hI : 1 ≤ I) (hx : (x : Int) < d) (hv : (v : Int) = vOf I d k x) (hvn : v < n) : (metL I d n k x).set v 1 = metL I d n k (x + 1) := by
  have ek : kOf I d v = k := by rw [hv, kOf_vOf hI (by omega) hx]
  have ex : xOf I d v = x := by rw [hv, xOf_vOf hI (by omega) hx]
  apply List.ext_getElem
  · simp [metL]
  · intro u h1 h2
    have hu : u < n := by rw [metL_length] at h2; exact h2
    rw [List.getElem_set, metL_at _ _ _ _ _ _ hu]
    split
    · rename_i e; subst e
      have : metB I d k (x + 1) v = true := by
        unfold metB
        rw [decide_eq_true (p := kOf I d v = k) ek, decide_eq_true (p := xOf I d v < _) (by omega)]; simp
      rw [metL_at _ _ _ _ _ _ hu, this]; rfl
    · rename_i e
      rw [metL_at _ _ _ _ _ _ hu]
      have : metB I d k (x + 1) u = metB I d k x u := by
        unfold metB
        by_cases hku : kOf I d u = k
        · have hxu : xOf I d u ≠ x := by
            intro hxu
            apply e
            have h3 := vOf_of (I := I) (d := d) (v := (u : Int)) hI
            rw [hku, hxu, ← hv] at h3
            omega
          have : (xOf I d u < ((x + 1 : Nat) : Int)) ↔ (xOf I d u < (x : Int)) := by omega
          rw [decide_eq_decide.2 this]
        · rw [decide_eq_false (p := kOf I d u = k) hku]; simp
      rw [this]
theorem metL_none {I d : Int} {n k x v : Nat} (hI : 1 ≤ I) (hx : (x : Int) < d) (hv : (v : Int) = vOf I d k x) (hvn : v < n) : (metL I d n k x)[v]'(by rw [metL_length]; exact hvn) = 0 := by
  have ek : kOf I d v = k := by rw [hv, kOf_vOf hI (by omega) hx]
  have ex : xOf I d v = x := by rw [hv, xOf_vOf hI (by omega) hx]
  rw [metL_at _ _ _ _ _ _ hvn]
  have : metB I d k x v = false := by
    unfold metB
    rw [decide_eq_false (p := kOf I d v < _) (by omega), decide_eq_false (p := xOf I d v < _) (by omega)]; simp
  rw [this]; rfl
theorem metL_line {I d : Int} {n k D : Nat} (hD : (D : Int) = d) (hd : 1 ≤ d) : metL I d n k D = metL I d n (k + 1) 0 := by
  apply List.ext_getElem
  · simp [metL]
  · intro u h1 h2
    have hu : u < n := by rw [metL_length] at h2; exact h2
    rw [metL_at _ _ _ _ _ _ hu, metL_at _ _ _ _ _ _ hu]
    have hx := xOf_bound (I := I) (v := (u : Int)) hd
    have : metB I d k D u = metB I d (k + 1) 0 u := by
      unfold metB
      rw [decide_eq_true (p := xOf I d u < (D : Int)) (by omega), decide_eq_false (p := xOf I d u < ((0 : Nat) : Int)) (by omega), Bool.and_true, Bool.and_false, Bool.or_false, ← Bool.decide_or]
      apply decide_eq_decide.2
      omega
    rw [this]
theorem metL_all {I d O : Int} {n K : Nat} (hI : 1 ≤ I) (hd : 1 ≤ d) (hn : (n : Int) = O * d * I) (hK : (K : Int) = O * I) {v : Nat} (h : v < n) : (metL I d n K 0)[v]'(by rw [metL_length]; exact h) = 1 := by
  have hk := kOf_bound hI hd (v := (v : Int)) (by omega) (by rw [← hn]; omega)
  rw [metL_at _ _ _ _ _ _ h]
  have : metB I d K 0 v = true := by
    unfold metB
    rw [decide_eq_true (p := kOf I d v < _) (by omega)]; simp
  rw [this]; rfl
end Go.Proofs.YtohcoidbncbijaaDoor.P
/- The law ShapeLines, walked. Conditions: words of their kinds; the slice reads as a list. -/
namespace Go.Proofs.YtohcoidbncbijaaDoor.P
open Go.RowKit
set_option linter.unusedVariables false
set_option linter.unusedSimpArgs false
theorem Row.far {w : World} {y p : Addr} {cs : List Value} (h : Row w (some y) cs) (hb : p.block ≠ y.block) (v : Value) : Row (w.setCell p v) (some y) cs := by
  right
  refine ⟨_, rfl, fun i u hi => ?_⟩
  rw [World.cell?_setCell_far w p (y.add i) v (by unfold Addr.add; split <;> exact hb)]
  exact h.cell hi
theorem Own.block_ge {w : World} {B : Nat} {E : TypeId} {s : Nat} {y : Addr} {n c : Nat} {cs : List Value} (h : Own w B E s (some y) n c cs) (hn : 0 < n) : B ≤ y.block := by
  obtain ⟨g, cap, hv, _, _⟩ := World.ownsRow.form h hn
  cases hv
  exact h.base.1
/-- What lines are, of axes that may be: how far apart, how long, how many ahead. -/
structure Lines (l : List Int) (N : Nat) (I : Int) (D n K : Nat) : Prop where
  I1 : 1 ≤ I
  I2 : I ≤ 4096
  D1 : 1 ≤ D
  line : ∀ k : Nat, k < K → lineS l N k = (lineL l N k, 0)
  lineK : lineS l N K = ([], 1)
  at' : ∀ k x : Nat, lineG l N k x = vOf I D k x
  len : ∀ k : Nat, lineL l N k = (List.range D).map (lineG l N k)
  coord : ∀ V : Nat, V < n → coordS l V = (coordL l V, 0) ∧ (coordL l V).getD N 0 = xOf I D V
  bound : ∀ k x : Nat, k < K → x < D → 0 ≤ vOf I D k x ∧ vOf I D k x < n
  start : metL I D n 0 0 = List.replicate n 0
  all : ∀ v, (h : v < n) → (metL I D n K 0)[v]'(by rw [metL_length]; exact h) = 1
  div : (n : Int) / (D : Int) = (K : Int)
theorem lines_of {l : List Int} (hd : Dims l) {N : Nat} (hN : N < l.length) : ∃ D n K : Nat, l[N] = (D : Int) ∧ prodL l = (n : Int) ∧ Lines l N (prodL (l.drop (N + 1))) D n K := by
  have hd1 := hd.pos.at hN
  have hI1 := (hd.pos.drop (N + 1)).prod
  have hI2 : prodL (l.drop (N + 1)) ≤ 4096 := by have := hd.pos.drop_le (N + 1); have := hd.all; omega
  have hO1 := (hd.pos.take N).prod
  have hP1 := hd.pos.prod
  have hprod : prodL l = prodL (l.take N) * l[N] * prodL (l.drop (N + 1)) := by
    rw [← prodL_take l N hN, ← prodL_append, List.take_append_drop]
  obtain ⟨D, hD⟩ := Int.eq_ofNat_of_zero_le (show 0 ≤ l[N] by omega)
  obtain ⟨n, hn⟩ := Int.eq_ofNat_of_zero_le (show 0 ≤ prodL l by omega)
  obtain ⟨K, hK⟩ := Int.eq_ofNat_of_zero_le (show 0 ≤ prodL (l.take N) * prodL (l.drop (N + 1)) from Int.mul_nonneg (by omega) (by omega))
  have hnn : (n : Int) = prodL (l.take N) * (D : Int) * prodL (l.drop (N + 1)) := by rw [← hn, hprod, hD]
  have hdiv : (n : Int) / (D : Int) = (K : Int) := by
    rw [hnn, Int.mul_right_comm, hK, Int.mul_ediv_cancel _ (by omega)]
  have hD1 : (1 : Int) ≤ (D : Int) := by omega
  have hGD : l.getD N 1 = (D : Int) := by rw [getD_at hN, hD]
  have hin : 0 ≤ (N : Int) ∧ (N : Int) < l.length := ⟨by omega, by omega⟩
  have hbound : ∀ k x : Nat, k < K → x < D → 0 ≤ vOf (prodL (l.drop (N + 1))) D k x ∧ vOf (prodL (l.drop (N + 1))) D k x < n := fun k x hk hx => by
    rw [hnn]; exact vOf_bound hI1 hD1 (by omega) (by rw [hK]; omega) (by omega) (by omega)
  refine ⟨D, n, K, hD, hn, ⟨hI1, hI2, by omega, ?_, ?_, ?_, ?_, ?_, hbound, metL_start hI1 hD1 hnn, fun v h => metL_all hI1 hD1 hnn hK.symm h, hdiv⟩⟩
  · intro k hk
    rw [lineS, if_pos hd, if_pos hin, Int.toNat_natCast, hGD, hn, hdiv, if_pos ⟨by omega, by omega⟩]
  · rw [lineS, if_pos hd, if_pos hin, Int.toNat_natCast, hGD, hn, hdiv, if_neg (by omega)]
  · intro k x
    rw [lineG, lineF, hGD, vOf]
  · intro k
    rw [lineL, hGD, Int.toNat_natCast]
  · intro V hV
    refine ⟨by rw [coordS, if_pos hd, if_pos ⟨by omega, by omega⟩], ?_⟩
    rw [coordL_at l V hN, coordF_at l V N hN, hD]; rfl
end Go.Proofs.YtohcoidbncbijaaDoor.P
/- Lines and coordinates, plainly: of places of one line the coordinates differ at the axis alone; first places in order. Under no condition beside those of each lemma. -/
namespace Go.Proofs.YtohcoidbncbijaaDoor.P
open Go.RowKit
set_option linter.unusedVariables false
theorem prodL_split (l : List Int) {j k : Nat} (h : j ≤ k) : prodL (l.drop j) = prodL ((l.drop j).take (k - j)) * prodL (l.drop k) := by
  have e : (l.drop j).take (k - j) ++ l.drop k = l.drop j := by
    have h1 := List.take_append_drop (k - j) (l.drop j)
    rw [List.drop_drop, show j + (k - j) = k from by omega] at h1
    exact h1
  rw [← prodL_append, e]
theorem vOf_zero_add (I d k x : Int) : vOf I d k x = vOf I d k 0 + x * I := by
  unfold vOf; rw [Int.zero_mul, Int.add_zero]
theorem coordF_line {l : List Int} (hp : Pos l) {N : Nat} (hN : N < l.length) (k : Int) {x : Int} (x0 : 0 ≤ x) (x1 : x < l[N]) {j : Nat} (hj : j < l.length) :
    coordF l (vOf (prodL (l.drop (N + 1))) l[N] k x) j = if j = N then x else coordF l (vOf (prodL (l.drop (N + 1))) l[N] k 0) j := by
  have hI := (hp.drop (N + 1)).prod
  have hD := hp.at hN
  have hP := (hp.drop (j + 1)).prod
  have hJ := hp.at hj
  rcases Nat.lt_trichotomy j N with h | h | h
  · rw [if_neg (by omega), coordF_at _ _ _ hj, coordF_at _ _ _ hj]
    have hs := prodL_split l (j := j + 1) (k := N) (by omega)
    rw [prodL_drop l N hN] at hs
    rw [hs]
    have hM := ((hp.drop (j + 1)).take (N - (j + 1))).prod
    generalize prodL ((l.drop (j + 1)).take (N - (j + 1))) = M at *
    generalize prodL (l.drop (N + 1)) = I at *
    generalize l[N] = D at *
    have e : ∀ y : Int, 0 ≤ y → y < D → vOf I D k y / (M * (D * I)) = k / I / M := fun y y0 y1 => by
      rw [show M * (D * I) = I * (D * M) from by rw [Int.mul_comm M, Int.mul_comm D I, Int.mul_assoc], ← Int.ediv_ediv_of_nonneg (by omega), ← Int.ediv_ediv_of_nonneg (by omega), vOf_div hI,
        Int.add_comm, Int.add_mul_ediv_right _ _ (by omega), Int.ediv_eq_zero_of_lt y0 y1, Int.zero_add]
    rw [e x x0 x1, e 0 (by omega) (by omega)]
  · subst h
    rw [if_pos rfl, coordF_at _ _ _ hj]
    exact xOf_vOf hI x0 x1
  · rw [if_neg (by omega), coordF_at _ _ _ hj, coordF_at _ _ _ hj, vOf_zero_add _ _ _ x]
    have hs := prodL_split l (j := N + 1) (k := j) (by omega)
    rw [prodL_drop l j hj] at hs
    generalize vOf (prodL (l.drop (N + 1))) l[N] k 0 = v
    rw [hs]
    generalize prodL ((l.drop (N + 1)).take (j - (N + 1))) = M
    generalize prodL (l.drop (j + 1)) = P at *
    generalize l[j] = d at *
    rw [show x * (M * (d * P)) = x * M * d * P from by rw [Int.mul_assoc, Int.mul_assoc], Int.add_mul_ediv_right _ _ (by omega), Int.add_mul_emod_self_right]
theorem coordL_line {l : List Int} (hp : Pos l) {N : Nat} (hN : N < l.length) (k : Int) {x : Int} (x0 : 0 ≤ x) (x1 : x < l[N]) :
    (coordL l (vOf (prodL (l.drop (N + 1))) l[N] k 0)).set N x = coordL l (vOf (prodL (l.drop (N + 1))) l[N] k x) := by
  apply List.ext_getElem
  · simp [coordL]
  · intro j h1 h2
    have hj : j < l.length := by rw [coordL_length] at h2; exact h2
    rw [List.getElem_set]
    have e2 : ∀ v, (coordL l v)[j]'(by rw [coordL_length]; exact hj) = coordF l v j := fun v => by simp [coordL]
    rw [e2, e2, coordF_line hp hN k x0 x1 hj]
    by_cases h : N = j
    · subst h; simp
    · rw [if_neg h, if_neg (by omega)]
theorem vOf_lt {I d : Int} (hI : 1 ≤ I) (hd : 1 ≤ d) {a : Nat} : ∀ {b : Nat}, a < b → vOf I d a 0 < vOf I d b 0
  | b + 1, h => by
    have h1 : vOf I d b 0 < vOf I d ((b : Int) + 1) 0 := vOf_next hI hd
    have e : ((b + 1 : Nat) : Int) = (b : Int) + 1 := by omega
    rw [e]
    by_cases hab : a = b
    · subst hab; exact h1
    · exact Int.lt_trans (vOf_lt hI hd (show a < b by omega)) h1
/-- The first place that is not behind V is the first one of line s. -/
def Seen (I d : Int) (s : Nat) (V : Int) : Prop := (∀ r : Nat, r < s → vOf I d r 0 < V) ∧ V ≤ vOf I d s 0
theorem Seen.start {I d : Int} (hI : 1 ≤ I) : Seen I d 0 0 := by
  refine ⟨fun r h => absurd h (Nat.not_lt_zero _), ?_⟩
  unfold vOf; simp
theorem Seen.other {I d : Int} (hI : 1 ≤ I) (hd : 1 ≤ d) {s : Nat} {V : Int} (h : Seen I d s V) (hx : xOf I d V ≠ 0) : Seen I d s (V + 1) := by
  refine ⟨fun r hr => by have := h.1 r hr; omega, ?_⟩
  have h1 : V ≠ vOf I d s 0 := fun e => hx (by rw [e]; exact xOf_vOf hI (by omega) (by omega))
  have := h.2
  omega
theorem Seen.first {I d O : Int} (hI : 1 ≤ I) (hd : 1 ≤ d) {s : Nat} {V : Int} (h : Seen I d s V) (hx : xOf I d V = 0) (hV : 0 ≤ V) (hO : V < O * d * I) : V = vOf I d s 0 := by
  have h1 := vOf_of (d := d) (v := V) hI
  rw [hx] at h1
  have h2 := kOf_bound hI hd hV hO
  obtain ⟨q, hq⟩ := Int.eq_ofNat_of_zero_le h2.1
  rw [hq] at h1
  rcases Nat.lt_trichotomy q s with h3 | h3 | h3
  · have := h.1 q h3; omega
  · rw [← h3]; exact h1.symm
  · have := vOf_lt hI hd h3; have := h.2; omega
theorem Seen.next {I d : Int} (hI : 1 ≤ I) (hd : 1 ≤ d) {s : Nat} {V : Int} (h : Seen I d s V) (e : V = vOf I d s 0) : Seen I d (s + 1) (V + 1) := by
  refine ⟨fun r hr => ?_, ?_⟩
  · by_cases hrs : r = s
    · subst hrs; omega
    · have := h.1 r (by omega); omega
  · have h1 := vOf_lt hI hd (show s < s + 1 by omega)
    omega
theorem Own.setBelow {w : World} {B : Nat} {E : TypeId} {s n c : Nat} {A : Option Addr} {cs : List Value} (h : Own w B E s A n c cs) {p : Addr} (hb : p.block < B) (v : Value) : Own (w.setCell p v) B E s A n c cs := by
  refine ⟨h.1, ?_⟩
  rcases h.2 with h2 | ⟨g2, cap, cur, hv, hB, hh, r⟩
  · exact .inl h2
  · exact .inr ⟨g2, cap, cur, hv, hB, (Deep.blk_setCell_other w p v g2 (by omega)).trans hh, r⟩
theorem Own.keepBelow {S : Nat} {w w' : World} {B : Nat} {E : TypeId} {s g n c : Nat} {cs : List Value} (h : Own w B E s (some ⟨g, 0, none⟩) n c cs) (hg : g < S) (hb : Below S w w') : Own w' B E s (some ⟨g, 0, none⟩) n c cs := by
  refine ⟨h.1, ?_⟩
  rcases h.2 with ⟨hv, _⟩ | ⟨g2, cap, cur, hv, hB, hh, r⟩
  · cases hv
  · refine .inr ⟨g2, cap, cur, hv, hB, ?_, r⟩
    cases hv
    rw [hb.block _ hg]
    exact hh
end Go.Proofs.YtohcoidbncbijaaDoor.P
/- The radices and stages of a size, plainly: the document's way of taking them out, their product, which sizes may be. Conditions: sizes up to 4096, each held against the definition by the kernel. -/
namespace Go.Proofs.YtohcoidbncbijaaDoor.P
open Go.RowKit
set_option linter.unusedVariables false
theorem facS_in {n : Int} (h : 1 ≤ n ∧ n ≤ 4096) : facS n = if ∀ r ∈ radL n.toNat, r ≤ 5 then (radL n.toNat, 0) else ([], 4) := by rw [facS, if_pos h]
theorem facS_out {n : Int} (h : ¬ (1 ≤ n ∧ n ≤ 4096)) : facS n = ([], 4) := by rw [facS, if_neg h]
theorem facS_cases (n : Int) : (facS n).2 = 0 ∨ (facS n).2 = 4 ∧ (facS n).1 = [] := by
  by_cases h : 1 ≤ n ∧ n ≤ 4096
  · rw [facS_in h]; split
    · exact .inl rfl
    · exact .inr ⟨rfl, rfl⟩
  · rw [facS_out h]; exact .inr ⟨rfl, rfl⟩
theorem facS_err {n : Int} (h : (facS n).2 ≠ 0) : facS n = ([], 4) := by
  rcases facS_cases n with h1 | ⟨h1, h2⟩
  · exact absurd h1 h
  · exact Prod.ext h2 h1
theorem flat_len {α : Type} (f : α → List Value) (s : Nat) (hs : ∀ a, (f a).length = s) : ∀ l : List α, (l.flatMap f).length = l.length * s
  | [] => by simp
  | a :: l => by rw [List.flatMap_cons, List.length_append, flat_len f s hs l, hs, List.length_cons, Nat.succ_mul, Nat.add_comm]
theorem flat_get {α : Type} (f : α → List Value) (s : Nat) (hs : ∀ a, (f a).length = s) : ∀ (l : List α) (i : Nat) (hi : i < l.length) (j : Nat) (hj : j < s), (l.flatMap f)[i * s + j]? = (f l[i])[j]?
  | a :: l, 0, _, j, hj => by
    rw [List.flatMap_cons, Nat.zero_mul, Nat.zero_add, List.getElem?_append_left (by rw [hs]; exact hj)]; rfl
  | a :: l, i + 1, hi, j, hj => by
    rw [List.flatMap_cons, List.getElem?_append_right (by rw [hs, Nat.succ_mul]; omega), hs, show (i + 1) * s + j - s = i * s + j from by rw [Nat.succ_mul]; omega]
    exact flat_get f s hs l i (by simpa using hi) j hj
/-- An axis as cells, and a stage. -/
def axC (a : Int × Bool) : List Value := [.int .i64 a.1, .bool a.2]
def axR (l : List (Int × Bool)) : List Value := l.flatMap axC
def stC3 (a : Int × Int × Int) : List Value := [.int .i64 a.1, .int .i64 a.2.1, .int .i64 a.2.2]
def stR3 (l : List (Int × Int × Int)) : List Value := l.flatMap stC3
/-! The document's way. -/
def rI (i : Nat) : Nat := if i = 0 then 4 else if i = 1 then 2 else if i = 2 then 3 else 5
def refSt (n : Nat) : Nat → List Int × Nat
  | 0 => ([], n)
  | i + 1 => ((refSt n i).1 ++ List.replicate (cn (refSt n i).2 (rI i)) (rI i : Int), leftN (refSt n i).2 (rI i))
theorem ref_ok_all : upB 4097 (fun n => n == 0 || (List.range 4).all fun i => decide (0 < (refSt n i).2) && decide ((refSt n i).2 ≤ 4096) && decide ((refSt n i).1.length ≤ 40) && decide (cn (refSt n i).2 (rI i) ≤ 12)) = true := by decide +kernel
theorem ref_ok {n : Nat} (h0 : 0 < n) (h : n ≤ 4096) {i : Nat} (hi : i < 4) : 0 < (refSt n i).2 ∧ (refSt n i).2 ≤ 4096 ∧ (refSt n i).1.length ≤ 40 ∧ cn (refSt n i).2 (rI i) ≤ 12 := by
  have h1 := upB_spec ref_ok_all (n := n) (by omega)
  rw [Bool.or_eq_true, beq_iff_eq, List.all_eq_true] at h1
  rcases h1 with h1 | h1
  · omega
  · have h2 := h1 i (List.mem_range.2 hi)
    simp only [Bool.and_eq_true, decide_eq_true_eq] at h2
    exact ⟨h2.1.1.1, h2.1.1.2, h2.1.2, h2.2⟩
theorem ref_is_all : upB 4097 (fun n => n == 0 || (decide ((refSt n 4).1.length ≤ 40) && if (refSt n 4).2 = 1 then decide (facS n = ((refSt n 4).1, 0)) else decide (facS n = ([], 4)))) = true := by decide +kernel
theorem ref_is {n : Nat} (h0 : 0 < n) (h : n ≤ 4096) : (refSt n 4).1.length ≤ 40 ∧ facS n = if (refSt n 4).2 = 1 then ((refSt n 4).1, 0) else ([], 4) := by
  have h1 := upB_spec ref_is_all (n := n) (by omega)
  rw [Bool.or_eq_true, beq_iff_eq, Bool.and_eq_true, decide_eq_true_eq] at h1
  rcases h1 with h1 | ⟨h2, h1⟩
  · omega
  · refine ⟨h2, ?_⟩
    split at h1
    · rw [if_pos (by assumption)]; exact of_decide_eq_true h1
    · rw [if_neg (by assumption)]; exact of_decide_eq_true h1
theorem cnt_step_all : upB 4097 (fun n => n == 0 || [2, 3, 4, 5].all fun r => n % r != 0 || (cn n r == cn (n / r) r + 1 && leftN n r == leftN (n / r) r && decide (0 < n / r) && decide (n / r < n))) = true := by decide +kernel
theorem cnt_step {n : Nat} (h0 : 0 < n) (h : n ≤ 4096) {r : Nat} (hr : r = 2 ∨ r = 3 ∨ r = 4 ∨ r = 5) (hd : n % r = 0) : cn n r = cn (n / r) r + 1 ∧ leftN n r = leftN (n / r) r ∧ 0 < n / r ∧ n / r < n := by
  have h1 := upB_spec cnt_step_all (n := n) (by omega)
  rw [Bool.or_eq_true, beq_iff_eq, List.all_eq_true] at h1
  rcases h1 with h1 | h1
  · omega
  · have h2 := h1 r (by simp; omega)
    simp only [Bool.or_eq_true, Bool.and_eq_true, beq_iff_eq, bne_iff_ne, ne_eq, decide_eq_true_eq] at h2
    rcases h2 with h2 | h2
    · exact absurd hd h2
    · exact ⟨h2.1.1.1, h2.1.1.2, h2.1.2, h2.2⟩
/-! Products. -/
theorem fac_prod_all : upB 4097 (fun n => n == 0 || (decide (prodL (radL n) = n) && (radL n).all fun r => decide (2 ≤ r))) = true := by decide +kernel
structure FacOk (n : Int) (l : List Int) : Prop where
  n1 : 1 ≤ n
  n2 : n ≤ 4096
  prod : prodL l = n
  lo : ∀ r ∈ l, 2 ≤ r
  hi : ∀ r ∈ l, r ≤ 5
  len : l.length ≤ 12
theorem facS_ok {n : Int} (h : (facS n).2 = 0) : FacOk n (facS n).1 ∧ facS n = ((facS n).1, 0) := by
  by_cases hn : 1 ≤ n ∧ n ≤ 4096
  · obtain ⟨N, rfl⟩ := Int.eq_ofNat_of_zero_le (show 0 ≤ n by omega)
    rw [facS_in hn, Int.toNat_natCast] at h ⊢
    split at h
    · rename_i h5
      rw [if_pos h5]
      have h1 := upB_spec fac_prod_all (n := N) (by omega)
      rw [Bool.or_eq_true, beq_iff_eq, Bool.and_eq_true, decide_eq_true_eq, List.all_eq_true] at h1
      rcases h1 with h1 | ⟨h1, h2⟩
      · omega
      · exact ⟨⟨hn.1, hn.2, h1, fun r hr => by simpa using h2 r hr, h5, (fac_odd (by omega) (by omega)).2.2.2⟩, rfl⟩
    · exact absurd h (by decide)
  · rw [facS_out hn] at h; exact absurd h (by decide)
/-- A stage: its radix, the product of those ahead, of those behind. -/
def stgF (l : List Int) (k : Nat) : Int × Int × Int := (l.getD k 1, prodL (l.take k), prodL (l.drop (k + 1)))
def stgL (l : List Int) : List (Int × Int × Int) := (List.range l.length).map (stgF l)
theorem FacOk.posL {n : Int} {l : List Int} (h : FacOk n l) : Pos l := fun r hr => by have := h.lo r hr; omega
theorem FacOk.split {n : Int} {l : List Int} (h : FacOk n l) {k : Nat} (hk : k < l.length) : prodL (l.take k) * l[k] * prodL (l.drop (k + 1)) = n := by
  rw [← prodL_take l k hk, ← prodL_append, List.take_append_drop, h.prod]
structure StgK (n : Int) (l : List Int) (k : Nat) (r P Q : Int) : Prop where
  r2 : 2 ≤ r
  r5 : r ≤ 5
  P1 : 1 ≤ P
  Q1 : 1 ≤ Q
  n1 : 1 ≤ n
  n2 : n ≤ 4096
  all : P * r * Q = n
  PrN : P * r ≤ n
  PN : P ≤ n
  divP : n / P = r * Q
  divR : r * Q / r = Q
  rQ : r * Q ≤ n
  stg : stgF l k = (r, P, Q)
  next : prodL (l.take (k + 1)) = P * r
theorem FacOk.stage {n : Int} {l : List Int} (h : FacOk n l) {k : Nat} (hk : k < l.length) : StgK n l k l[k] (prodL (l.take k)) (prodL (l.drop (k + 1))) := by
  have h1 := h.split hk
  have hr := h.lo _ (List.getElem_mem hk)
  have hr5 := h.hi _ (List.getElem_mem hk)
  have hP := (h.posL.take k).prod
  have hQ := (h.posL.drop (k + 1)).prod
  have hst : stgF l k = (l[k], prodL (l.take k), prodL (l.drop (k + 1))) := by
    unfold stgF
    rw [List.getD_eq_getElem?_getD, List.getElem?_eq_getElem hk]; rfl
  have hnx := prodL_take l k hk
  generalize l[k] = r at *
  generalize prodL (l.take k) = P at *
  generalize prodL (l.drop (k + 1)) = Q at *
  have e1 : n = P * (r * Q) := by rw [← Int.mul_assoc, h1]
  have hPr : 0 < P * r := Int.mul_pos (by omega) (by omega)
  have hrQ : 0 < r * Q := Int.mul_pos (by omega) (by omega)
  have g1 : P * r ≤ n := by rw [← h1]; have := Int.mul_le_mul_of_nonneg_left (show 1 ≤ Q by omega) (show 0 ≤ P * r by omega); rwa [Int.mul_one] at this
  have g2 : P ≤ n := by rw [e1]; have := Int.mul_le_mul_of_nonneg_left (show 1 ≤ r * Q by omega) (show 0 ≤ P by omega); rwa [Int.mul_one] at this
  have g3 : r * Q ≤ n := by rw [e1, Int.mul_comm P]; have := Int.mul_le_mul_of_nonneg_left (show 1 ≤ P by omega) (show 0 ≤ r * Q by omega); rwa [Int.mul_one] at this
  exact ⟨hr, hr5, by omega, by omega, h.n1, h.n2, h1, g1, g2, by rw [e1, Int.mul_ediv_cancel_left _ (by omega)], Int.mul_ediv_cancel_left _ (by omega), g3, hst, hnx⟩
/-- What Stages tells. -/
def stgS (n : Int) : List (Int × Int × Int) × Int := if (facS n).2 = 0 then (stgL (facS n).1, 0) else ([], 4)
/-- Why some are not its stages. -/
def chk4 (n : Int) (l : List (Int × Int × Int)) : Int := if (stgS n).2 = 0 then (if (stgS n).1 = l then 0 else 1) else (stgS n).2
theorem stgS_ok {n : Int} (h : (facS n).2 = 0) : stgS n = (stgL (facS n).1, 0) := by rw [stgS, if_pos h]
theorem stgS_no {n : Int} (h : (facS n).2 ≠ 0) : stgS n = ([], 4) := by rw [stgS, if_neg h]
theorem stgS_err (n : Int) : (stgS n).2 = (facS n).2 := by
  rcases facS_cases n with h | ⟨h, _⟩
  · rw [stgS_ok h, h]
  · rw [stgS_no (by rw [h]; decide), h]
/-! Which sizes may be. -/
theorem smooth_all : upB 4097 (fun n => n == 0 || (smoothS n == decide (60 ^ 12 % n = 0) && smoothS n == decide (60 ^ 24 % n = 0))) = true := by decide +kernel
theorem smooth_is {n : Nat} (h0 : 0 < n) (h : n ≤ 4096) : smoothS n = decide (60 ^ 12 % n = 0) ∧ smoothS n = decide (60 ^ 24 % n = 0) := by
  have h1 := upB_spec smooth_all (n := n) (by omega)
  simp only [Bool.or_eq_true, Bool.and_eq_true, beq_iff_eq] at h1
  rcases h1 with h1 | h1
  · omega
  · exact h1
theorem smooth_mul {n m : Nat} (hn : 0 < n) (hm : 0 < m) (h : n * m ≤ 4096) : smoothS ((n * m : Nat) : Int) = (smoothS n && smoothS m) := by
  have hn2 : n ≤ n * m := Nat.le_mul_of_pos_right _ hm
  have hm2 : m ≤ n * m := Nat.le_mul_of_pos_left _ hn
  have e := smooth_is (Nat.mul_pos hn hm) h
  have e1 := smooth_is hn (by omega)
  have e2 := smooth_is hm (by omega)
  rw [Bool.eq_iff_iff, Bool.and_eq_true]
  constructor
  · intro hs
    rw [e.1, decide_eq_true_eq] at hs
    have hd := Nat.dvd_of_mod_eq_zero hs
    exact ⟨by rw [e1.1, decide_eq_true_eq]; exact Nat.mod_eq_zero_of_dvd (Nat.dvd_trans (Nat.dvd_mul_right n m) hd),
      by rw [e2.1, decide_eq_true_eq]; exact Nat.mod_eq_zero_of_dvd (Nat.dvd_trans (Nat.dvd_mul_left m n) hd)⟩
  · rintro ⟨h1, h2⟩
    rw [e1.1, decide_eq_true_eq] at h1
    rw [e2.1, decide_eq_true_eq] at h2
    rw [e.2, decide_eq_true_eq]
    have hd := Nat.mul_dvd_mul (Nat.dvd_of_mod_eq_zero h1) (Nat.dvd_of_mod_eq_zero h2)
    exact Nat.mod_eq_zero_of_dvd (by rw [show (60 : Nat) ^ 24 = 60 ^ 12 * 60 ^ 12 from by decide +kernel]; exact hd)
theorem smooth_out {n : Int} (h : ¬ (1 ≤ n ∧ n ≤ 4096)) : smoothS n = false := by
  unfold smoothS; rw [facS_out h]; rfl
/-! Few radices. -/
def oS (r : Int) : Int := if r = 4 then 1 else if r = 2 then 2 else if r = 3 then 3 else if r = 5 then 4 else 0
def fewN (a b c : Nat) : Nat := 2 ^ a * 3 ^ b * 5 ^ c
def fewOk (l : List Int) (k : Nat) : Bool := decide (oS (l.getD k 0) ≠ 0) && (decide (k = 0) || (decide (oS (l.getD (k - 1) 0) ≤ oS (l.getD k 0)) && !(decide (l.getD k 0 = 2) && decide (oS (l.getD (k - 1) 0) = 2))))
theorem few_all : ((List.range 13).all fun a => (List.range 8).all fun b => (List.range 6).all fun c => decide (4096 < fewN a b c) ||
    (decide ((facS (fewN a b c : Nat)).2 = 0) && decide ((facS (fewN a b c : Nat)).1.length = (a + 1) / 2 + b + c) && (List.range (facS (fewN a b c : Nat)).1.length).all (fewOk (facS (fewN a b c : Nat)).1))) = true := by decide +kernel
theorem few_ok {a b c : Nat} (ha : a < 13) (hb : b < 8) (hc : c < 6) (h : fewN a b c ≤ 4096) :
    (facS (fewN a b c : Nat)).2 = 0 ∧ (facS (fewN a b c : Nat)).1.length = (a + 1) / 2 + b + c ∧ ∀ k, k < (facS (fewN a b c : Nat)).1.length → fewOk (facS (fewN a b c : Nat)).1 k = true := by
  have h1 := few_all
  rw [List.all_eq_true] at h1
  have h2 := h1 a (List.mem_range.2 ha)
  rw [List.all_eq_true] at h2
  have h3 := h2 b (List.mem_range.2 hb)
  rw [List.all_eq_true] at h3
  have h4 := h3 c (List.mem_range.2 hc)
  rw [Bool.or_eq_true, decide_eq_true_eq, Bool.and_eq_true, Bool.and_eq_true, decide_eq_true_eq, decide_eq_true_eq, List.all_eq_true] at h4
  rcases h4 with h4 | h4
  · omega
  · exact ⟨h4.1.1, h4.1.2, fun k hk => h4.2 k (List.mem_range.2 hk)⟩
end Go.Proofs.YtohcoidbncbijaaDoor.P
