
/- The contract of grid.Axis. Conditions: words of their kinds; slices read as lists; the library's table lies as it was laid. -/
import Derived.Test.YtohcoidbncbijaaDoorGrL
import Derived.Test.YtohcoidbncbijaaDoorRound3
namespace Go.Proofs.YtohcoidbncbijaaDoor.P
open Go.RowKit
set_option linter.unusedVariables false
set_option linter.unusedSimpArgs false
section
variable {P : Program} {ops : Array Oper} {Q : Exit → Act → World → Prop} {md : Region.Mode} {S : World → Prop} {T : Nat → Bool}
/-- One of two that may come up. -/
theorem wpOp_of {i : Nat} {o : Oper} {l : List Oper} {fuel : Nat} {listed : Array Bool} {a : Act} {w : World} (ho' : ops.toList.drop i = o :: l)
    (h : ∀ K : Act → World → Prop, (∀ a w, (T i = true → S w) → wpAnyT P md ops Q S T fuel (listed.setIfInBounds i true) a w → K a w) → if Region.wanted o (yielded ops a.tmps) = true then o.wp P a w K Q else K (a.put o.dst undef) w) :
    wpOp P ops Q i (fun a' w' => (T i = true → S w') ∧ wpAnyT P md ops Q S T fuel (listed.setIfInBounds i true) a' w') a w := by
  have ho := drop_at ho'
  unfold wpOp
  simp only [ho]
  have h1 := h (fun a' w' => (T i = true → S w') ∧ wpAnyT P md ops Q S T fuel (listed.setIfInBounds i true) a' w') (fun _ _ hS hK => ⟨hS, hK⟩)
  split
  · rename_i hw
    rw [if_pos hw] at h1
    exact .inl h1
  · rename_i hw
    rw [if_neg hw] at h1
    exact h1
theorem wpAnyT_two {i j : Nat} {oi oj : Oper} {li lj : List Oper} {fuel : Nat} {listed : Array Bool} {a : Act} {w : World} (hr : Region.ready md ops listed = [i, j]) (hi : ops.toList.drop i = oi :: li) (hj : ops.toList.drop j = oj :: lj)
    (h1 : ∀ K : Act → World → Prop, (∀ a w, (T i = true → S w) → wpAnyT P md ops Q S T fuel (listed.setIfInBounds i true) a w → K a w) → if Region.wanted oi (yielded ops a.tmps) = true then oi.wp P a w K Q else K (a.put oi.dst undef) w)
    (h2 : ∀ K : Act → World → Prop, (∀ a w, (T j = true → S w) → wpAnyT P md ops Q S T fuel (listed.setIfInBounds j true) a w → K a w) → if Region.wanted oj (yielded ops a.tmps) = true then oj.wp P a w K Q else K (a.put oj.dst undef) w) :
    wpAnyT P md ops Q S T (fuel + 1) listed a w := by
  refine ⟨fun h0 => (by rw [hr] at h0; cases h0), fun k hk => ?_⟩
  rw [hr] at hk
  simp only [List.mem_cons, List.not_mem_nil, or_false] at hk
  rcases hk with rfl | rfl
  · exact wpOp_of hi h1
  · exact wpOp_of hj h2
end
theorem line_n (A : Option Addr) (c n : Nat) (l : List Int) (a k : Int) (w : World) (hn : l.length = n) (hr : Row w A (nums .i64 l)) (hl : n ≤ 9223372036854775807) (hc : n ≤ c) (hw : ∀ d ∈ l, i64 d) (ha : i64 a) (hk : i64 k) :
    Calls Tryd.prog 102 #[.slice A n c, .int .i64 a, .int .i64 k] w fun e w' => ∃ B b,
      e = .returned (.tuple #[.slice B (lineS l a k).1.length b, .int .i64 (lineS l a k).2]) ∧ Own w' w.heap.size 3 1 B (lineS l a k).1.length b (nums .i64 (lineS l a k).1) ∧ Below w.heap.size w w' := by
  subst hn; exact line_calls A c l a k w hr hl hc hw ha hk
theorem lineL_length (l : List Int) (a : Nat) (k : Int) : (lineL l a k).length = (l.getD a 1).toNat := by simp [lineL]
theorem lineL_at (l : List Int) (a : Nat) (k : Int) {c : Nat} (h : c < (l.getD a 1).toNat) : (lineL l a k).getD c 0 = vOf (prodL (l.drop (a + 1))) (l.getD a 1) k c := by
  unfold lineL
  rw [List.getD_eq_getElem?_getD, List.getElem?_map, List.getElem?_range h]; rfl
theorem AxAt.rows {l : List Int} {N : Nat} (h : AxAt l N) : prodL l / l.getD N 1 = prodL (l.take N) * prodL (l.drop (N + 1)) := by
  rw [h.prod, Int.mul_right_comm, Int.mul_ediv_cancel _ (by have := h.D1; omega)]
theorem AxAt.line_in {l : List Int} {N : Nat} (h : AxAt l N) {k : Nat} (hk : (k : Int) < prodL l / l.getD N 1) {c : Nat} (hc : (c : Int) < l.getD N 1) : 0 ≤ vOf (prodL (l.drop (N + 1))) (l.getD N 1) k c ∧ vOf (prodL (l.drop (N + 1))) (l.getD N 1) k c < prodL l := by
  have h2 := vOf_bound (O := prodL (l.take N)) (k := (k : Int)) (x := (c : Int)) h.I1 h.D1 (by omega) (by rw [← h.rows]; exact hk) (by omega) hc
  rw [← h.prod] at h2
  exact h2
theorem AxAt.line_mem {l : List Int} {N : Nat} (h : AxAt l N) {k : Nat} (hk : (k : Int) < prodL l / l.getD N 1) : ∀ v ∈ lineL l N k, 0 ≤ v ∧ v < prodL l := by
  intro v hv
  simp only [lineL, List.mem_map, List.mem_range] at hv
  obtain ⟨c, hc, rfl⟩ := hv
  exact h.line_in hk (by omega)
theorem AxAt.row_line {l : List Int} {N : Nat} (h : AxAt l N) (x : List Int) {k c : Nat} (hc : (c : Int) < l.getD N 1) : rowP l N x (vOf (prodL (l.drop (N + 1))) (l.getD N 1) k c) = gatL x (lineL l N k) := by
  unfold rowP gatL lineL sv
  rw [kOf_vOf h.I1 (by omega) hc, List.map_map]
  rfl
theorem AxAt.put_line {l : List Int} {N : Nat} (h : AxAt l N) (p : Int) (neg inv : Bool) {x : List Int} (hx : prodL l = x.length) {k : Nat} (hk : (k : Int) < prodL l / l.getD N 1) : ∀ c, c ≤ (l.getD N 1).toNat →
    putN (grB p l N neg inv x k 0) (lineL l N k) (trL p neg inv (gatL x (lineL l N k))) c = grB p l N neg inv x k c
  | 0, _ => rfl
  | c + 1, hc => by
    have hc' : c < (l.getD N 1).toNat := by omega
    have hci : (c : Int) < l.getD N 1 := by omega
    have hv := h.line_in hk hci
    obtain ⟨v, hv2⟩ := Int.eq_ofNat_of_zero_le hv.1
    have hvn : v < x.length := by omega
    rw [putN, h.put_line p neg inv hx hk c (by omega), lineL_at _ _ _ hc', trL_at _ _ _ _ (by rw [gatL_length, lineL_length]; exact hc'), ← h.grB_step p neg inv hci hv2.symm hvn, hv2, Int.toNat_natCast]
    congr 1
    unfold axF
    rw [← hv2, h.row_line x hci]
    unfold P.xv
    rw [xOf_vOf h.I1 (by omega) hci, Int.toNat_natCast]
theorem gatL_in {p : Int} {x L : List Int} (hi : inS p x = true) (hl : ∀ v ∈ L, 0 ≤ v ∧ v < x.length) : inS p (gatL x L) = true := by
  unfold inS at hi ⊢
  rw [Bool.and_eq_true, List.all_eq_true] at hi ⊢
  refine ⟨fun d hd => ?_, hi.2⟩
  simp only [gatL, List.mem_map] at hd
  obtain ⟨v, hv, rfl⟩ := hd
  have h1 := hl v hv
  have h2 : v.toNat < x.length := by omega
  rw [List.getD_eq_getElem?_getD, List.getElem?_eq_getElem h2]
  exact hi.1 _ (List.getElem_mem h2)
theorem fwd7_cf (args : Array Value) (w : World) : (callFunc 100 args).run Tryd.prog w = .ok (.enter 100 args) w := by kernel_rfl
theorem line7_fwd (p : Int) (neg : Bool) (D : Option Addr) (cd d : Nat) (L : List Int) (X : Option Addr) (ca m : Nat) (x o : List Int) (gs : Nat) (w : World)
    (hp : U64 p) (hu : ∀ v ∈ x, U64 v) (hck : Chk6 p d neg) (hi : inS p x = true)
    (hd : L.length = d) (hm : x.length = m) (ho : o.length = m) (hm4 : m ≤ 4096) (hin : ∀ v ∈ L, 0 ≤ v ∧ v < m)
    (hrd : RowX gs w D (nums .i64 L)) (hrx : RowX gs w X (nums .u64 x)) (hown : Own w gs 22 1 (some ⟨gs, 0, none⟩) m m (nums .u64 o)) (hT : Tab w) :
    Calls Tryd.prog 103 #[.func (.func 100) #[] #[], .int .u64 p, .bool neg, .slice D d cd, .slice X m ca, .slice (some ⟨gs, 0, none⟩) m m] w fun e w' =>
      e = .returned (.int .i64 0) ∧ Own w' gs 22 1 (some ⟨gs, 0, none⟩) m m (nums .u64 (putN o L (trL p neg false (gatL x L)) d)) ∧ Grown gs w w' := by
  have hgl : (gatL x L).length = d := by rw [gatL_length]; exact hd
  have hs : trS p neg false (gatL x L) = (trL p neg false (gatL x L), 0) := trS_yes (Chk6.ok (by rw [hgl]; exact hck) (gatL_in hi (by rw [hm]; exact hin)))
  refine line7_core 100 p neg D cd d L X ca m x o (trL p neg false (gatL x L)) gs w fwd7_cf (fun w Z c hr hT => ?_) hd hm ho (by rw [trL_length]; exact hgl) hck.n2 hm4 hin hrd hrx hown hT
  have h := fwd6_calls p Z c d (gatL x L) neg w hgl hp hr (by have := hck.n2; omega) (gatL_u64 hu) hT
  rw [hs, show ((trL p neg false (gatL x L), (0 : Int)).1).length = d by dsimp only; rw [trL_length]; exact hgl] at h
  exact h
theorem inv7_cf (args : Array Value) (w : World) : (callFunc 101 args).run Tryd.prog w = .ok (.enter 101 args) w := by kernel_rfl
theorem line7_inv (p : Int) (neg : Bool) (D : Option Addr) (cd d : Nat) (L : List Int) (X : Option Addr) (ca m : Nat) (x o : List Int) (gs : Nat) (w : World)
    (hp : U64 p) (hu : ∀ v ∈ x, U64 v) (hck : Chk6 p d neg) (hi : inS p x = true)
    (hd : L.length = d) (hm : x.length = m) (ho : o.length = m) (hm4 : m ≤ 4096) (hin : ∀ v ∈ L, 0 ≤ v ∧ v < m)
    (hrd : RowX gs w D (nums .i64 L)) (hrx : RowX gs w X (nums .u64 x)) (hown : Own w gs 22 1 (some ⟨gs, 0, none⟩) m m (nums .u64 o)) (hT : Tab w) :
    Calls Tryd.prog 103 #[.func (.func 101) #[] #[], .int .u64 p, .bool neg, .slice D d cd, .slice X m ca, .slice (some ⟨gs, 0, none⟩) m m] w fun e w' =>
      e = .returned (.int .i64 0) ∧ Own w' gs 22 1 (some ⟨gs, 0, none⟩) m m (nums .u64 (putN o L (trL p neg true (gatL x L)) d)) ∧ Grown gs w w' := by
  have hgl : (gatL x L).length = d := by rw [gatL_length]; exact hd
  have hs : trS p neg true (gatL x L) = (trL p neg true (gatL x L), 0) := trS_yes (Chk6.ok (by rw [hgl]; exact hck) (gatL_in hi (by rw [hm]; exact hin)))
  refine line7_core 101 p neg D cd d L X ca m x o (trL p neg true (gatL x L)) gs w inv7_cf (fun w Z c hr hT => ?_) hd hm ho (by rw [trL_length]; exact hgl) hck.n2 hm4 hin hrd hrx hown hT
  have h := inv6_calls p Z c d (gatL x L) neg w hgl hp hr (by have := hck.n2; omega) (gatL_u64 hu) hT
  rw [hs, show ((trL p neg true (gatL x L), (0 : Int)).1).length = d by dsimp only; rw [trL_length]; exact hgl] at h
  exact h
end Go.Proofs.YtohcoidbncbijaaDoor.P
