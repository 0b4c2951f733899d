
/- The contract of package grid's line. Conditions: words of their kinds; slices read as lists, beside the row that is written; the places lie in the words; how a line is transformed is a value of the program's. -/
import Derived.Test.YtohcoidbncbijaaDoorGrC
import Derived.Test.YtohcoidbncbijaaDoorFlyB
namespace Go.Proofs.YtohcoidbncbijaaDoor.P
open Go.RowKit
set_option linter.unusedVariables false
set_option linter.unusedSimpArgs false
/-- All but one row is as it was. -/
abbrev Grown (gs : Nat) (w w' : World) : Prop := w.grownBy w' (some gs)
theorem Grown.refl (gs : Nat) (w : World) : Grown gs w w := ⟨rfl, rfl, rfl, Nat.le_refl _, fun _ _ _ => rfl⟩
theorem Grown.trans {gs : Nat} {a b c : World} (h : Grown gs a b) (k : Grown gs b c) : Grown gs a c :=
  ⟨k.os.trans h.os, k.tape.trans h.tape, k.output.trans h.output, Nat.le_trans h.size k.size, fun i hi hn => (k.block i (Nat.lt_of_lt_of_le hi h.size) hn).trans (h.block i hi hn)⟩
theorem Grown.below {gs : Nat} {a b c : World} (h : Grown gs a b) (k : Below b.heap.size b c) : Grown gs a c :=
  h.trans ⟨k.os, k.tape, k.output, k.size, fun i hi _ => k.block i hi⟩
theorem Grown.drewN {gs : Nat} {a b : World} (h : Grown gs a b) (q : Nat) : Grown gs a (b.drewN q) := h.below (below_drewN (Below.refl _ _) q)
theorem Grown.setCell {gs : Nat} {a b : World} (h : Grown gs a b) (i : Nat) (v : Value) : Grown gs a (b.setCell ⟨gs, i, none⟩ v) :=
  h.trans ⟨rfl, rfl, rfl, by simp [World.setCell], fun k hk hn => Below.heap_setCell _ _ _ _ (fun e => hn (by rw [e]))⟩
theorem Grown.of_below {gs b : Nat} {a c : World} (h : Grown gs a c) (hb : b ≤ gs) (hs : b ≤ a.heap.size) : Below b a c :=
  ⟨h.os, h.tape, h.output, h.size, fun k hk => h.block k (by omega) (fun e => by cases e; omega)⟩
/-- A row that lies in another block than the one that is written. -/
def RowX (gs : Nat) (w : World) (A : Option Addr) (cs : List Value) : Prop := Row w A cs ∧ ∀ x, A = some x → x.block ≠ gs
theorem RowX.grown {gs : Nat} {w w' : World} {A : Option Addr} {cs : List Value} (h : RowX gs w A cs) (hg : Grown gs w w') : RowX gs w' A cs := by
  refine ⟨?_, h.2⟩
  rcases h.1 with h1 | ⟨x, hx, hc⟩
  · exact .inl h1
  · refine .inr ⟨x, hx, fun i u hi => ?_⟩
    have h2 := hc i u hi
    have hb : (x.add i).block = x.block := by unfold Addr.add; split <;> rfl
    have h3 : (x.add i).block < w.heap.size := World.block_lt_of_cell? w _ h2
    exact (World.cell?_of_block (w := w) (hg.block _ h3 (fun e => h.2 x hx (by rw [← hb]; exact Option.some.inj e)))).trans h2
theorem RowX.below {gs : Nat} {w w' : World} {A : Option Addr} {cs : List Value} (h : RowX gs w A cs) (hb : Below w.heap.size w w') : RowX gs w' A cs := ⟨h.1.below hb, h.2⟩
theorem Own.rowX {w : World} {B gs : Nat} {E : TypeId} {s : Nat} {A : Option Addr} {n c : Nat} {cs : List Value} (h : Own w B E s A n c cs) (hg : gs < B) : RowX gs w A cs :=
  ⟨h.row, fun x hx => by
    subst hx
    have h1 := World.ownsRow.lt h x.block rfl
    omega⟩
theorem Own.rowX_new {w : World} {B : Nat} {E : TypeId} {s : Nat} {A : Option Addr} {n c : Nat} {cs : List Value} (h : Own w B E s A n c cs) : RowX w.heap.size w A cs :=
  ⟨h.row, fun x hx => by
    subst hx
    have h1 := World.ownsRow.lt h x.block rfl
    omega⟩
/-- The words at some places, one by one. -/
def gatN (x : List Int) (L : List Int) (k : Nat) : List Int := (List.range L.length).map fun i => if i < k then x.getD (L.getD i 0).toNat 0 else 0
def gatL (x : List Int) (L : List Int) : List Int := L.map fun v => x.getD v.toNat 0
theorem gatN_length (x L : List Int) (k : Nat) : (gatN x L k).length = L.length := by simp [gatN]
theorem gatL_length (x L : List Int) : (gatL x L).length = L.length := by simp [gatL]
theorem gatN_start (x L : List Int) : gatN x L 0 = List.replicate L.length 0 := by
  apply List.ext_getElem
  · simp [gatN]
  · intro i h1 h2; simp [gatN]
theorem gatN_all (x L : List Int) : gatN x L L.length = gatL x L := by
  apply List.ext_getElem
  · simp [gatN, gatL]
  · intro i h1 h2
    have h3 : i < L.length := by simpa [gatN] using h1
    simp [gatN, gatL, h3]
theorem gatN_set (x : List Int) {L : List Int} {k : Nat} (hk : k < L.length) : (gatN x L k).set k (x.getD L[k].toNat 0) = gatN x L (k + 1) := by
  apply List.ext_getElem
  · simp [gatN]
  · intro i h1 h2
    have h3 : i < L.length := by simpa [gatN] using h2
    rw [List.getElem_set]
    by_cases e : k = i
    · subst e; simp [gatN, hk]
    · rw [if_neg e]
      simp only [gatN, List.getElem_map, List.getElem_range]
      by_cases h4 : i < k
      · rw [if_pos h4, if_pos (by omega)]
      · rw [if_neg h4, if_neg (by omega)]
theorem gatL_u64 {x L : List Int} (h : ∀ d ∈ x, U64 d) : ∀ d ∈ gatL x L, U64 d := by
  intro d hd
  simp only [gatL, List.mem_map] at hd
  obtain ⟨v, _, rfl⟩ := hd
  by_cases hv : v.toNat < x.length
  · rw [List.getD_eq_getElem?_getD, List.getElem?_eq_getElem hv]; exact h _ (List.getElem_mem hv)
  · rw [List.getD_eq_getElem?_getD, List.getElem?_eq_none (by omega)]; exact (show U64 0 by decide)
/-- Words that are put at some places, one by one. -/
def putN (o L Y : List Int) : Nat → List Int
  | 0 => o
  | k + 1 => (putN o L Y k).set (L.getD k 0).toNat (Y.getD k 0)
theorem putN_length (o L Y : List Int) : ∀ k, (putN o L Y k).length = o.length
  | 0 => rfl
  | k + 1 => by rw [putN, List.length_set, putN_length o L Y k]
set_option maxRecDepth 100000 in
set_option maxHeartbeats 4000000 in
theorem line7_core (fk : Nat) (p : Int) (neg : Bool) (D : Option Addr) (cd d : Nat) (L : List Int) (X : Option Addr) (ca m : Nat) (x o Y : List Int) (gs : Nat) (w : World)
    (hcf : ∀ (args : Array Value) (w : World), (callFunc fk args).run Tryd.prog w = .ok (.enter fk args) w)
    (hfk : ∀ (w : World) (Z : Option Addr) (c : Nat), Row w Z (nums .u64 (gatL x L)) → Tab w → Calls Tryd.prog fk #[.int .u64 p, .slice Z d c, .bool neg] w fun e w' => ∃ B cb,
      e = .returned (.tuple #[.slice B d cb, .int .i64 0]) ∧ Own w' w.heap.size 22 1 B d cb (nums .u64 Y) ∧ Below w.heap.size w w')
    (hd : L.length = d) (hm : x.length = m) (ho : o.length = m) (hy : Y.length = d) (hd4 : d ≤ 4096) (hm4 : m ≤ 4096) (hin : ∀ v ∈ L, 0 ≤ v ∧ v < m)
    (hrd : RowX gs w D (nums .i64 L)) (hrx : RowX gs w X (nums .u64 x)) (hown : Own w gs 22 1 (some ⟨gs, 0, none⟩) m m (nums .u64 o)) (hT : Tab w) :
    Calls Tryd.prog 103 #[.func (.func fk) #[] #[], .int .u64 p, .bool neg, .slice D d cd, .slice X m ca, .slice (some ⟨gs, 0, none⟩) m m] w fun e w' =>
      e = .returned (.int .i64 0) ∧ Own w' gs 22 1 (some ⟨gs, 0, none⟩) m m (nums .u64 (putN o L Y d)) ∧ Grown gs w w' := by
  have HFK := Lib.hid hfk
  have HD := Lib.hid hd
  have HM := Lib.hid hm
  have HOL := Lib.hid ho
  have HY := Lib.hid hy
  have HIN := Lib.hid hin
  have HRD := Lib.hid hrd
  have HRX := Lib.hid hrx
  have HOW := Lib.hid hown
  have HT := Lib.hid hT
  have HGS : Hid (gs < w.heap.size) := Lib.hid (Own.base hown).2
  have HALL : Hid (gatN x L d = gatL x L) := Lib.hid (by rw [← hd]; exact gatN_all x L)
  have hmk := make_u64 d (by omega)
  clear hfk hm ho hy hin hrd hrx hown hT
  go_enter Tryd.func103, Tryd.ntmps103
  go_wp2
  have hown := own_made w w.heap.size 22 (.int .u64 0) d (Nat.le_refl _) (by omega)
  have hbel : Below w.heap.size w (w.alloc (.cells (madeCells #[.int .u64 0] d) 22)) := (Below.refl _ _).alloc (Nat.le_refl _) _
  rw [nums_replicate, ← hd, ← gatN_start x L, hd] at hown
  clear hd hmk
  generalize (w.alloc (.cells (madeCells #[.int .u64 0] d) 22)) = W at *
  have HO := Lib.hid hown
  have HB := Lib.hid hbel
  clear hown hbel
  generalize hrs : w.heap.size = rs at *
  have HRS := Lib.hid hrs
  clear hrs
  go_loopw [24] (fun q wr => ∃ k : Nat, k ≤ d ∧ q = .int .i64 k ∧ Hid (Own wr rs 22 1 (some ⟨rs, 0, none⟩) d d (nums .u64 (gatN x L k))) ∧ Hid (Below rs w wr)) (fun q _ => d - (intOf q).toNat)
  case atStart => exact ⟨0, Nat.zero_le _, rfl, HO, HB⟩
  case round =>
    obtain ⟨k, hk, rfl, HO2, HB2⟩ := hrel
    have HB3 : Hid (Below w.heap.size w wr) := Lib.hid (by rw [HRS.out]; exact HB2.out)
    by_cases hlt : k < d
    · have hkl : k < L.length := by have := HD.out; omega
      obtain ⟨v0, v1⟩ := HIN.out _ (List.getElem_mem hkl)
      obtain ⟨da, rfl⟩ := HRD.out.1.some_of (by intro h0; have h1 := nums_length .i64 L; rw [h0] at h1; simp at h1; omega)
      have hc0 := (HRD.out.1.below HB3.out).num hkl
      have HST := Lib.hid (gatN_set x hkl)
      generalize L[k] = v at *
      obtain ⟨v, rfl⟩ := Int.eq_ofNat_of_zero_le v0
      have hvx : v < x.length := by have := HM.out; omega
      obtain ⟨xa, rfl⟩ := HRX.out.1.some_of (by intro h0; have h1 := nums_length .u64 x; rw [h0] at h1; simp at h1; omega)
      have hc1 := (HRX.out.1.below HB3.out).num hvx
      rw [Int.toNat_natCast, getD_of hvx] at HST
      generalize x[v] = u at *
      have hf : wr.frozen? ⟨rs, k, none⟩ = false := HO2.out.frozenAt k
      have hco := HO2.out.cellAt k hlt
      rw [nums_get .u64 _ k (by rw [gatN_length]; exact hkl)] at hco
      generalize (gatN x L k)[k]'(by rw [gatN_length]; exact hkl) = old at *
      have HS : Hid (Own (wr.setCell ⟨rs, k, none⟩ (.int .u64 u)) rs 22 1 (some ⟨rs, 0, none⟩) d d (nums .u64 (gatN x L (k + 1)))) := Lib.hid (by
        have h1 := HO2.out.stored k (.int .u64 u)
        rw [nums_set, HST.out] at h1
        exact h1)
      have HSB := Lib.hid (Below.setCell (p := ⟨rs, k, none⟩) HB2.out (Nat.le_refl _) (.int .u64 u))
      go_wp2
      go_roundw
      case rel => exact ⟨k + 1, by omega, by go_num, HS, HSB⟩
      case measure => simp [intOf]; omega
    · have hke : k = d := by omega
      have HRL : Hid (Row wr (some ⟨rs, 0, none⟩) (nums .u64 (gatL x L))) := Lib.hid (by have h1 := HO2.out.row; rw [hke, HALL.out] at h1; exact h1)
      have HGW : Hid (gs < wr.heap.size) := Lib.hid (Nat.lt_of_lt_of_le HGS.out (by rw [← HRS.out]; exact HB3.out.size))
      clear hke
      go_wp2_with fail
      refine (HFK.out _ _ _ HRL.out (HT.out.below HB3.out)).mono ?_
      rintro e w2 ⟨Z, cz, rfl, hoz, hb⟩
      have HB4 := Lib.hid (blT HB3.out hb)
      have HZ := Lib.hid (hoz.rowX HGW.out)
      have HRD2 := Lib.hid (HRD.out.below HB4.out)
      have HOW2 := Lib.hid (HOW.out.grown HB4.out)
      clear hoz hb
      go_wp2
      go_loopw [47] (fun q ws => ∃ k : Nat, k ≤ d ∧ q = .int .i64 k ∧ Hid (Own ws gs 22 1 (some ⟨gs, 0, none⟩) m m (nums .u64 (putN o L Y k))) ∧ Hid (Grown gs w2 ws)) (fun q _ => d - (intOf q).toNat)
      case atStart => exact ⟨0, Nat.zero_le _, rfl, HOW2, Lib.hid (Grown.refl _ _)⟩
      case round =>
        obtain ⟨k, hk, rfl, HO5, HG5⟩ := hrel
        by_cases hlt : k < d
        · have hkl : k < L.length := by have := HD.out; omega
          have hky : k < Y.length := by have := HY.out; omega
          obtain ⟨v0, v1⟩ := HIN.out _ (List.getElem_mem hkl)
          obtain ⟨da, rfl⟩ := HRD2.out.1.some_of (by intro h0; have h1 := nums_length .i64 L; rw [h0] at h1; simp at h1; omega)
          obtain ⟨za, rfl⟩ := HZ.out.1.some_of (by intro h0; have h1 := nums_length .u64 Y; rw [h0] at h1; simp at h1; omega)
          have hc0 := (HRD2.out.grown HG5.out).1.num hkl
          have hc1 := (HZ.out.grown HG5.out).1.num hky
          have HST : Hid (putN o L Y (k + 1) = (putN o L Y k).set L[k].toNat Y[k]) := Lib.hid (by rw [putN, getD_of hkl, getD_of hky])
          generalize L[k] = v at *
          generalize Y[k] = u at *
          obtain ⟨v, rfl⟩ := Int.eq_ofNat_of_zero_le v0
          rw [Int.toNat_natCast] at HST
          have hvm : v < m := by omega
          have hf : wr.frozen? ⟨gs, v, none⟩ = false := HO5.out.frozenAt v
          have hco := HO5.out.cellAt v hvm
          rw [nums_get .u64 _ v (by rw [putN_length, HOL.out]; exact hvm)] at hco
          generalize (putN o L Y k)[v]'(by rw [putN_length, HOL.out]; exact hvm) = old at *
          have HS : Hid (Own (wr.setCell ⟨gs, v, none⟩ (.int .u64 u)) gs 22 1 (some ⟨gs, 0, none⟩) m m (nums .u64 (putN o L Y (k + 1)))) := Lib.hid (by
            have h1 := HO5.out.stored v (.int .u64 u)
            rw [nums_set, ← HST.out] at h1
            exact h1)
          have HSG := Lib.hid (HG5.out.setCell v (.int .u64 u))
          go_wp2
          go_roundw
          case rel => exact ⟨k + 1, by omega, by go_num, HS, HSG⟩
          case measure => simp [intOf]; omega
        · have hke : k = d := by omega
          have HOE : Hid (Own wr gs 22 1 (some ⟨gs, 0, none⟩) m m (nums .u64 (putN o L Y d))) := Lib.hid (by have h1 := HO5.out; rw [hke] at h1; exact h1)
          have HGE : Hid (Grown gs w wr) := Lib.hid (((Grown.refl gs w).below HB4.out).trans HG5.out)
          clear hke
          go_wp2
          go_ret
          exact ⟨rfl, HOE.out, HGE.out⟩
end Go.Proofs.YtohcoidbncbijaaDoor.P
