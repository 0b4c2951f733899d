
/- The contract of seed.Expect. Conditions: words of their kinds; slices read as lists; the library's table lies as it was laid. -/
import Derived.Test.YtnlmmgcjhedjkaaDoorSdA
import Derived.Test.YtnlmmgcjhedjkaaDoorGrL
import Derived.Test.YtnlmmgcjhedjkaaDoorRound3
namespace Go.Proofs.YtnlmmgcjhedjkaaDoor.P
open Go.RowKit
set_option linter.unusedVariables false
set_option linter.unusedSimpArgs false
theorem inner_n (A : Option Addr) (c n : Nat) (l : List Int) (a : Int) (w : World) (hn : l.length = n) (hr : Row w A (nums .i64 l)) (hl : n ≤ 9223372036854775807) (hc : n ≤ c) (hw : ∀ d ∈ l, i64 d) (ha : i64 a) :
    Calls Tryd.prog 65 #[.slice A n c, .int .i64 a] w fun e w' => e = .returned (.tuple #[.int .i64 (innerS l a).1, .int .i64 (innerS l a).2]) ∧ w' = w := by
  subst hn; exact inner_calls A c l a w hr hl hc hw ha
theorem coord_n (A : Option Addr) (c n : Nat) (l : List Int) (i : Int) (w : World) (hn : l.length = n) (hr : Row w A (nums .i64 l)) (hl : n ≤ 9223372036854775807) (hw : ∀ d ∈ l, i64 d) (hi : i64 i) :
    Calls Tryd.prog 64 #[.slice A n c, .int .i64 i] w fun e w' => ∃ B b,
      e = .returned (.tuple #[.slice B (coordS l i).1.length b, .int .i64 (coordS l i).2]) ∧ Own w' w.heap.size 3 1 B (coordS l i).1.length b (nums .i64 (coordS l i).1) ∧ Below w.heap.size w w' := by
  subst hn; exact coord_calls A c l i w hr hl hw hi
theorem info_sl : (Tryd.prog.info? 41).map (fun i => (i.zero, i.size, i.bytes)) = some (some (.slice none 0 0), 1, 24) := by kernel_rfl
theorem make_sl (n : Nat) (hn : n ≤ 1000000) (w : World) : (Instr.makeSlice 86 (.int .i64 (n : Int)) (.int .i64 (n : Int))).run Tryd.prog w =
    .ok (.slice (some ⟨w.heap.size, 0, none⟩) n n) (w.alloc (.cells (madeCells #[.slice none 0 0] n) 41)) := by
  obtain ⟨i0, hi, hz⟩ := Option.map_eq_some_iff.1 info_sl
  simp only [Prod.mk.injEq] at hz
  obtain ⟨h0, h1, h2⟩ := hz
  rw [run_make w 86 41 i0 (.slice none 0 0) Tryd.underlying86 hi h0 .i64 .i64 n n (by omega) (by omega) (by rw [h2]; omega) (by omega), h1]
  simp [Value.cells]
theorem Grown.cell {gs : Nat} {w w' : World} (h : Grown gs w w') {a : Addr} (hn : a.block ≠ gs) {v : Value} (hc : w.cell? a = some v) : w'.cell? a = some v :=
  (World.cell?_of_block (w := w) (h.block a.block (World.block_lt_of_cell? w a hc) (fun e => hn (Option.some.inj e)))).trans hc
theorem Own.off {w w' : World} {B gs : Nat} {E : TypeId} {s g n c : Nat} {cs : List Value} (h : Own w B E s (some ⟨g, 0, none⟩) n c cs) (hg : Grown gs w w') (hne : g ≠ gs) : Own w' B E s (some ⟨g, 0, none⟩) n c cs :=
  World.ownsRow.kept (row := some gs) h hg (.inr (by simp [Value.ownBlock]; exact hne))
theorem row_at {w : World} {g : Nat} {l : List Int} (h : Row w (some ⟨g, 0, none⟩) (nums .u64 l)) {c : Nat} (hc : c < l.length) : w.cell? ⟨g, c, none⟩ = some (.int .u64 l[c]) := by
  have h1 := h.num hc
  unfold Addr.add at h1
  split at h1
  · rename_i h2; subst h2; exact h1
  · simpa using h1
/-- The tables of the first k axes. -/
def DoneT (tb : Nat) (W : Nat → List Int) (k : Nat) (vs : List Value) (w : World) : Prop :=
  ∀ j, j < k → ∃ g, tb < g ∧ g < w.heap.size ∧ vs[j]? = some (.slice (some ⟨g, 0, none⟩) (W j).length (W j).length) ∧ Row w (some ⟨g, 0, none⟩) (nums .u64 (W j))
theorem DoneT.grown {tb gs k : Nat} {W : Nat → List Int} {vs : List Value} {w w' : World} (h : DoneT tb W k vs w) (hg : Grown gs w w') (hs : w.heap.size ≤ gs) : DoneT tb W k vs w' := by
  intro j hj
  obtain ⟨g, h1, h2, h3, h4⟩ := h j hj
  exact ⟨g, h1, Nat.lt_of_lt_of_le h2 hg.size, h3, (RowX.grown ⟨h4, fun x hx => by cases hx; dsimp only; omega⟩ hg).1⟩
theorem DoneT.below {tb k : Nat} {W : Nat → List Int} {vs : List Value} {w w' : World} (h : DoneT tb W k vs w) (hb : Below w.heap.size w w') : DoneT tb W k vs w' := by
  intro j hj
  obtain ⟨g, h1, h2, h3, h4⟩ := h j hj
  exact ⟨g, h1, Nat.lt_of_lt_of_le h2 hb.size, h3, h4.below hb⟩
theorem DoneT.setCell {tb k : Nat} {W : Nat → List Int} {vs : List Value} {w : World} (h : DoneT tb W k vs w) (v : Value) : DoneT tb W k (vs.set k v) (w.setCell ⟨tb, k, none⟩ v) := by
  intro j hj
  obtain ⟨g, h1, h2, h3, h4⟩ := h j hj
  refine ⟨g, h1, by simpa [World.setCell] using h2, by rw [List.getElem?_set_ne (by omega)]; exact h3, ?_⟩
  have hg : Grown tb w (w.setCell ⟨tb, k, none⟩ v) := (Grown.refl tb w).setCell k v
  exact (RowX.grown ⟨h4, fun x hx => by cases hx; dsimp only; omega⟩ hg).1
def wgF (p : Int) (ax : List (Int × Bool)) (inv : Bool) (r : Int) (j i : Nat) : Int := wghV p ((dimsA ax).getD j 1).toNat (ax.getD j (1, false)).2 inv i (powS p r (inA (dimsA ax) j))
def wgL (p : Int) (ax : List (Int × Bool)) (inv : Bool) (r : Int) (j : Nat) : List Int := (List.range ((dimsA ax).getD j 1).toNat).map (wgF p ax inv r j)
theorem wgL_length (p : Int) (ax : List (Int × Bool)) (inv : Bool) (r : Int) (j : Nat) : (wgL p ax inv r j).length = ((dimsA ax).getD j 1).toNat := by simp [wgL]
theorem wgL_at (p : Int) (ax : List (Int × Bool)) (inv : Bool) (r : Int) (j : Nat) {i : Nat} (h : i < (wgL p ax inv r j).length) : (wgL p ax inv r j)[i] = wgF p ax inv r j i := by simp [wgL]
theorem Uf_zero (p : Int) (ax : List (Int × Bool)) (inv : Bool) (r : Int) (v j : Nat) : Uf p ax inv r 0 v j = wgF p ax inv r j (P.xv (dimsA ax) j v).toNat := by
  rw [Uf, if_neg (by omega), wghF_wgD, ← wghV_is]; rfl
def smF (p : Int) (ax : List (Int × Bool)) (inv : Bool) (x : List Int) (r : Int) (i : Nat) : Int := redS p (S i (fun v => x.getD v 0 * UU p ax inv r 0 v))
def prF (p : Int) (ax : List (Int × Bool)) (inv : Bool) (x : List Int) (r : Int) (v k : Nat) : Int := redS p (x.getD v 0 * Pd k (Uf p ax inv r 0 v))
theorem prF_step (p : Int) (ax : List (Int × Bool)) (inv : Bool) (x : List Int) (r : Int) (v k : Nat) : mulS p (prF p ax inv x r v k) (wgF p ax inv r k (P.xv (dimsA ax) k v).toNat) = prF p ax inv x r v (k + 1) := by
  unfold mulS prF
  rw [redS_mul_left, Pd, Uf_zero, Int.mul_assoc]
theorem smF_step (p : Int) (ax : List (Int × Bool)) (inv : Bool) (x : List Int) (r : Int) (i : Nat) : addS p (smF p ax inv x r i) (prF p ax inv x r i ax.length) = smF p ax inv x r (i + 1) := by
  unfold addS smF prF UU
  rw [redS_add_left, redS_add_right, S]
theorem chk7_at {p : Int} {ax : List (Int × Bool)} (h : Chk7 p ax) {k : Nat} (hk : k < ax.length) : chk7 p [ax[k]] = 0 := by
  have hm := List.getElem_mem hk
  have hp : 1 ≤ ax[k].1 := h.dims.pos _ (by simp only [dimsA, List.mem_map]; exact ⟨_, hm, rfl⟩)
  have h4 : ax[k].1 ≤ 4096 := by
    have h1 : k < (dimsA ax).length := by rw [dimsA_length]; exact hk
    have h2 := h.dims.pos.at_le h1
    have h3 := h.dims.all
    have e : (dimsA ax)[k] = ax[k].1 := by simp [dimsA]
    omega
  refine Chk7.ok ⟨h.known, ⟨by simp [dimsA], by simp [dimsA], ?_, ?_⟩, ?_, ?_⟩
  · intro d hd
    simp only [dimsA, List.map_cons, List.map_nil, List.mem_singleton] at hd
    omega
  · simp only [dimsA, List.map_cons, List.map_nil, prodL]; omega
  · intro a ha; rw [List.mem_singleton] at ha; subst ha; exact h.smooth _ hm
  · intro a ha; rw [List.mem_singleton] at ha; subst ha; exact h.root _ hm
set_option maxRecDepth 100000 in
set_option maxHeartbeats 4000000 in
theorem exp_calls (p : Int) (A : Option Addr) (c n : Nat) (ax : List (Int × Bool)) (inv : Bool) (X : Option Addr) (ca m : Nat) (x : List Int) (r : Int) (w : World) (hn : ax.length = n) (hm : x.length = m) (hp : U64 p)
    (hr : Row w A (axR ax)) (hl : n ≤ 8796093022208) (hw : ∀ a ∈ ax, i64 a.1) (hrx : Row w X (nums .u64 x)) (hlm : m ≤ 9223372036854775807) (hwx : ∀ d ∈ x, U64 d) (hur : U64 r) (hT : Tab w) :
    Calls Tryd.prog 59 #[.int .u64 p, .slice A n c, .bool inv, .slice X m ca, .int .u64 r] w fun e w' =>
      e = .returned (.tuple #[.int .u64 (expS p ax inv x r).1, .int .i64 (expS p ax inv x r).2]) ∧ Below w.heap.size w w' := by
  have HP := Lib.hid hp
  have HR := Lib.hid hr
  have HRX := Lib.hid hrx
  have HN := Lib.hid hn
  have HM := Lib.hid hm
  have HW := Lib.hid hw
  have HU := Lib.hid hwx
  have HT := Lib.hid hT
  have HUR := Lib.hid hur
  clear hp hr hn hw hT hrx hm hwx hur
  by_cases hc : wrd7 p ax x = 0
  case neg =>
    have HF : Hid (expS p ax inv x r = (0, wrd7 p ax x)) := Lib.hid (by rw [expS, if_neg hc])
    have t0 : (wrd7 p ax x != 0) = true := by simpa using hc
    rw [HF.out]
    clear hc
    go_enter Tryd.func59, Tryd.ntmps59
    go_wp2_with fail
    refine (wrd9_calls _ _ _ _ _ _ _ _ _ _ HN.out HM.out HP.out HR.out hl HW.out HRX.out hlm HT.out).mono ?_
    rintro e w1 ⟨rfl, hb⟩
    have HB := Lib.hid hb
    clear hb
    go_wp2
    go_ret2
    exact ⟨rfl, HB.out⟩
  have HC := Lib.hid hc
  have HF : Hid (expS p ax inv x r = (expF p ax inv x r, 0)) := Lib.hid (by rw [expS, if_pos hc])
  obtain ⟨hC7, hPL, hIN⟩ := wrd7_ok hc
  have hn1 : 1 ≤ n := by have h1 := hC7.dims.n1; rw [dimsA_length, HN.out] at h1; exact h1
  have hn4 : n ≤ 4 := by have h1 := hC7.dims.n4; rw [dimsA_length, HN.out] at h1; exact h1
  have hm4 : m ≤ 4096 := by have h1 := hC7.dims.all; have h2 := HM.out; omega
  have HDN : Hid ((dimsA ax).length = n) := Lib.hid (by rw [dimsA_length]; exact HN.out)
  have HDW := Lib.hid (dimsA_i64 HW.out)
  have HC7 := Lib.hid hC7
  have HPL : Hid (prodL (dimsA ax) = (m : Int)) := Lib.hid (by rw [hPL, HM.out])
  have HIN := Lib.hid hIN
  have HE : Hid (smF p ax inv x r m = expF p ax inv x r) := Lib.hid (by unfold smF expF; rw [HM.out])
  have HIS : Hid (∀ k : Nat, k < n → ∃ I : Nat, innerS (dimsA ax) k = ((I : Int), 0) ∧ I = inA (dimsA ax) k ∧ I ≤ 4096) := Lib.hid fun k hk => by
    refine ⟨inA (dimsA ax) k, ?_, rfl, ?_⟩
    · have hI := (HC7.out.dims.pos.drop (k + 1)).prod
      rw [innerS, if_pos HC7.out.dims, if_pos ⟨by omega, by rw [HDN.out]; omega⟩, Int.toNat_natCast]
      unfold inA
      rw [Int.toNat_of_nonneg (by omega)]
    · have hI := HC7.out.dims.pos.drop_le (k + 1)
      have hI2 := HC7.out.dims.all
      unfold inA
      omega
  have HPC : Hid (∀ (I : Nat) (w : World), I ≤ 4096 → Calls Tryd.prog 66 #[.int .u64 p, .int .u64 r, .int .u64 (I : Int)] w fun e w' => e = .returned (.int .u64 (powS p r I)) ∧ Drawn0 w w') := Lib.hid fun I w hI => by
    have h1 := pow_calls p r (I : Int) w HP.out HUR.out ⟨by omega, by omega⟩
    rw [Int.toNat_natCast] at h1
    exact h1
  have hmk := make_sl n (by omega)
  have hmx : Tryd.prog.follows .mixedOrders = true := by kernel_rfl
  have HMX := Lib.hid hmx
  rw [HF.out]
  obtain ⟨aa, rfl⟩ := HR.out.some_of (by intro h0; have h1 := axR_length ax; rw [h0, HN.out] at h1; simp at h1; omega)
  clear hmx hc hC7 hPL hIN HF
  go_enter Tryd.func59, Tryd.ntmps59
  go_wp2_with fail
  refine (wrd9_calls _ _ _ _ _ _ _ _ _ _ HN.out HM.out HP.out HR.out hl HW.out HRX.out hlm HT.out).mono ?_
  rw [HC.out]
  rintro e w1 ⟨rfl, hb⟩
  have HB1 := Lib.hid hb
  have HR1 := Lib.hid (HR.out.below hb)
  clear hb
  go_wp2_with fail
  refine (dims7_calls _ _ _ _ _ HN.out HR1.out hl).mono ?_
  rintro e V ⟨Dm, rfl, ho, hb⟩
  have HBV := Lib.hid (blT HB1.out hb)
  have HDM : Hid (Row V Dm (nums .i64 (dimsA ax))) := Lib.hid ho.row
  clear ho hb HR1
  have HRV := Lib.hid (HR.out.below HBV.out)
  have HXV := Lib.hid (HRX.out.below HBV.out)
  have HTV := Lib.hid (HT.out.below HBV.out)
  obtain ⟨dm, rfl⟩ := HDM.out.some_of (by intro h0; have h1 := nums_length .i64 (dimsA ax); rw [h0, HDN.out] at h1; simp at h1; omega)
  go_wp2
  have hown := own_made V V.heap.size 41 (.slice none 0 0) n (Nat.le_refl _) (by omega)
  have hbel : Below V.heap.size V (V.alloc (.cells (madeCells #[.slice none 0 0] n) 41)) := (Below.refl _ _).alloc (Nat.le_refl _) _
  generalize (V.alloc (.cells (madeCells #[.slice none 0 0] n) 41)) = U at *
  have HO := Lib.hid hown
  have HB := Lib.hid hbel
  clear hown hbel hmk
  go_loopw [42] (fun q wr => ∃ (k : Nat) (vs : List Value), k ≤ n ∧ q = .int .i64 k ∧ Hid (Own wr V.heap.size 41 1 (some ⟨V.heap.size, 0, none⟩) n n vs) ∧ Hid (DoneT V.heap.size (wgL p ax inv r) k vs wr) ∧ Hid (Below V.heap.size V wr)) (fun q _ => n - (intOf q).toNat)
  case atStart => exact ⟨0, _, Nat.zero_le _, rfl, HO, Lib.hid (fun j hj => absurd hj (Nat.not_lt_zero _)), HB⟩
  case round =>
    obtain ⟨k, vs, hk, rfl, HO1, HD1, HB1'⟩ := hrel
    by_cases hlt : k < n
    · have hka : k < ax.length := by have := HN.out; omega
      obtain ⟨hc0, hc1⟩ := ax_cells (HRV.out.below HB1'.out) hka
      obtain ⟨I, hI1, hI2, hI3⟩ := HIS.out k hlt
      have HI1 := Lib.hid hI1
      have HI2 := Lib.hid hI2
      have hcI : IntKind.u64.wrap (I : Int) = (I : Int) := by rw [IntKind.wrap_u64]; omega
      have HCK := Lib.hid (chk7_at HC7.out hka)
      obtain ⟨hC6, hq1, hq4⟩ := chk7_one HCK.out
      have hga : ax.getD k (1, false) = ax[k] := by rw [List.getD_eq_getElem?_getD, List.getElem?_eq_getElem hka]; rfl
      have hgd : (dimsA ax).getD k 1 = ax[k].1 := by rw [dimsA_at ax hka 1, hga]
      have HGA := Lib.hid hga
      have HGD := Lib.hid hgd
      have HAI := Lib.hid (HW.out _ (List.getElem_mem hka))
      clear hI1 hI2 hC6 hga hgd
      generalize ax[k] = a at *
      obtain ⟨a0, a1⟩ := a
      dsimp only at hc0 hc1 hq1 hq4
      obtain ⟨D, rfl⟩ := Int.eq_ofNat_of_zero_le (show 0 ≤ a0 by omega)
      have HWT : Hid (∀ i : Nat, i < D → ∀ w', Tab w' → Calls Tryd.prog 57 #[.int .u64 p, .agg #[.int .i64 (D : Int), .bool a1], .bool inv, .int .i64 (i : Int), .int .u64 (powS p r I)] w' fun e w'' =>
          e = .returned (.tuple #[.int .u64 (wgF p ax inv r k i), .int .i64 0]) ∧ Below w'.heap.size w' w'') := Lib.hid fun i hi w' hT' => by
        have h1 := wgt_calls p (D : Int) a1 inv (i : Int) (powS p r I) w' HP.out HAI.out ⟨by omega, by omega⟩ (u64_powS _ _ _) hT'
        rw [wgtS, if_pos HCK.out, if_pos ⟨by omega, by dsimp only; omega⟩] at h1
        dsimp only at h1
        rw [Int.toNat_natCast, Int.toNat_natCast] at h1
        rw [wgF, HGA.out, HGD.out, Int.toNat_natCast, ← HI2.out]
        exact h1
      have HFL : Hid (fillL (wgF p ax inv r k) D D = wgL p ax inv r k ∧ (wgL p ax inv r k).length = D) := Lib.hid (by
        have e : ((dimsA ax).getD k 1).toNat = D := by rw [HGD.out]; simp
        refine ⟨?_, by rw [wgL_length, e]⟩
        rw [fillL_all, wgL, e])
      have HB2 := Lib.hid (HB1'.out.alloc HB1'.out.size (.cells #[.int .i64 (D : Int), .bool a1] 64))
      have hx0 : (wr.alloc (.cells #[.int .i64 (D : Int), .bool a1] 64)).cell? ⟨wr.heap.size, 0, none⟩ = some (.int .i64 (D : Int)) := World.news_of_block (cs := #[.int .i64 (D : Int), .bool a1]) (t := 64) (fr := (0, 0)) (heap_alloc_new wr _) 0 _ rfl
      have hx1 : (wr.alloc (.cells #[.int .i64 (D : Int), .bool a1] 64)).cell? ⟨wr.heap.size, 1, none⟩ = some (.bool a1) := World.news_of_block (cs := #[.int .i64 (D : Int), .bool a1]) (t := 64) (fr := (0, 0)) (heap_alloc_new wr _) 1 _ rfl
      have HX0 := Lib.hid hx0
      have HX1 := Lib.hid hx1
      have HAL : Hid (Below wr.heap.size wr (wr.alloc (.cells #[.int .i64 (D : Int), .bool a1] 64))) := Lib.hid ((Below.refl _ _).alloc (Nat.le_refl _) _)
      have HBX : Hid (V.heap.size < wr.heap.size ∧ wr.heap.size < (wr.alloc (.cells #[.int .i64 (D : Int), .bool a1] 64)).heap.size) := Lib.hid ⟨(Own.base HO1.out).2, by simp⟩
      clear hx0 hx1
      go_wp2_with fail
      generalize (wr.alloc (.cells #[.int .i64 (D : Int), .bool a1] 64)) = W2 at *
      generalize hbx : wr.heap.size = bx at *
      refine (inner_n _ _ _ (dimsA ax) (k : Int) _ HDN.out (HDM.out.below HB2.out) (by omega) (Nat.le_refl _) HDW.out ⟨by omega, by omega⟩).mono ?_
      rw [HI1.out]
      rintro e w3 ⟨rfl, rfl⟩
      go_wp2_with fail
      refine (HPC.out I _ hI3).mono ?_
      rintro e w4 ⟨rfl, hdr⟩
      have HDR := Lib.hid (hdr.below w3.heap.size)
      clear hdr
      have HB4 : Hid (Below V.heap.size V w4) := Lib.hid (HB2.out.trans (HDR.out.mono HB2.out.size))
      have HO4 : Hid (Own w4 V.heap.size 41 1 (some ⟨V.heap.size, 0, none⟩) n n vs) := Lib.hid ((HO1.out.grown (by rw [hbx]; exact HAL.out)).grown HDR.out)
      have HD4 : Hid (DoneT V.heap.size (wgL p ax inv r) k vs w4) := Lib.hid ((HD1.out.below (by rw [hbx]; exact HAL.out)).below HDR.out)
      have HX4 : Hid (w4.cell? ⟨bx, 0, none⟩ = some (.int .i64 (D : Int)) ∧ w4.cell? ⟨bx, 1, none⟩ = some (.bool a1) ∧ bx < w4.heap.size) := Lib.hid ⟨(HDR.out.cell HBX.out.2).trans HX0.out, (HDR.out.cell HBX.out.2).trans HX1.out, Nat.lt_of_lt_of_le HBX.out.2 HDR.out.size⟩
      have HBV4 : Hid (V.heap.size < bx) := Lib.hid HBX.out.1
      clear HO1 HD1 HB1' HB2 HX0 HX1 HAL HDR HBX hbx
      have hmk := make_u64 D (by omega)
      have HU0 : Hid (Own (w4.alloc (.cells (madeCells #[.int .u64 0] D) 40)) V.heap.size 41 1 (some ⟨V.heap.size, 0, none⟩) n n vs) := Lib.hid (HO4.out.grown ((Below.refl _ _).alloc (Nat.le_refl _) _))
      have HG0 : Hid (Own (w4.alloc (.cells (madeCells #[.int .u64 0] D) 40)) w4.heap.size 40 1 (some ⟨w4.heap.size, 0, none⟩) D D (nums .u64 (fillL (wgF p ax inv r k) D 0))) := Lib.hid (by
        have h1 := own_made w4 w4.heap.size 40 (.int .u64 0) D (Nat.le_refl _) (by omega)
        rw [nums_replicate, ← fillL_zero (wgF p ax inv r k)] at h1
        exact h1)
      have HGB : Hid (Below w4.heap.size w4 (w4.alloc (.cells (madeCells #[.int .u64 0] D) 40))) := Lib.hid ((Below.refl _ _).alloc (Nat.le_refl _) _)
      have hvl : k < vs.length := by have h1 := HO4.out.len; omega
      have hf : (w4.alloc (.cells (madeCells #[.int .u64 0] D) 40)).frozen? ⟨V.heap.size, k, none⟩ = false := HU0.out.frozenAt k
      have hco := HU0.out.cellAt k hlt
      rw [List.getElem?_eq_getElem hvl] at hco
      generalize vs[k] = old at *
      have HU1 : Hid (Own ((w4.alloc (.cells (madeCells #[.int .u64 0] D) 40)).setCell ⟨V.heap.size, k, none⟩ (.slice (some ⟨w4.heap.size, 0, none⟩) D D)) V.heap.size 41 1 (some ⟨V.heap.size, 0, none⟩) n n (vs.set k (.slice (some ⟨w4.heap.size, 0, none⟩) D D))) := Lib.hid (HU0.out.stored k _)
      have hcs : ((w4.alloc (.cells (madeCells #[.int .u64 0] D) 40)).setCell ⟨V.heap.size, k, none⟩ (.slice (some ⟨w4.heap.size, 0, none⟩) D D)).cell? ⟨V.heap.size, k, none⟩ = some (.slice (some ⟨w4.heap.size, 0, none⟩) D D) := by
        have h1 := HU1.out.cellAt k hlt
        rw [List.getElem?_set_self hvl] at h1
        exact h1
      have HCS := Lib.hid hcs
      have HVB : Hid (V.heap.size ≠ w4.heap.size ∧ V.heap.size < w4.heap.size ∧ bx < w4.heap.size) := Lib.hid (by have h1 := HX4.out.2.2; have h2 := HBV4.out; omega)
      have HGR : Hid (Grown V.heap.size (w4.alloc (.cells (madeCells #[.int .u64 0] D) 40)) ((w4.alloc (.cells (madeCells #[.int .u64 0] D) 40)).setCell ⟨V.heap.size, k, none⟩ (.slice (some ⟨w4.heap.size, 0, none⟩) D D))) := Lib.hid ((Grown.refl _ _).setCell k _)
      have HOG : Hid (Own ((w4.alloc (.cells (madeCells #[.int .u64 0] D) 40)).setCell ⟨V.heap.size, k, none⟩ (.slice (some ⟨w4.heap.size, 0, none⟩) D D)) w4.heap.size 40 1 (some ⟨w4.heap.size, 0, none⟩) D D (nums .u64 (fillL (wgF p ax inv r k) D 0))) := Lib.hid (HG0.out.off HGR.out (by have := HVB.out.1; omega))
      have HDO : Hid (DoneT V.heap.size (wgL p ax inv r) k (vs.set k (.slice (some ⟨w4.heap.size, 0, none⟩) D D)) ((w4.alloc (.cells (madeCells #[.int .u64 0] D) 40)).setCell ⟨V.heap.size, k, none⟩ (.slice (some ⟨w4.heap.size, 0, none⟩) D D))) := Lib.hid ((HD4.out.below HGB.out).setCell _)
      have HDL : Hid (∀ j, j < k → ∃ g, V.heap.size < g ∧ g < w4.heap.size ∧ (vs.set k (.slice (some ⟨w4.heap.size, 0, none⟩) D D))[j]? = some (.slice (some ⟨g, 0, none⟩) (wgL p ax inv r j).length (wgL p ax inv r j).length) ∧ Row ((w4.alloc (.cells (madeCells #[.int .u64 0] D) 40)).setCell ⟨V.heap.size, k, none⟩ (.slice (some ⟨w4.heap.size, 0, none⟩) D D)) (some ⟨g, 0, none⟩) (nums .u64 (wgL p ax inv r j))) := Lib.hid fun j hj => by
        obtain ⟨g, h1, h2, h3, h4⟩ := HD4.out j hj
        obtain ⟨g', k1, k2, k3, k4⟩ := HDO.out j hj
        have hsame : (vs.set k (.slice (some ⟨w4.heap.size, 0, none⟩) D D))[j]? = vs[j]? := List.getElem?_set_ne (by omega)
        rw [hsame, h3] at k3
        obtain rfl : g = g' := by simpa using k3
        exact ⟨g, h1, h2, by rw [hsame]; exact h3, k4⟩
      have HXU : Hid (((w4.alloc (.cells (madeCells #[.int .u64 0] D) 40)).setCell ⟨V.heap.size, k, none⟩ (.slice (some ⟨w4.heap.size, 0, none⟩) D D)).cell? ⟨bx, 0, none⟩ = some (.int .i64 (D : Int)) ∧ ((w4.alloc (.cells (madeCells #[.int .u64 0] D) 40)).setCell ⟨V.heap.size, k, none⟩ (.slice (some ⟨w4.heap.size, 0, none⟩) D D)).cell? ⟨bx, 1, none⟩ = some (.bool a1)) := Lib.hid
        ⟨HGR.out.cell (by have := HBV4.out; dsimp only; omega) ((HGB.out.cell HVB.out.2.2).trans HX4.out.1), HGR.out.cell (by have := HBV4.out; dsimp only; omega) ((HGB.out.cell HVB.out.2.2).trans HX4.out.2.1)⟩
      have HBU : Hid (Below V.heap.size V ((w4.alloc (.cells (madeCells #[.int .u64 0] D) 40)).setCell ⟨V.heap.size, k, none⟩ (.slice (some ⟨w4.heap.size, 0, none⟩) D D))) := Lib.hid ((HB4.out.alloc HB4.out.size _).setCell (Nat.le_refl _) _)
      have hx4 := HX4.out.1
      clear HO4 HD4 HU0 HG0 HGB HX4 HGR HDO hvl HB4
      go_wp2
      clear hx4
      generalize ((w4.alloc (.cells (madeCells #[.int .u64 0] D) 40)).setCell ⟨V.heap.size, k, none⟩ (.slice (some ⟨w4.heap.size, 0, none⟩) D D)) = U1 at *
      generalize hgg : w4.heap.size = g at *
      clear hco hf hmk hcs
      have HSC : Hid (∀ w', Grown g U1 w' → w'.cell? ⟨V.heap.size, k, none⟩ = some (.slice (some ⟨g, 0, none⟩) D D) ∧ w'.cell? ⟨bx, 0, none⟩ = some (.int .i64 (D : Int)) ∧ w'.cell? ⟨bx, 1, none⟩ = some (.bool a1)) := Lib.hid fun w' h =>
        ⟨h.cell HVB.out.1 HCS.out, h.cell (by have := HVB.out.2.2; dsimp only; omega) HXU.out.1, h.cell (by have := HVB.out.2.2; dsimp only; omega) HXU.out.2⟩
      go_hide hQ
      go_loopw [72] (fun q ws => ∃ i : Nat, i ≤ D ∧ q = .int .i64 i ∧ Hid (Own ws g 40 1 (some ⟨g, 0, none⟩) D D (nums .u64 (fillL (wgF p ax inv r k) D i))) ∧ Hid (Grown g U1 ws)) (fun q _ => D - (intOf q).toNat)
      case atStart => exact ⟨0, Nat.zero_le _, rfl, HOG, Lib.hid (Grown.refl _ _)⟩
      case round =>
        obtain ⟨i, hiD, rfl, HO2, HG2⟩ := hrel
        by_cases hit : i < D
        · have hcell := HSC.out _ HG2.out
          have HTT := Lib.hid (fun (w' : World) (h : Grown g U1 w') => HTV.out.below (HBU.out.trans (h.of_below (Nat.le_of_lt HVB.out.2.1) HBU.out.size)))
          have HFS := Lib.hid (fillL_set (wgF p ax inv r k) D i hit)
          go_wp2
          refine region_marks2 (k := 17) (S := (fun w' => w'.cell? ⟨V.heap.size, k, none⟩ = some (.slice (some ⟨g, 0, none⟩) D D) ∧ w'.cell? ⟨bx, 0, none⟩ = some (.int .i64 (D : Int)) ∧ w'.cell? ⟨bx, 1, none⟩ = some (.bool a1))) (T := fun i => decide (i < 16)) HMX.out rfl hcell (fun hS => ?_)
          clear hcell
          refine wpAnyT_take3 (i := 0) (v := ?_) rfl (by kernel_rfl) (by kernel_rfl) (by kernel_rfl) (by kernel_rfl) (by kernel_rfl) (fun _ _ _ h => h) hS (Or.inl ⟨by rfl, ?_⟩) ?_
          rotate_left
          · (intro w' hSw; (try dsimp only at hSw); go_simp; (try with_reducible rfl))
          (try simp only [Act.put, List.setIfInBounds_toArray, List.set_cons_zero, List.set_cons_succ])
          refine wpAnyT_take3 (i := 1) (v := ?_) rfl (by kernel_rfl) (by kernel_rfl) (by kernel_rfl) (by kernel_rfl) (by kernel_rfl) (fun _ _ _ h => h) hS (Or.inl ⟨by rfl, ?_⟩) ?_
          rotate_left
          · (intro w' hSw; (try dsimp only at hSw); go_simp; (try with_reducible rfl))
          (try simp only [Act.put, List.setIfInBounds_toArray, List.set_cons_zero, List.set_cons_succ])
          refine wpAnyT_take3 (i := 2) (v := ?_) rfl (by kernel_rfl) (by kernel_rfl) (by kernel_rfl) (by kernel_rfl) (by kernel_rfl) (fun _ _ _ h => h) hS (Or.inl ⟨by rfl, ?_⟩) ?_
          rotate_left
          · (intro w' hSw; (try dsimp only at hSw); go_simp; (try with_reducible rfl))
          (try simp only [Act.put, List.setIfInBounds_toArray, List.set_cons_zero, List.set_cons_succ])
          refine wpAnyT_take3 (i := 3) (v := ?_) rfl (by kernel_rfl) (by kernel_rfl) (by kernel_rfl) (by kernel_rfl) (by kernel_rfl) (fun _ _ _ h => h) hS (Or.inl ⟨by rfl, ?_⟩) ?_
          rotate_left
          · (intro w' hSw; (try dsimp only at hSw); go_simp; (try with_reducible rfl))
          (try simp only [Act.put, List.setIfInBounds_toArray, List.set_cons_zero, List.set_cons_succ])
          refine wpAnyT_take3 (i := 4) (v := ?_) rfl (by kernel_rfl) (by kernel_rfl) (by kernel_rfl) (by kernel_rfl) (by kernel_rfl) (fun _ _ _ h => h) hS (Or.inl ⟨by rfl, ?_⟩) ?_
          rotate_left
          · (intro w' hSw; (try dsimp only at hSw); go_simp; (try with_reducible rfl))
          (try simp only [Act.put, List.setIfInBounds_toArray, List.set_cons_zero, List.set_cons_succ])
          refine wpAnyT_take3 (i := 5) (v := ?_) rfl (by kernel_rfl) (by kernel_rfl) (by kernel_rfl) (by kernel_rfl) (by kernel_rfl) (fun _ _ _ h => h) hS (Or.inl ⟨by rfl, ?_⟩) ?_
          rotate_left
          · (intro w' hSw; (try dsimp only at hSw); go_simp; (try with_reducible rfl))
          (try simp only [Act.put, List.setIfInBounds_toArray, List.set_cons_zero, List.set_cons_succ])
          refine wpAnyT_take3 (i := 6) (v := ?_) rfl (by kernel_rfl) (by kernel_rfl) (by kernel_rfl) (by kernel_rfl) (by kernel_rfl) (fun _ _ _ h => h) hS (Or.inl ⟨by rfl, ?_⟩) ?_
          rotate_left
          · (intro w' hSw; (try dsimp only at hSw); go_simp; (try with_reducible rfl))
          (try simp only [Act.put, List.setIfInBounds_toArray, List.set_cons_zero, List.set_cons_succ])
          refine wpAnyT_take3 (i := 7) (v := ?_) rfl (by kernel_rfl) (by kernel_rfl) (by kernel_rfl) (by kernel_rfl) (by kernel_rfl) (fun _ _ _ h => h) hS (Or.inl ⟨by rfl, ?_⟩) ?_
          rotate_left
          · (intro w' hSw; (try dsimp only at hSw); go_simp; (try with_reducible rfl))
          (try simp only [Act.put, List.setIfInBounds_toArray, List.set_cons_zero, List.set_cons_succ])
          refine wpAnyT_take3 (i := 8) (v := ?_) rfl (by kernel_rfl) (by kernel_rfl) (by kernel_rfl) (by kernel_rfl) (by kernel_rfl) (fun _ _ _ h => h) hS (Or.inl ⟨by rfl, ?_⟩) ?_
          rotate_left
          · (intro w' hSw; (try dsimp only at hSw); go_simp; (try with_reducible rfl))
          (try simp only [Act.put, List.setIfInBounds_toArray, List.set_cons_zero, List.set_cons_succ])
          refine wpAnyT_take3 (i := 9) (v := ?_) rfl (by kernel_rfl) (by kernel_rfl) (by kernel_rfl) (by kernel_rfl) (by kernel_rfl) (fun _ _ _ h => h) hS (Or.inl ⟨by rfl, ?_⟩) ?_
          rotate_left
          · (intro w' hSw; (try dsimp only at hSw); go_simp; (try with_reducible rfl))
          (try simp only [Act.put, List.setIfInBounds_toArray, List.set_cons_zero, List.set_cons_succ])
          refine wpAnyT_one (i := 10) (by kernel_rfl) rfl (fun K hK => ?_)
          go_simp
          refine (HWT.out i hit _ (HTT.out _ (HG2.out.drewN 1))).mono ?_
          rintro e w6 ⟨rfl, hb⟩
          have HG6 := Lib.hid ((HG2.out.drewN 1).below hb)
          have HO6 := Lib.hid ((HO2.out.drewN 1).grown hb)
          have hf6 : w6.frozen? ⟨g, i, none⟩ = false := HO6.out.frozenAt i
          have hc6 := HO6.out.cellAt i hit
          rw [nums_get .u64 _ i (by rw [fillL_length]; exact hit)] at hc6
          have hS6 : w6.cell? ⟨V.heap.size, k, none⟩ = some (.slice (some ⟨g, 0, none⟩) D D) ∧ w6.cell? ⟨bx, 0, none⟩ = some (.int .i64 (D : Int)) ∧ w6.cell? ⟨bx, 1, none⟩ = some (.bool a1) := HSC.out _ HG6.out
          refine hK _ _ (fun _ => hS6) ?_
          clear hK K
          (try simp only [Act.put, List.setIfInBounds_toArray, List.set_cons_zero, List.set_cons_succ])
          have hS := hS6
          refine wpAnyT_take3 (i := 11) (v := ?_) rfl (by kernel_rfl) (by kernel_rfl) (by kernel_rfl) (by kernel_rfl) (by kernel_rfl) (fun _ _ _ h => h) hS (Or.inl ⟨by rfl, ?_⟩) ?_
          rotate_left
          · (intro w' hSw; (try dsimp only at hSw); go_simp; (try with_reducible rfl))
          (try simp only [Act.put, List.setIfInBounds_toArray, List.set_cons_zero, List.set_cons_succ])
          refine wpAnyT_take3 (i := 12) (v := ?_) rfl (by kernel_rfl) (by kernel_rfl) (by kernel_rfl) (by kernel_rfl) (by kernel_rfl) (fun _ _ _ h => h) hS (Or.inl ⟨by rfl, ?_⟩) ?_
          rotate_left
          · (intro w' hSw; (try dsimp only at hSw); go_simp; (try with_reducible rfl))
          (try simp only [Act.put, List.setIfInBounds_toArray, List.set_cons_zero, List.set_cons_succ])
          refine wpAnyT_take3 (i := 13) (v := ?_) rfl (by kernel_rfl) (by kernel_rfl) (by kernel_rfl) (by kernel_rfl) (by kernel_rfl) (fun _ _ _ h => h) hS (Or.inl ⟨by rfl, ?_⟩) ?_
          rotate_left
          · (intro w' hSw; (try dsimp only at hSw); go_simp; (try with_reducible rfl))
          (try simp only [Act.put, List.setIfInBounds_toArray, List.set_cons_zero, List.set_cons_succ])
          refine wpAnyT_take3 (i := 14) (v := ?_) rfl (by kernel_rfl) (by kernel_rfl) (by kernel_rfl) (by kernel_rfl) (by kernel_rfl) (fun _ _ _ h => h) hS (Or.inl ⟨by rfl, ?_⟩) ?_
          rotate_left
          · (intro w' hSw; (try dsimp only at hSw); go_simp; (try with_reducible rfl))
          (try simp only [Act.put, List.setIfInBounds_toArray, List.set_cons_zero, List.set_cons_succ])
          refine wpAnyT_one (i := 15) (by kernel_rfl) rfl (fun K hK => ?_)
          go_simp
          refine hK _ _ (fun _ => HSC.out _ (HG6.out.setCell i _)) ?_
          clear hK K
          (try simp only [Act.put, List.setIfInBounds_toArray, List.set_cons_zero, List.set_cons_succ])
          refine wpAnyT_one (i := 16) (by kernel_rfl) rfl (fun K hK => ?_)
          go_simp
          refine hK _ _ (fun h => by cases h) ?_
          clear hK K
          (try simp only [Act.put, List.setIfInBounds_toArray, List.set_cons_zero, List.set_cons_succ])
          refine wpAnyT_done (by kernel_rfl) ?_ _

          refine NoPanic.normal ?_
          have HO7 : Hid (Own (w6.setCell ⟨g, i, none⟩ (.int .u64 (wgF p ax inv r k i))) g 40 1 (some ⟨g, 0, none⟩) D D (nums .u64 (fillL (wgF p ax inv r k) D (i + 1)))) := Lib.hid (by
            have h1 := HO6.out.stored i (.int .u64 (wgF p ax inv r k i))
            rw [nums_set, HFS.out] at h1
            exact h1)
          have HG7 := Lib.hid (HG6.out.setCell i (.int .u64 (wgF p ax inv r k i)))
          go_wp2
          go_roundw
          case rel => exact ⟨i + 1, by omega, by go_num, HO7, HG7⟩
          case measure => simp [intOf]; omega
        · have hie : i = D := by omega
          have HOT : Hid (Own wr V.heap.size 41 1 (some ⟨V.heap.size, 0, none⟩) n n (vs.set k (.slice (some ⟨g, 0, none⟩) D D))) := Lib.hid (HU1.out.off HG2.out HVB.out.1)
          have HDT : Hid (DoneT V.heap.size (wgL p ax inv r) (k + 1) (vs.set k (.slice (some ⟨g, 0, none⟩) D D)) wr) := Lib.hid fun j hj => by
            by_cases hjk : j < k
            · obtain ⟨g', h1, h2, h3, h4⟩ := HDL.out j hjk
              exact ⟨g', h1, Nat.lt_trans h2 (Own.base HO2.out).2, h3, (RowX.grown ⟨h4, fun x hx => by cases hx; dsimp only; omega⟩ HG2.out).1⟩
            · obtain rfl : j = k := by omega
              have h1 := HO2.out
              rw [hie, HFL.out.1] at h1
              refine ⟨g, HVB.out.2.1, (Own.base HO2.out).2, ?_, h1.row⟩
              rw [HFL.out.2, List.getElem?_set_self (by have h2 := HU1.out.len; rw [List.length_set] at h2; omega)]
          have HBT : Hid (Below V.heap.size V wr) := Lib.hid (HBU.out.trans (HG2.out.of_below (Nat.le_of_lt HVB.out.2.1) HBU.out.size))
          clear hie
          go_wp2
          subst hQ
          go_wp2
          go_roundw
          case rel => exact ⟨k + 1, _, by omega, by go_num, HOT, HDT, HBT⟩
          case measure => simp [intOf]; omega
    · have hke : k = n := by omega
      have HDN4 : Hid (DoneT V.heap.size (wgL p ax inv r) n vs wr) := Lib.hid (by have h1 := HD1.out; rw [hke] at h1; exact h1)
      have HBW : Hid (Below w.heap.size w wr) := Lib.hid (blT HBV.out HB1'.out)
      clear hke
      generalize hwt : wr = WT at *
      clear hwt
      have HXT := Lib.hid (HXV.out.below HB1'.out)
      have HMT := Lib.hid (HDM.out.below HB1'.out)
      have HCF : Hid (∀ i : Nat, i < m → coordS (dimsA ax) i = (coordL (dimsA ax) i, 0) ∧ ∀ k, k < n → ∃ cc : Nat, (coordL (dimsA ax) i)[k]? = some (cc : Int) ∧ cc = (P.xv (dimsA ax) k i).toNat ∧ cc < (wgL p ax inv r k).length) := Lib.hid fun i hi => by
        refine ⟨?_, fun k hk => ?_⟩
        · rw [coordS, if_pos HC7.out.dims, if_pos ⟨by omega, by rw [HPL.out]; omega⟩]
        · have hkl : k < (coordL (dimsA ax) i).length := by rw [coordL_length, HDN.out]; exact hk
          have hat := (HC7.out.at (k := k) (by rw [HN.out]; exact hk)).1
          have hx := hat.xv (i : Int)
          obtain ⟨cc, hcc⟩ := Int.eq_ofNat_of_zero_le hx.1
          refine ⟨cc, ?_, by rw [hcc, Int.toNat_natCast], by rw [wgL_length]; omega⟩
          have h1 := coordL_at (dimsA ax) (i : Int) (k := k) (by rw [HDN.out]; exact hk)
          rw [List.getD_eq_getElem?_getD, List.getElem?_eq_getElem hkl] at h1
          rw [List.getElem?_eq_getElem hkl, ← hcc, xv_coord]
          exact congrArg some h1
      have HCL : Hid (∀ i : Nat, ((coordL (dimsA ax) i, (0 : Int)).1).length = n) := Lib.hid fun i => by dsimp only; rw [coordL_length, HDN.out]
      have HXS : Hid (∀ i, (hi : i < x.length) → prF p ax inv x r i 0 = x[i]) := Lib.hid fun i hi => by
        have h1 := in_at HIN.out HU.out hi
        have e : x.getD i 0 = x[i] := getD_at hi 0
        rw [e] at h1
        unfold prF
        rw [Pd, Int.mul_one, e, redS_small HC7.out.known h1.1 h1.2]
      have HSS : Hid (∀ i, addS p (smF p ax inv x r i) (prF p ax inv x r i n) = smF p ax inv x r (i + 1)) := Lib.hid fun i => by
        have h1 := smF_step p ax inv x r i
        rw [HN.out] at h1
        exact h1
      have hs0 : smF p ax inv x r 0 = 0 := by unfold smF; simp [S, redS_zero]
      go_wp2
      go_loopw [21, 97] (fun v q ws => ∃ i : Nat, i ≤ m ∧ q = .int .i64 i ∧ v = .int .u64 (smF p ax inv x r i) ∧ Hid (Below WT.heap.size WT ws)) (fun _ q _ => m - (intOf q).toNat)
      case atStart => exact ⟨0, Nat.zero_le _, rfl, by rw [hs0], Lib.hid (Below.refl _ _)⟩
      case round =>
        obtain ⟨i, him, rfl, rfl, HB2⟩ := hrel
        by_cases hit : i < m
        · have hix : i < x.length := by have := HM.out; omega
          obtain ⟨xa, rfl⟩ := HXT.out.some_of (by intro h0; have h1 := nums_length .u64 x; rw [h0] at h1; simp at h1; omega)
          have hcx := (HXT.out.below HB2.out).num hix
          have HX0 := Lib.hid (HXS.out i hix)
          have HUX := Lib.hid (HU.out _ (List.getElem_mem hix))
          obtain ⟨hk1, hk2⟩ := HCF.out i hit
          have HK1 := Lib.hid hk1
          have HK2 := Lib.hid hk2
          clear hk1 hk2 hs0
          generalize x[i] = xi at *
          go_wp2_with fail
          refine (coord_n _ _ _ (dimsA ax) (i : Int) _ HDN.out (HMT.out.below HB2.out) (by omega) HDW.out ⟨by omega, by omega⟩).mono ?_
          rw [HK1.out, HCL.out]
          rintro e w3 ⟨Cb, cb, rfl, ho, hb⟩
          have HB3 := Lib.hid (blT HB2.out hb)
          have HRC : Hid (Row w3 Cb (nums .i64 (coordL (dimsA ax) i))) := Lib.hid ho.row
          clear ho hb
          have HCLL : Hid ((coordL (dimsA ax) i).length = n) := Lib.hid (HCL.out i)
          obtain ⟨ca', rfl⟩ := HRC.out.some_of (by intro h0; have h1 := nums_length .i64 (coordL (dimsA ax) i); rw [h0, HCLL.out] at h1; simp at h1; omega)
          go_wp2
          go_hide hQ
          go_loopw [23, 113] (fun v q ws => ∃ k : Nat, k ≤ n ∧ q = .int .i64 k ∧ v = .int .u64 (prF p ax inv x r i k) ∧ Hid (Below w3.heap.size w3 ws)) (fun _ q _ => n - (intOf q).toNat)
          case atStart => exact ⟨0, Nat.zero_le _, rfl, by rw [HX0.out], Lib.hid (Below.refl _ _)⟩
          case round =>
            obtain ⟨k, hkn, rfl, rfl, HB4⟩ := hrel
            have HB5 := Lib.hid (blT HB3.out HB4.out)
            by_cases hkt : k < n
            · obtain ⟨cc, hcc, hcv, hcl⟩ := HK2.out k hkt
              obtain ⟨hkl, hkv⟩ := List.getElem?_eq_some_iff.1 hcc
              have hc0 := (HRC.out.below HB4.out).num hkl
              rw [hkv] at hc0
              obtain ⟨g, hg1, hg2, hg3, hg4⟩ := HDN4.out k hkt
              have hct : wr.cell? ⟨V.heap.size, k, none⟩ = some (.slice (some ⟨g, 0, none⟩) (wgL p ax inv r k).length (wgL p ax inv r k).length) := by
                have h1 := (HO1.out.grown HB5.out).cellAt k hkt
                rw [hg3] at h1
                exact h1
              have hcg := row_at (hg4.below HB5.out) hcl
              rw [wgL_at] at hcg
              have HPS : Hid (mulS p (prF p ax inv x r i k) (wgF p ax inv r k cc) = prF p ax inv x r i (k + 1)) := Lib.hid (by rw [hcv]; exact prF_step p ax inv x r i k)
              have HUW : Hid (U64 (wgF p ax inv r k cc)) := Lib.hid (by unfold wgF wghV; split <;> exact u64_mulS _ _ _)
              generalize (wgL p ax inv r k).length = Lk at *
              generalize wgF p ax inv r k cc = wg at *
              have hccL : cc < Lk := hcl
              clear hcc hcv hkv hg1 hg2 hg3 hg4 hkl
              go_wp2_with fail
              refine (mul_calls p (prF p ax inv x r i k) wg _ HP.out (u64_redS _ _) HUW.out).mono ?_
              rw [HPS.out]
              rintro e w6 ⟨rfl, ⟨q6, rfl⟩⟩
              go_wp2
              go_roundw
              case rel => exact ⟨k + 1, by omega, by go_num, rfl, Lib.hid (below_drewN HB4.out q6)⟩
              case measure => simp [intOf]; omega
            · have hke : k = n := by omega
              have HSI : Hid (addS p (smF p ax inv x r i) (prF p ax inv x r i k) = smF p ax inv x r (i + 1)) := Lib.hid (by rw [hke]; exact HSS.out i)
              clear hke
              go_wp2
              subst hQ
              go_wp2_with fail
              refine (add_calls p (smF p ax inv x r i) (prF p ax inv x r i k) _ HP.out (u64_redS _ _) (u64_redS _ _)).mono ?_
              rw [HSI.out]
              rintro e w7 ⟨rfl, rfl⟩
              go_wp2
              go_roundw
              case rel => exact ⟨i + 1, by omega, by go_num, rfl, HB5⟩
              case measure => simp [intOf]; omega
        · have hie : i = m := by omega
          have HEE : Hid (expF p ax inv x r = smF p ax inv x r i) := Lib.hid (by rw [hie]; exact HE.out.symm)
          have HBE : Hid (Below w.heap.size w wr) := Lib.hid (blT HBW.out HB2.out)
          clear hie
          go_wp2
          go_ret2
          exact ⟨by rw [HEE.out]; rfl, HBE.out⟩
end Go.Proofs.YtnlmmgcjhedjkaaDoor.P
