
/- The contract of package dft's Wrap. Conditions: words of their kinds; the slices read as lists; the library's table lies as it was laid. -/
import Derived.Test.YtnlmmgcjhedjkaaDoorDftL
namespace Go.Proofs.YtnlmmgcjhedjkaaDoor.P
open Go.RowKit
set_option linter.unusedVariables false
set_option linter.unusedSimpArgs false
/-- The row of a product that goes around, when i words, and j of the next, are over. -/
def wrO (p : Int) (neg : Bool) (n : Nat) (x y : List Int) (i j m : Nat) : Int := redS p (S i (fun i' => S n (fun j' => wrT neg n x y m i' j')) + S j (fun j' => wrT neg n x y m i j'))
def wrOL (p : Int) (neg : Bool) (n : Nat) (x y : List Int) (i j : Nat) : List Int := (List.range n).map (wrO p neg n x y i j)
theorem wrOL_length (p : Int) (neg : Bool) (n : Nat) (x y : List Int) (i j : Nat) : (wrOL p neg n x y i j).length = n := by simp [wrOL]
theorem wrOL_at (p : Int) (neg : Bool) (n : Nat) (x y : List Int) (i j : Nat) {m : Nat} (h : m < n) : (wrOL p neg n x y i j)[m]'(by rw [wrOL_length]; exact h) = wrO p neg n x y i j m := by simp [wrOL]
theorem wrOL_start (p : Int) (neg : Bool) (n : Nat) (x y : List Int) : wrOL p neg n x y 0 0 = List.replicate n 0 := by
  apply List.ext_getElem
  · simp [wrOL]
  · intro m h1 h2
    have hm : m < n := by rw [wrOL_length] at h1; exact h1
    rw [wrOL_at _ _ _ _ _ _ _ hm]
    simp [wrO, S, redS_zero]
theorem wrOL_next (p : Int) (neg : Bool) (n : Nat) (x y : List Int) (i : Nat) : wrOL p neg n x y i n = wrOL p neg n x y (i + 1) 0 := by
  unfold wrOL
  congr 1
  funext m
  unfold wrO
  rw [show S (i + 1) (fun i' => S n (fun j' => wrT neg n x y m i' j')) = S i (fun i' => S n (fun j' => wrT neg n x y m i' j')) + S n (fun j' => wrT neg n x y m i j') from rfl]
  rw [show S 0 (fun j' => wrT neg n x y m (i + 1) j') = 0 from rfl, Int.add_zero]
theorem wrOL_all (p : Int) (neg : Bool) (x y : List Int) : wrOL p neg x.length x y x.length 0 = wrL p neg x y := by
  unfold wrOL wrL
  congr 1
  funext m
  unfold wrO wrF
  rw [show S 0 (fun j' => wrT neg x.length x y m x.length j') = 0 from rfl, Int.add_zero]
theorem wrO_step {p : Int} {neg : Bool} {n : Nat} {x y : List Int} {i j m : Nat} : wrO p neg n x y i (j + 1) m = redS p (wrO p neg n x y i j m + wrT neg n x y m i j) := by
  unfold wrO
  rw [redS_add_left, show S (j + 1) (fun j' => wrT neg n x y m i j') = S j (fun j' => wrT neg n x y m i j') + wrT neg n x y m i j from rfl, Int.add_assoc]
theorem wrO_red (p : Int) (neg : Bool) (n : Nat) (x y : List Int) (i j m : Nat) : redS p (wrO p neg n x y i j m) = wrO p neg n x y i j m := redS_redS _ _
theorem u64_wrO (p : Int) (neg : Bool) (n : Nat) (x y : List Int) (i j m : Nat) : U64 (wrO p neg n x y i j m) := u64_redS _ _
theorem wrOL_set {p : Int} {neg : Bool} {n : Nat} {x y : List Int} {i j a : Nat} (ha : (i + j) % n = a) (han : a < n) {v : Int} (hv : v = redS p (wrO p neg n x y i j a + wrT neg n x y a i j)) :
    (wrOL p neg n x y i j).set a v = wrOL p neg n x y i (j + 1) := by
  apply List.ext_getElem
  · simp [wrOL]
  · intro m h1 h2
    have hm : m < n := by rw [wrOL_length] at h2; exact h2
    rw [List.getElem_set, wrOL_at p neg n x y i (j + 1) hm, wrO_step]
    split
    · rename_i e; subst e; exact hv
    · rename_i e
      rw [wrOL_at _ _ _ _ _ _ _ hm, wrT, if_neg (fun h => e (by omega)), Int.add_zero, wrO_red]
theorem wr_add {p : Int} {neg : Bool} {n : Nat} {x y : List Int} {i j a : Nat} (ha : (i + j) % n = a) (h : (neg && decide (n ≤ i + j)) = false) (hi : i < x.length) (hj : j < y.length) :
    addS p (wrO p neg n x y i j a) (mulS p x[i] y[j]) = redS p (wrO p neg n x y i j a + wrT neg n x y a i j) := by
  rw [wrT, if_pos ha, h, if_neg (by decide)]
  unfold addS mulS
  rw [redS_add_right, List.getD_eq_getElem?_getD, List.getElem?_eq_getElem hi, List.getD_eq_getElem?_getD, List.getElem?_eq_getElem hj]
  rfl
theorem wr_sub {p : Int} {neg : Bool} {n : Nat} {x y : List Int} {i j a : Nat} (ha : (i + j) % n = a) (h : (neg && decide (n ≤ i + j)) = true) (hi : i < x.length) (hj : j < y.length) :
    subS p (wrO p neg n x y i j a) (mulS p x[i] y[j]) = redS p (wrO p neg n x y i j a + wrT neg n x y a i j) := by
  rw [wrT, if_pos ha, h, if_pos rfl]
  unfold subS mulS
  rw [redS_sub_right, List.getD_eq_getElem?_getD, List.getElem?_eq_getElem hi, List.getD_eq_getElem?_getD, List.getElem?_eq_getElem hj, Int.sub_eq_add_neg]
  rfl
/-- One of two lines, as Wrap goes through them. -/
structure WrAt (p : Int) (neg : Bool) (x y : List Int) (w W : World) (i : Nat) (A : Option Addr) (n c : Nat) (z : List Int) : Prop where
  cell : ∀ W', Below W.heap.size W W' → W'.cell? ⟨w.heap.size, i, none⟩ = some (.slice A n c)
  len : z.length = n
  row : Row w A (nums .u64 z)
  small : n ≤ 9223372036854775807
  err : chk6 p z neg ≠ 0 → (0 < i → chk6 p x neg = 0) → wrS p neg x y = ([], chk6 p z neg)
  ok : chk6 p z neg = 0 → (0 < i → chk6 p x neg = 0) → (0 < i + 1 → chk6 p x neg = 0) ∧ (1 < i + 1 → chk6 p y neg = 0)
theorem wrAt_of {p : Int} {neg : Bool} {x y : List Int} {w W : World} {A B : Option Addr} {n ca m cb : Nat} (hW : W.heap[w.heap.size]? = some (.cells #[.slice A n ca, .slice B m cb] 41)) (hs : w.heap.size < W.heap.size)
    (hn : x.length = n) (hm : y.length = m) (hr : Row w A (nums .u64 x)) (hrv : Row w B (nums .u64 y)) (hl : n ≤ 9223372036854775807) (hlm : m ≤ 9223372036854775807) {i : Nat} (hi : i < 2) : ∃ A' n' c' z, WrAt p neg x y w W i A' n' c' z := by
  have hc : ∀ W', Below W.heap.size W W' → ∀ i u, (#[Value.slice A n ca, .slice B m cb] : Array Value).toList[i]? = some u → W'.cell? ((⟨w.heap.size, 0, none⟩ : Addr).add i) = some u := fun W' hb => by
    have h1 : W'.heap[w.heap.size]? = some (.cells #[.slice A n ca, .slice B m cb] 41) := by rw [hb.block _ hs]; exact hW
    exact World.news_of_block (cs := #[.slice A n ca, .slice B m cb]) (t := 41) (fr := (0, 0)) h1
  match i, hi with
  | 0, _ =>
    refine ⟨A, n, ca, x, fun W' hb => hc W' hb 0 _ rfl, hn, hr, hl, fun h _ => by rw [wrS, if_neg h], fun h _ => ⟨fun _ => h, fun h1 => by omega⟩⟩
  | 1, _ =>
    refine ⟨B, m, cb, y, fun W' hb => hc W' hb 1 _ rfl, hm, hrv, hlm, fun h h0 => by rw [wrS, if_pos (h0 (by decide)), if_neg h], fun h h0 => ⟨fun _ => h0 (by decide), fun _ => h⟩⟩
set_option maxRecDepth 100000 in
set_option maxHeartbeats 4000000 in
theorem wrap6_calls (p : Int) (A : Option Addr) (ca n : Nat) (x : List Int) (B : Option Addr) (cb m : Nat) (y : List Int) (neg : Bool) (w : World) (hn : x.length = n) (hm : y.length = m) (hp : U64 p)
    (hr : Row w A (nums .u64 x)) (hl : n ≤ 9223372036854775807) (hw : ∀ d ∈ x, U64 d) (hrv : Row w B (nums .u64 y)) (hlm : m ≤ 9223372036854775807) (hwv : ∀ d ∈ y, U64 d) (hT : Tab w) :
    Calls Tryd.prog 32 #[.int .u64 p, .slice A n ca, .slice B m cb, .bool neg] w fun e w' => ∃ Z z,
      e = .returned (.tuple #[.slice Z (wrS p neg x y).1.length z, .int .i64 (wrS p neg x y).2]) ∧ Own w' w.heap.size 40 1 Z (wrS p neg x y).1.length z (nums .u64 (wrS p neg x y).1) ∧ Below w.heap.size w w' := by
  have HP := Lib.hid hp
  have HR := Lib.hid hr
  have HRV := Lib.hid hrv
  have HT := Lib.hid hT
  have HW := Lib.hid hw
  have HWV := Lib.hid hwv
  have HN := Lib.hid hn
  have HM := Lib.hid hm
  have HL := Lib.hid hl
  have HLM := Lib.hid hlm
  have hmx : Tryd.prog.follows .mixedOrders = true := by kernel_rfl
  have HMX := Lib.hid hmx
  clear hp hr hrv hT hw hwv hn hm hmx
  go_enter Tryd.func32, Tryd.ntmps32
  go_wp2
  have HB0 : Hid (Below w.heap.size w (w.alloc (.cells #[.slice A n ca, .slice B m cb] 41))) := Lib.hid ((Below.refl _ _).alloc (Nat.le_refl _) _)
  have HWA : Hid (∀ i, i < 2 → ∃ A' n' c' z, WrAt p neg x y w (w.alloc (.cells #[.slice A n ca, .slice B m cb] 41)) i A' n' c' z) := Lib.hid fun i hi => wrAt_of (heap_alloc_new w _) (by simp) HN.out HM.out HR.out HRV.out HL.out HLM.out hi
  generalize hW : (w.alloc (.cells #[.slice A n ca, .slice B m cb] 41)) = W at *
  have HTW := Lib.hid (HT.out.below HB0.out)
  have HWE := Lib.hid hW
  clear hW
  go_loopw [25] (fun q wr => ∃ i : Nat, i ≤ 2 ∧ q = .int .i64 i ∧ Hid (0 < i → chk6 p x neg = 0) ∧ Hid (1 < i → chk6 p y neg = 0) ∧ Hid (Below W.heap.size W wr)) (fun q _ => 2 - (intOf q).toNat)
  case atStart => exact ⟨0, by decide, rfl, Lib.hid (fun h => absurd h (by decide)), Lib.hid (fun h => absurd h (by decide)), Lib.hid (by rw [← HWE.out]; exact Below.refl _ _)⟩
  case round =>
    obtain ⟨i, hi2, rfl, HX0, HY0, HB1⟩ := hrel
    by_cases hi : i < 2
    · obtain ⟨Z, k, c, z, hz⟩ := HWA.out i hi
      have HZ := Lib.hid hz
      have hc := hz.cell wr HB1.out
      have HBW := Lib.hid (blT HB0.out HB1.out)
      clear hz
      go_wp2_with fail
      refine (chk6_calls p Z c k z neg wr HZ.out.len HP.out (HZ.out.row.below HBW.out) HZ.out.small (HTW.out.below HB1.out)).mono ?_
      rintro e w2 ⟨rfl, hb⟩
      have HB2 : Hid (Below W.heap.size W w2) := Lib.hid (blT HB1.out hb)
      clear hb hc
      by_cases hck : chk6 p z neg = 0
      · obtain ⟨q1, q2⟩ := HZ.out.ok hck HX0.out
        have HX1 := Lib.hid q1
        have HY1 := Lib.hid q2
        have t0 : (chk6 p z neg != 0) = false := by simpa using hck
        clear q1 q2
        go_wp2
        go_roundw
        case rel => exact ⟨i + 1, by omega, by go_num, HX1, HY1, HB2⟩
        case measure => simp [intOf]; omega
      · have HF := Lib.hid (HZ.out.err hck HX0.out)
        have t0 : (chk6 p z neg != 0) = true := by simpa using hck
        have HBE := Lib.hid (blT HB0.out HB2.out)
        clear hck
        go_wp2
        go_ret2
        exact ⟨none, 0, by rw [HF.out]; rfl, by rw [HF.out]; exact Own.nil _ _ _ _, HBE.out⟩
    · have hie : i = 2 := by omega
      have hcx := HX0.out (by omega)
      have hcy := HY0.out (by omega)
      have HBW := Lib.hid (blT HB0.out HB1.out)
      by_cases hnm : m = n
      case neg =>
        have HF : Hid (wrS p neg x y = ([], 6)) := Lib.hid (by rw [wrS, if_pos hcx, if_pos hcy, if_neg (by rw [HN.out, HM.out]; exact hnm)])
        have t0 : ((m : Int) != (n : Int)) = true := by simp; omega
        clear hcx hcy hnm
        go_wp2
        go_ret2
        exact ⟨none, 0, by rw [HF.out]; rfl, by rw [HF.out]; exact Own.nil _ _ _ _, HBW.out⟩
      subst hnm
      have HF : Hid (wrS p neg x y = (wrL p neg x y, 0)) := Lib.hid (by rw [wrS, if_pos hcx, if_pos hcy, if_pos (by rw [HN.out, HM.out])])
      have hk := (chk6_ok hcx).1
      have hn1 : 1 ≤ m := by have := hk.n1; have := HN.out; omega
      have hn4 : m ≤ 4096 := by have := hk.n2; have := HN.out; omega
      have HWL : Hid ((wrL p neg x y).length = m) := Lib.hid (by rw [wrL_length]; exact HN.out)
      have HWF : Hid (wrOL p neg m x y m 0 = wrL p neg x y) := Lib.hid (by have h1 := wrOL_all p neg x y; rw [HN.out] at h1; exact h1)
      have hmk := make_u64 m (by omega)
      have t0 : ((m : Int) != (m : Int)) = false := by simp
      have HR1 := Lib.hid (HR.out.below HBW.out)
      have HRV1 := Lib.hid (HRV.out.below HBW.out)
      obtain ⟨xa, rfl⟩ := HR1.out.some_of (by intro h0; have h1 := nums_length .u64 x; rw [h0, HN.out] at h1; simp at h1; omega)
      obtain ⟨ya, rfl⟩ := HRV1.out.some_of (by intro h0; have h1 := nums_length .u64 y; rw [h0, HM.out] at h1; simp at h1; omega)
      clear hcx hcy hk hie
      go_wp2
      have hown := own_made wr wr.heap.size 40 (.int .u64 0) m (Nat.le_refl _) (by omega)
      have hbel : Below wr.heap.size wr (wr.alloc (.cells (madeCells #[.int .u64 0] m) 40)) := (Below.refl _ _).alloc (Nat.le_refl _) _
      rw [nums_replicate, ← wrOL_start p neg m x y] at hown
      obtain ⟨KB, hKB⟩ : ∃ KB : World → Prop, KB = fun ws => Below wr.heap.size wr ws := ⟨_, rfl⟩
      have hkv : KB (wr.alloc (.cells (madeCells #[.int .u64 0] m) 40)) := by rw [hKB]; exact hbel
      have HKB : Hid (∀ ws, KB ws → Below w.heap.size w ws) := Lib.hid fun ws h => by rw [hKB] at h; exact blT HBW.out h
      have HKX : Hid (∀ ws, KB ws → Row ws (some xa) (nums .u64 x)) := Lib.hid fun ws h => by rw [hKB] at h; exact HR1.out.below h
      have HKY : Hid (∀ ws, KB ws → Row ws (some ya) (nums .u64 y)) := Lib.hid fun ws h => by rw [hKB] at h; exact HRV1.out.below h
      have HKD : Hid (∀ ws q, KB ws → KB (ws.drewN q)) := Lib.hid fun ws q h => by rw [hKB] at h ⊢; exact below_drewN h q
      have HKS : Hid (∀ ws (a : Nat) v, KB ws → KB (ws.setCell ⟨wr.heap.size, a, none⟩ v)) := Lib.hid fun ws a v h => by rw [hKB] at h ⊢; exact h.setCell (Nat.le_refl _) v
      have hgs : w.heap.size ≤ wr.heap.size := HBW.out.size
      have HGS := Lib.hid hgs
      generalize (wr.alloc (.cells (madeCells #[.int .u64 0] m) 40)) = V at *
      generalize wr.heap.size = gs at *
      have HO := Lib.hid hown
      clear hown hbel hmk hgs hKB
      go_hide hQ0
      go_loopw [47] (fun q ws => ∃ i : Nat, i ≤ m ∧ q = .int .i64 i ∧ Hid (Own ws gs 40 1 (some ⟨gs, 0, none⟩) m m (nums .u64 (wrOL p neg m x y i 0))) ∧ KB ws) (fun q _ => m - (intOf q).toNat)
      case atStart => exact ⟨0, Nat.zero_le _, rfl, HO, hkv⟩
      case round =>
        obtain ⟨i, him, rfl, HO2, hk2⟩ := hrel
        by_cases hilt : i < m
        · have hix : i < x.length := by rw [HN.out]; exact hilt
          have hcx : wr.cell? (xa.add i) = some (.int .u64 x[i]) := (HKX.out _ hk2).num hix
          have HUX : Hid (U64 x[i]) := Lib.hid (HW.out _ (List.getElem_mem hix))
          have HXI : Hid (∀ (j : Nat) (hj : j < y.length) (a : Nat), (i + j) % m = a → a < m → ((neg && decide (m ≤ i + j)) = false → (wrOL p neg m x y i j).set a (addS p (wrO p neg m x y i j a) (mulS p x[i] y[j])) = wrOL p neg m x y i (j + 1)) ∧
            ((neg && decide (m ≤ i + j)) = true → (wrOL p neg m x y i j).set a (subS p (wrO p neg m x y i j a) (mulS p x[i] y[j])) = wrOL p neg m x y i (j + 1))) := Lib.hid fun j hj a ha ham =>
            ⟨fun h => wrOL_set ha ham (wr_add ha h hix hj), fun h => wrOL_set ha ham (wr_sub ha h hix hj)⟩
          generalize x[i] = u at *
          go_wp2
          go_hide hQ
          go_loopw [54] (fun q wt => ∃ j : Nat, j ≤ m ∧ q = .int .i64 j ∧ Hid (Own wt gs 40 1 (some ⟨gs, 0, none⟩) m m (nums .u64 (wrOL p neg m x y i j))) ∧ KB wt) (fun q _ => m - (intOf q).toNat)
          case atStart => exact ⟨0, Nat.zero_le _, rfl, HO2, hk2⟩
          case round =>
            obtain ⟨j, hjm, rfl, HO3, hk3⟩ := hrel
            by_cases hjlt : j < m
            · have hjy : j < y.length := by rw [HM.out]; exact hjlt
              have hcy : wr.cell? (ya.add j) = some (.int .u64 y[j]) := (HKY.out _ hk3).num hjy
              have HUY : Hid (U64 y[j]) := Lib.hid (HWV.out _ (List.getElem_mem hjy))
              have hw1 : IntKind.i64.wrap ((i : Int) + (j : Int)) = ((i + j : Nat) : Int) := by rw [wrapI (by omega) (by omega)]; push_cast; rfl
              have hw2 : wrap64 ((i : Int) + (j : Int)) = ((i + j : Nat) : Int) := by rw [wrap64_id ⟨by omega, by omega⟩]; push_cast; rfl
              have HXJ := Lib.hid (fun a => HXI.out j hjy a)
              generalize y[j] = v at *
              obtain ⟨a, ham, haa, hcase⟩ : ∃ a, a < m ∧ (i + j) % m = a ∧ ((a = i + j ∧ i + j < m) ∨ (a + m = i + j)) := by
                by_cases h : i + j < m
                · exact ⟨i + j, h, Nat.mod_eq_of_lt h, .inl ⟨rfl, h⟩⟩
                · exact ⟨i + j - m, by omega, by rw [Nat.mod_eq_sub_mod (by omega), Nat.mod_eq_of_lt (by omega)], .inr (by omega)⟩
              have hXA := HXJ.out a haa ham
              have HXA := Lib.hid hXA
              have hco : wr.cell? ⟨gs, a, none⟩ = some (.int .u64 (wrO p neg m x y i j a)) := by
                rw [HO3.out.cellAt a ham, nums_get .u64 _ a (by rw [wrOL_length]; exact ham), wrOL_at _ _ _ _ _ _ _ ham]
              have hfo : wr.frozen? ⟨gs, a, none⟩ = false := HO3.out.frozenAt a
              have HOU := Lib.hid (u64_wrO p neg m x y i j a)
              have hS0 := hXA.1
              clear hXA hS0 HXJ
              generalize wrO p neg m x y i j a = old at *
              have HSOG : Hid (∀ new, (wrOL p neg m x y i j).set a new = wrOL p neg m x y i (j + 1) → ∀ q, Own ((wr.drewN q).setCell ⟨gs, a, none⟩ (.int .u64 new)) gs 40 1 (some ⟨gs, 0, none⟩) m m (nums .u64 (wrOL p neg m x y i (j + 1)))) := Lib.hid fun new hst q => by
                have h1 := (HO3.out.drewN q).stored a (.int .u64 new)
                rw [nums_set, hst] at h1
                exact h1
              rcases hcase with ⟨hae, hlt⟩ | hge
              case' inl =>
                have hd : decide (m ≤ i + j) = false := by simp; omega
                have hd1 : decide ((m : Int) ≤ ((i + j : Nat) : Int)) = false := by simp; omega
                have HST := Lib.hid (HXA.out.1 (by rw [hd, Bool.and_false]))
                have HADD : Hid (∀ w, Calls Tryd.prog 39 #[.int .u64 p, .int .u64 old, .int .u64 (mulS p u v)] w fun e w' => e = .returned (.int .u64 (addS p old (mulS p u v))) ∧ w' = w) := Lib.hid fun w => add_calls p old _ w HP.out HOU.out (u64_mulS _ _ _)
                generalize addS p old (mulS p u v) = new at *
                generalize hij : i + j = ij at *
                subst hae
              case' inr =>
                have hd : decide (m ≤ i + j) = true := by simp; omega
                have hd1 : decide ((m : Int) ≤ ((i + j : Nat) : Int)) = true := by simp; omega
                have hsb : IntKind.i64.wrap (((i + j : Nat) : Int) - (m : Int)) = (a : Int) := by rw [wrapI (by omega) (by omega)]; omega
                have hsb2 : wrap64 (((i + j : Nat) : Int) - (m : Int)) = (a : Int) := by rw [wrap64_id ⟨by omega, by omega⟩]; omega
                rw [hd, Bool.and_true] at HXA
                generalize hij : i + j = ij at *
                cases neg
              case' inr.false =>
                have HST := Lib.hid (HXA.out.1 rfl)
                have HADD : Hid (∀ w, Calls Tryd.prog 39 #[.int .u64 p, .int .u64 old, .int .u64 (mulS p u v)] w fun e w' => e = .returned (.int .u64 (addS p old (mulS p u v))) ∧ w' = w) := Lib.hid fun w => add_calls p old _ w HP.out HOU.out (u64_mulS _ _ _)
                generalize addS p old (mulS p u v) = new at *
              case' inr.true =>
                have HST := Lib.hid (HXA.out.2 rfl)
                have HADD : Hid (∀ w, Calls Tryd.prog 72 #[.int .u64 p, .int .u64 old, .int .u64 (mulS p u v)] w fun e w' => e = .returned (.int .u64 (subS p old (mulS p u v))) ∧ w' = w) := Lib.hid fun w => sub_calls p old _ w HP.out HOU.out (u64_mulS _ _ _)
                generalize subS p old (mulS p u v) = new at *
              all_goals
                have HSO := Lib.hid (HSOG.out new HST.out)
                clear HSOG
                clear HXA
                go_wp2
                refine region_marks2 (k := 15) (S := (fun w' => w'.cell? ⟨gs, a, none⟩ = some (.int .u64 old))) (T := fun i => decide (i < 14)) HMX.out rfl hco (fun hS => ?_)
                refine wpAnyT_take3 (i := 0) (v := ?_) rfl (by kernel_rfl) (by kernel_rfl) (by kernel_rfl) (by kernel_rfl) (by kernel_rfl) (fun _ _ _ h => h) hS (Or.inl ⟨by rfl, ?_⟩) ?_
                rotate_left
                · (intro w' hSw; (try dsimp only at hSw); go_simp; (try with_reducible rfl))
                (try simp only [Act.put, List.setIfInBounds_toArray, List.set_cons_zero, List.set_cons_succ])
                refine wpAnyT_take3 (i := 1) (v := ?_) rfl (by kernel_rfl) (by kernel_rfl) (by kernel_rfl) (by kernel_rfl) (by kernel_rfl) (fun _ _ _ h => h) hS (Or.inl ⟨by rfl, ?_⟩) ?_
                rotate_left
                · (intro w' hSw; (try dsimp only at hSw); go_simp; (try with_reducible rfl))
                (try simp only [Act.put, List.setIfInBounds_toArray, List.set_cons_zero, List.set_cons_succ])
                refine wpAnyT_take3 (i := 2) (v := ?_) rfl (by kernel_rfl) (by kernel_rfl) (by kernel_rfl) (by kernel_rfl) (by kernel_rfl) (fun _ _ _ h => h) hS (Or.inl ⟨by rfl, ?_⟩) ?_
                rotate_left
                · (intro w' hSw; (try dsimp only at hSw); go_simp; (try with_reducible rfl))
                (try simp only [Act.put, List.setIfInBounds_toArray, List.set_cons_zero, List.set_cons_succ])
                refine wpAnyT_take3 (i := 3) (v := ?_) rfl (by kernel_rfl) (by kernel_rfl) (by kernel_rfl) (by kernel_rfl) (by kernel_rfl) (fun _ _ _ h => h) hS (Or.inl ⟨by rfl, ?_⟩) ?_
                rotate_left
                · (intro w' hSw; (try dsimp only at hSw); go_simp; (try with_reducible rfl))
                (try simp only [Act.put, List.setIfInBounds_toArray, List.set_cons_zero, List.set_cons_succ])
                refine wpAnyT_take3 (i := 4) (v := ?_) rfl (by kernel_rfl) (by kernel_rfl) (by kernel_rfl) (by kernel_rfl) (by kernel_rfl) (fun _ _ _ h => h) hS (Or.inl ⟨by rfl, ?_⟩) ?_
                rotate_left
                · (intro w' hSw; (try dsimp only at hSw); go_simp; (try with_reducible rfl))
                (try simp only [Act.put, List.setIfInBounds_toArray, List.set_cons_zero, List.set_cons_succ])
                refine wpAnyT_take3 (i := 5) (v := ?_) rfl (by kernel_rfl) (by kernel_rfl) (by kernel_rfl) (by kernel_rfl) (by kernel_rfl) (fun _ _ _ h => h) hS (Or.inl ⟨by rfl, ?_⟩) ?_
                rotate_left
                · (intro w' hSw; (try dsimp only at hSw); go_simp; (try with_reducible rfl))
                (try simp only [Act.put, List.setIfInBounds_toArray, List.set_cons_zero, List.set_cons_succ])
                refine wpAnyT_take3 (i := 6) (v := ?_) rfl (by kernel_rfl) (by kernel_rfl) (by kernel_rfl) (by kernel_rfl) (by kernel_rfl) (fun _ _ _ h => h) hS (Or.inl ⟨by rfl, ?_⟩) ?_
                rotate_left
                · (intro w' hSw; (try dsimp only at hSw); go_simp; (try with_reducible rfl))
                (try simp only [Act.put, List.setIfInBounds_toArray, List.set_cons_zero, List.set_cons_succ])
                refine wpAnyT_take3 (i := 7) (v := ?_) rfl (by kernel_rfl) (by kernel_rfl) (by kernel_rfl) (by kernel_rfl) (by kernel_rfl) (fun _ _ _ h => h) hS (Or.inl ⟨by rfl, ?_⟩) ?_
                rotate_left
                · (intro w' hSw; (try dsimp only at hSw); go_simp; (try with_reducible rfl))
                (try simp only [Act.put, List.setIfInBounds_toArray, List.set_cons_zero, List.set_cons_succ])
                refine wpAnyT_take3 (i := 8) (v := ?_) rfl (by kernel_rfl) (by kernel_rfl) (by kernel_rfl) (by kernel_rfl) (by kernel_rfl) (fun _ _ _ h => h) hS (Or.inl ⟨by rfl, ?_⟩) ?_
                rotate_left
                · (intro w' hSw; (try dsimp only at hSw); go_simp; (try with_reducible rfl))
                (try simp only [Act.put, List.setIfInBounds_toArray, List.set_cons_zero, List.set_cons_succ])
                refine wpAnyT_take3 (i := 9) (v := ?_) rfl (by kernel_rfl) (by kernel_rfl) (by kernel_rfl) (by kernel_rfl) (by kernel_rfl) (fun _ _ _ h => h) hS (Or.inl ⟨by rfl, ?_⟩) ?_
                rotate_left
                · (intro w' hSw; (try dsimp only at hSw); go_simp; (try with_reducible rfl))
                (try simp only [Act.put, List.setIfInBounds_toArray, List.set_cons_zero, List.set_cons_succ])
                refine wpAnyT_take3 (i := 10) (v := ?_) rfl (by kernel_rfl) (by kernel_rfl) (by kernel_rfl) (by kernel_rfl) (by kernel_rfl) (fun _ _ _ h => h) hS (Or.inl ⟨by rfl, ?_⟩) ?_
                rotate_left
                · (intro w' hSw; (try dsimp only at hSw); go_simp; (try with_reducible rfl))
                (try simp only [Act.put, List.setIfInBounds_toArray, List.set_cons_zero, List.set_cons_succ])
                refine wpAnyT_one (i := 11) (by kernel_rfl) rfl (fun K hK => ?_)
                go_simp
                refine (mul_calls _ _ _ _ HP.out HUX.out HUY.out).mono ?_
                rintro e w2 ⟨rfl, ⟨n2, rfl⟩⟩
                refine hK _ _ (fun _ => hS) ?_
                clear hK K
                (try simp only [Act.put, List.setIfInBounds_toArray, List.set_cons_zero, List.set_cons_succ])
                refine wpAnyT_one (i := 12) (by kernel_rfl) rfl (fun K hK => ?_)
                go_simp
                refine (HADD.out _).mono ?_
                rintro e w3 ⟨rfl, rfl⟩
                refine hK _ _ (fun _ => hS) ?_
                clear hK K
                (try simp only [Act.put, List.setIfInBounds_toArray, List.set_cons_zero, List.set_cons_succ])
                refine wpAnyT_one (i := 13) (by kernel_rfl) rfl (fun K hK => ?_)
                go_simp
                refine hK _ _ (fun _ => hS) ?_
                clear hK K
                (try simp only [Act.put, List.setIfInBounds_toArray, List.set_cons_zero, List.set_cons_succ])
                refine wpAnyT_one (i := 14) (by kernel_rfl) rfl (fun K hK => ?_)
                go_simp
                refine hK _ _ (fun h => by cases h) ?_
                clear hK K
                (try simp only [Act.put, List.setIfInBounds_toArray, List.set_cons_zero, List.set_cons_succ])
                refine wpAnyT_done (by kernel_rfl) ?_ _
                refine NoPanic.normal ?_
                go_wp2
                go_roundw
                case rel => exact ⟨j + 1, by omega, by go_num, Lib.hid (HSO.out _), HKS.out _ _ _ (HKD.out _ _ hk3)⟩
                case measure => simp [intOf]; omega
            · have hje : j = m := by omega
              have HO4 : Hid (Own wr gs 40 1 (some ⟨gs, 0, none⟩) m m (nums .u64 (wrOL p neg m x y (i + 1) 0))) := Lib.hid (by have h1 := HO3.out; rw [hje, wrOL_next] at h1; exact h1)
              clear hje
              go_wp2
              subst hQ
              go_wp2
              go_roundw
              case rel => exact ⟨i + 1, by omega, by go_num, HO4, hk3⟩
              case measure => simp [intOf]; omega
        · have hie : i = m := by omega
          have HOE : Hid (Own wr w.heap.size 40 1 (some ⟨gs, 0, none⟩) m m (nums .u64 (wrL p neg x y))) := Lib.hid (by have h1 := HO2.out.mono HGS.out; rw [hie, HWF.out] at h1; exact h1)
          have HBE := Lib.hid (HKB.out _ hk2)
          clear hie
          go_wp2
          subst hQ0
          go_wp2
          go_ret2
          rw [HF.out, show ((wrL p neg x y, (0 : Int)).1.length) = m from HWL.out]
          exact ⟨_, _, rfl, HOE.out, HBE.out⟩
end Go.Proofs.YtnlmmgcjhedjkaaDoor.P
