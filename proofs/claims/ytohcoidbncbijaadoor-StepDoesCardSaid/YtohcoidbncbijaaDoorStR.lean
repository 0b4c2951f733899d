
/- The contracts of step.row and step.picked. Conditions: small numbers; slices read as lists; the places lie in the line. -/
import Derived.Test.YtohcoidbncbijaaDoorGrL
namespace Go.Proofs.YtohcoidbncbijaaDoor.P
open Go.RowKit
set_option linter.unusedVariables false
set_option linter.unusedSimpArgs false
/-- Numbers from one on, each as much more. -/
def rowL (f m n : Nat) : List Int := (List.range n).map fun t => ((f + m * t : Nat) : Int)
def rowN (f m n k : Nat) : List Int := (List.range n).map fun t => if t < k then ((f + m * t : Nat) : Int) else 0
theorem rowL_length (f m n : Nat) : (rowL f m n).length = n := by simp [rowL]
theorem rowN_length (f m n k : Nat) : (rowN f m n k).length = n := by simp [rowN]
theorem rowN_start (f m n : Nat) : rowN f m n 0 = List.replicate n 0 := by
  apply List.ext_getElem
  · simp [rowN]
  · intro i h1 h2; simp [rowN]
theorem rowN_all (f m n : Nat) : rowN f m n n = rowL f m n := by
  apply List.ext_getElem
  · simp [rowN, rowL]
  · intro i h1 h2
    have h3 : i < n := by simpa [rowN] using h1
    simp [rowN, rowL, h3]
theorem rowN_set (f m : Nat) {n k : Nat} (hk : k < n) : (rowN f m n k).set k ((f + m * k : Nat) : Int) = rowN f m n (k + 1) := by
  apply List.ext_getElem
  · simp [rowN]
  · intro i h1 h2
    have h3 : i < n := by simpa [rowN] using h2
    rw [List.getElem_set]
    by_cases e : k = i
    · subst e; simp [rowN]
    · rw [if_neg e]
      simp only [rowN, List.getElem_map, List.getElem_range]
      by_cases h4 : i < k
      · rw [if_pos h4, if_pos (by omega)]
      · rw [if_neg h4, if_neg (by omega)]
theorem row_wraps {f m n t : Nat} (hf : f ≤ 100000) (hm : m ≤ 100000) (hn : n ≤ 100000) (ht : t < n) :
    IntKind.i64.wrap ((m : Int) * (t : Int)) = ((m * t : Nat) : Int) ∧ IntKind.i64.wrap ((f : Int) + ((m * t : Nat) : Int)) = ((f + m * t : Nat) : Int) := by
  have h1 : m * t ≤ 100000 * 100000 := Nat.mul_le_mul hm (by omega)
  have h2 : (m : Int) * (t : Int) = ((m * t : Nat) : Int) := by push_cast; rfl
  rw [h2]
  generalize m * t = x at *
  exact ⟨wrapI (by omega) (by omega), by rw [wrapI (by omega) (by omega)]; push_cast; rfl⟩
set_option maxRecDepth 100000 in
theorem srow_calls (f m n : Nat) (w : World) (hf : f ≤ 100000) (hm : m ≤ 100000) (hn : n ≤ 100000) :
    Calls Tryd.prog 114 #[.int .i64 (f : Int), .int .i64 (m : Int), .int .i64 (n : Int)] w fun e w' => ∃ B,
      e = .returned (.slice B n n) ∧ Own w' w.heap.size 3 1 B n n (nums .i64 (rowL f m n)) ∧ Below w.heap.size w w' := by
  have hmk := make_int n (by omega)
  have hown := own_made w w.heap.size 3 (.int .i64 0) n (Nat.le_refl _) (by omega)
  have hbel : Below w.heap.size w (w.alloc (.cells (madeCells #[.int .i64 0] n) 3)) := (Below.refl _ _).alloc (Nat.le_refl _) _
  rw [nums_replicate, ← rowN_start f m n] at hown
  have HO := Lib.hid hown
  have HB := Lib.hid hbel
  clear hown hbel
  go_enter Tryd.func114, Tryd.ntmps114
  go_wp2
  clear hmk
  generalize (w.alloc (.cells (madeCells #[.int .i64 0] n) 3)) = W at *
  generalize hrs : w.heap.size = rs at *
  have HRS := Lib.hid hrs
  clear hrs
  go_loopw [13] (fun q wr => ∃ k : Nat, k ≤ n ∧ q = .int .i64 k ∧ Hid (Own wr rs 3 1 (some ⟨rs, 0, none⟩) n n (nums .i64 (rowN f m n k))) ∧ Hid (Below rs w wr)) (fun q _ => n - (intOf q).toNat)
  case atStart => exact ⟨0, Nat.zero_le _, rfl, HO, HB⟩
  case round =>
    obtain ⟨k, hk, rfl, HO2, HB2⟩ := hrel
    by_cases hlt : k < n
    · obtain ⟨o1, o2⟩ := row_wraps hf hm hn hlt
      have hf0 : wr.frozen? ⟨rs, k, none⟩ = false := HO2.out.frozenAt k
      have hco := HO2.out.cellAt k hlt
      rw [nums_get .i64 _ k (by rw [rowN_length]; exact hlt)] at hco
      generalize (rowN f m n k)[k]'(by rw [rowN_length]; exact hlt) = old at *
      have HS : Hid (Own (wr.setCell ⟨rs, k, none⟩ (.int .i64 ((f + m * k : Nat) : Int))) rs 3 1 (some ⟨rs, 0, none⟩) n n (nums .i64 (rowN f m n (k + 1)))) := Lib.hid (by
        have h1 := HO2.out.stored k (.int .i64 ((f + m * k : Nat) : Int))
        rw [nums_set, rowN_set f m hlt] at h1
        exact h1)
      have HSB := Lib.hid (Below.setCell (p := ⟨rs, k, none⟩) HB2.out (Nat.le_refl _) (.int .i64 ((f + m * k : Nat) : Int)))
      generalize f + m * k = v at *
      generalize m * k = u at *
      go_wp2
      go_roundw
      case rel => exact ⟨k + 1, by omega, by go_num, HS, HSB⟩
      case measure => simp [intOf]; omega
    · have hke : k = n := by omega
      have HOE : Hid (Own wr rs 3 1 (some ⟨rs, 0, none⟩) n n (nums .i64 (rowL f m n))) := Lib.hid (by have h1 := HO2.out; rw [hke, rowN_all] at h1; exact h1)
      clear hke
      go_wp2
      go_ret
      exact ⟨_, rfl, by rw [HRS.out]; exact HOE.out, by rw [HRS.out]; exact HB2.out⟩
set_option maxRecDepth 100000 in
theorem spicked_calls (X : Option Addr) (cx m : Nat) (x : List Int) (D : Option Addr) (cd d : Nat) (L : List Int) (w : World) (hm : x.length = m) (hd : L.length = d) (hrx : Row w X (nums .i64 x)) (hrd : Row w D (nums .i64 L)) (hd4 : d ≤ 100000) (hm4 : m ≤ 100000) (hin : ∀ v ∈ L, 0 ≤ v ∧ v < m) :
    Calls Tryd.prog 113 #[.slice X m cx, .slice D d cd] w fun e w' => ∃ B,
      e = .returned (.slice B d d) ∧ Own w' w.heap.size 3 1 B d d (nums .i64 (gatL x L)) ∧ Below w.heap.size w w' := by
  have HD := Lib.hid hd
  have HM := Lib.hid hm
  have HIN := Lib.hid hin
  have HRD := Lib.hid hrd
  have HRX := Lib.hid hrx
  have HALL : Hid (gatN x L d = gatL x L) := Lib.hid (by rw [← hd]; exact gatN_all x L)
  have hmk := make_int d (by omega)
  have hown := own_made w w.heap.size 3 (.int .i64 0) d (Nat.le_refl _) (by omega)
  have hbel : Below w.heap.size w (w.alloc (.cells (madeCells #[.int .i64 0] d) 3)) := (Below.refl _ _).alloc (Nat.le_refl _) _
  rw [nums_replicate, ← hd, ← gatN_start x L, hd] at hown
  have HO := Lib.hid hown
  have HB := Lib.hid hbel
  clear hown hbel hm hd hin hrd hrx
  go_enter Tryd.func113, Tryd.ntmps113
  go_wp2
  clear hmk
  generalize (w.alloc (.cells (madeCells #[.int .i64 0] d) 3)) = W at *
  generalize hrs : w.heap.size = rs at *
  have HRS := Lib.hid hrs
  clear hrs
  go_loopw [13] (fun q wr => ∃ k : Nat, k ≤ d ∧ q = .int .i64 k ∧ Hid (Own wr rs 3 1 (some ⟨rs, 0, none⟩) d d (nums .i64 (gatN x L k))) ∧ Hid (Below rs w wr)) (fun q _ => d - (intOf q).toNat)
  case atStart => exact ⟨0, Nat.zero_le _, rfl, HO, HB⟩
  case round =>
    obtain ⟨k, hk, rfl, HO2, HB2⟩ := hrel
    have HB3 : Hid (Below w.heap.size w wr) := Lib.hid (by rw [HRS.out]; exact HB2.out)
    by_cases hlt : k < d
    · have hkl : k < L.length := by have := HD.out; omega
      obtain ⟨v0, v1⟩ := HIN.out _ (List.getElem_mem hkl)
      obtain ⟨da, rfl⟩ := HRD.out.some_of (by intro h0; have h1 := nums_length .i64 L; rw [h0] at h1; simp at h1; omega)
      have hc0 := (HRD.out.below HB3.out).num hkl
      have HST := Lib.hid (gatN_set x hkl)
      generalize L[k] = v at *
      obtain ⟨v, rfl⟩ := Int.eq_ofNat_of_zero_le v0
      have hvx : v < x.length := by have := HM.out; omega
      obtain ⟨xa, rfl⟩ := HRX.out.some_of (by intro h0; have h1 := nums_length .i64 x; rw [h0] at h1; simp at h1; omega)
      have hc1 := (HRX.out.below HB3.out).num hvx
      rw [Int.toNat_natCast, getD_of hvx] at HST
      generalize x[v] = u at *
      have hf : wr.frozen? ⟨rs, k, none⟩ = false := HO2.out.frozenAt k
      have hco := HO2.out.cellAt k hlt
      rw [nums_get .i64 _ k (by rw [gatN_length]; exact hkl)] at hco
      generalize (gatN x L k)[k]'(by rw [gatN_length]; exact hkl) = old at *
      have HS : Hid (Own (wr.setCell ⟨rs, k, none⟩ (.int .i64 u)) rs 3 1 (some ⟨rs, 0, none⟩) d d (nums .i64 (gatN x L (k + 1)))) := Lib.hid (by
        have h1 := HO2.out.stored k (.int .i64 u)
        rw [nums_set, HST.out] at h1
        exact h1)
      have HSB := Lib.hid (Below.setCell (p := ⟨rs, k, none⟩) HB2.out (Nat.le_refl _) (.int .i64 u))
      go_wp2
      go_roundw
      case rel => exact ⟨k + 1, by omega, by go_num, HS, HSB⟩
      case measure => simp [intOf]; omega
    · have hke : k = d := by omega
      have HOE : Hid (Own wr rs 3 1 (some ⟨rs, 0, none⟩) d d (nums .i64 (gatL x L))) := Lib.hid (by have h1 := HO2.out; rw [hke, HALL.out] at h1; exact h1)
      clear hke
      go_wp2
      go_ret
      exact ⟨_, rfl, by rw [HRS.out]; exact HOE.out, by rw [HRS.out]; exact HB2.out⟩
end Go.Proofs.YtohcoidbncbijaaDoor.P
