
/- The contract of grid.Dims. Conditions: the slice reads as a list of axes. -/
import Derived.Test.YtohcoidbncbijaaDoorDftD
import Derived.Test.YtohcoidbncbijaaDoorPlainB
import Derived.Test.YtohcoidbncbijaaDoorFac2
namespace Go.Proofs.YtohcoidbncbijaaDoor.P
open Go.RowKit
set_option linter.unusedVariables false
set_option linter.unusedSimpArgs false
theorem axR_length (l : List (Int × Bool)) : (axR l).length = l.length * 2 := flat_len axC 2 (fun _ => rfl) l
theorem ax_cells {w : World} {x : Addr} {l : List (Int × Bool)} (h : Row w (some x) (axR l)) {k : Nat} (hk : k < l.length) :
    w.cell? (x.add (k * 2)) = some (.int .i64 l[k].1) ∧ w.cell? ⟨(x.add (k * 2)).block, (x.add (k * 2)).off + 1, none⟩ = some (.bool l[k].2) := by
  have e : ∀ j, j < 2 → (axR l)[k * 2 + j]? = (axC l[k])[j]? := fun j hj => flat_get axC 2 (fun _ => rfl) l k hk j hj
  rw [add_next x _ 1 (by decide)]
  exact ⟨h.cell (e 0 (by decide)), h.cell (e 1 (by decide))⟩
/-- The first k lengths, and noughts behind. -/
def dimsN (ax : List (Int × Bool)) (k : Nat) : List Int := (List.range ax.length).map fun i => if i < k then (ax.getD i (1, false)).1 else 0
theorem dimsN_length (ax : List (Int × Bool)) (k : Nat) : (dimsN ax k).length = ax.length := by simp [dimsN]
theorem dimsN_start (ax : List (Int × Bool)) : dimsN ax 0 = List.replicate ax.length 0 := by
  apply List.ext_getElem
  · simp [dimsN]
  · intro i h1 h2
    simp [dimsN]
theorem dimsN_all (ax : List (Int × Bool)) : dimsN ax ax.length = dimsA ax := by
  apply List.ext_getElem
  · simp [dimsN, dimsA]
  · intro i h1 h2
    have h3 : i < ax.length := by simpa [dimsN] using h1
    simp [dimsN, dimsA, h3]
theorem dimsN_set (ax : List (Int × Bool)) {k : Nat} (hk : k < ax.length) : (dimsN ax k).set k ax[k].1 = dimsN ax (k + 1) := by
  apply List.ext_getElem
  · simp [dimsN]
  · intro i h1 h2
    have h3 : i < ax.length := by simpa [dimsN] using h2
    rw [List.getElem_set]
    by_cases e : k = i
    · subst e; simp [dimsN, hk]
    · rw [if_neg e]
      simp only [dimsN, List.getElem_map, List.getElem_range]
      by_cases h4 : i < k
      · rw [if_pos h4, if_pos (by omega)]
      · rw [if_neg h4, if_neg (by omega)]
set_option maxRecDepth 100000 in
theorem dims7_calls (A : Option Addr) (c n : Nat) (ax : List (Int × Bool)) (w : World) (hn : ax.length = n) (hr : Row w A (axR ax)) (hl : n ≤ 8796093022208) :
    Calls Tryd.prog 60 #[.slice A n c] w fun e w' => ∃ B,
      e = .returned (.slice B n n) ∧ Own w' w.heap.size 3 1 B n n (nums .i64 (dimsA ax)) ∧ Below w.heap.size w w' := by
  have HR := Lib.hid hr
  have HN := Lib.hid hn
  have HALL : Hid (dimsN ax n = dimsA ax) := Lib.hid (by rw [← hn]; exact dimsN_all ax)
  have hmk := make_int n (by omega)
  clear hr
  go_enter Tryd.func60, Tryd.ntmps60
  go_wp2
  have hown := own_made w w.heap.size 3 (.int .i64 0) n (Nat.le_refl _) (by omega)
  have hbel : Below w.heap.size w (w.alloc (.cells (madeCells #[.int .i64 0] n) 3)) := (Below.refl _ _).alloc (Nat.le_refl _) _
  rw [nums_replicate, ← hn, ← dimsN_start ax, hn] at hown
  clear hn hmk
  generalize (w.alloc (.cells (madeCells #[.int .i64 0] n) 3)) = W at *
  have HO := Lib.hid hown
  have HB := Lib.hid hbel
  clear hown hbel
  go_loopw [11] (fun q wr => ∃ k : Nat, k ≤ n ∧ q = .int .i64 k ∧ Hid (Own wr w.heap.size 3 1 (some ⟨w.heap.size, 0, none⟩) n n (nums .i64 (dimsN ax k))) ∧ Hid (Below w.heap.size w wr)) (fun q _ => n - (intOf q).toNat)
  case atStart => exact ⟨0, Nat.zero_le _, rfl, HO, HB⟩
  case round =>
    obtain ⟨k, hk, rfl, HO2, HB2⟩ := hrel
    by_cases hlt : k < n
    · have hka : k < ax.length := by have := HN.out; omega
      obtain ⟨x, rfl⟩ := HR.out.some_of (by intro h0; have h1 := axR_length ax; rw [h0] at h1; simp at h1; omega)
      obtain ⟨hc0, hc1⟩ := ax_cells (HR.out.below HB2.out) hka
      have HST := Lib.hid (dimsN_set ax hka)
      generalize ax[k] = a at *
      obtain ⟨a0, a1⟩ := a
      dsimp only at hc0 hc1
      have HOA := Lib.hid (HO2.out.grown ((Below.refl wr.heap.size wr).alloc (Nat.le_refl _) (.cells #[.int .i64 a0, .bool a1] 32)))
      have HBA := Lib.hid (HB2.out.alloc HB2.out.size (.cells #[.int .i64 a0, .bool a1] 32))
      have hf : (wr.alloc (.cells #[.int .i64 a0, .bool a1] 32)).frozen? ⟨w.heap.size, k, none⟩ = false := HOA.out.frozenAt k
      have hco := HOA.out.cellAt k hlt
      rw [nums_get .i64 _ k (by rw [dimsN_length]; omega)] at hco
      generalize (dimsN ax k)[k]'(by rw [dimsN_length]; omega) = old at *
      have HS : Hid (Own ((wr.alloc (.cells #[.int .i64 a0, .bool a1] 32)).setCell ⟨w.heap.size, k, none⟩ (.int .i64 a0)) w.heap.size 3 1 (some ⟨w.heap.size, 0, none⟩) n n (nums .i64 (dimsN ax (k + 1)))) := Lib.hid (by
        have h1 := HOA.out.stored k (.int .i64 a0)
        rw [nums_set, HST.out] at h1
        exact h1)
      have HSB := Lib.hid (Below.setCell (p := ⟨w.heap.size, k, none⟩) HBA.out (Nat.le_refl _) (.int .i64 a0))
      go_wp2
      go_roundw
      case rel => exact ⟨k + 1, by omega, by go_num, HS, HSB⟩
      case measure => simp [intOf]; omega
    · have hke : k = n := by omega
      subst hke
      go_wp2
      go_ret
      exact ⟨_, rfl, by have h1 := HO2.out; rw [HALL.out] at h1; exact h1, HB2.out⟩
end Go.Proofs.YtohcoidbncbijaaDoor.P
