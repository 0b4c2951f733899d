
/- The contract of grid.Do, and that chapter's example. Conditions: words of their kinds; slices read as lists; the library's table lies as it was laid. -/
import Derived.Test.YtohcoidbncbijaaDoorGrY
namespace Go.Proofs.YtohcoidbncbijaaDoor.P
open Go.RowKit
set_option linter.unusedVariables false
set_option linter.unusedSimpArgs false
theorem axS_step {p : Int} {ax : List (Int × Bool)} {inv : Bool} {x : List Int} (h : wrd7 p ax x = 0) {k : Nat} (hk : k < ax.length) : axS p ax (k : Int) inv (grN p ax inv x k) = (grN p ax inv x (k + 1), 0) := by
  obtain ⟨hC, hP, hI⟩ := wrd7_ok h
  have h2 : wrd7 p ax (grN p ax inv x k) = 0 := hC.words (by rw [grN_length]; exact hP) (grN_in hC.known _ _ hI _)
  rw [axS, if_pos h2, if_pos ⟨by omega, by omega⟩, Int.toNat_natCast, grN]
set_option maxRecDepth 100000 in
set_option maxHeartbeats 4000000 in
theorem do7_calls (p : Int) (A : Option Addr) (c n : Nat) (ax : List (Int × Bool)) (inv : Bool) (X : Option Addr) (ca m : Nat) (x : List Int) (w : World) (hn : ax.length = n) (hm : x.length = m) (hp : U64 p)
    (hr : Row w A (axR ax)) (hl : n ≤ 8796093022208) (hw : ∀ a ∈ ax, i64 a.1) (hrx : Row w X (nums .u64 x)) (hlm : m ≤ 9223372036854775807) (hwx : ∀ d ∈ x, U64 d) (hT : Tab w) :
    Calls Tryd.prog 55 #[.int .u64 p, .slice A n c, .bool inv, .slice X m ca] w fun e w' => ∃ B b,
      e = .returned (.tuple #[.slice B (grS p ax inv x).1.length b, .int .i64 (grS p ax inv x).2]) ∧ Own w' w.heap.size 22 1 B (grS p ax inv x).1.length b (nums .u64 (grS p ax inv x).1) ∧ Below w.heap.size w w' := by
  have HP := Lib.hid hp
  have HR := Lib.hid hr
  have HRX := Lib.hid hrx
  have HN := Lib.hid hn
  have HM := Lib.hid hm
  have HW := Lib.hid hw
  have HT := Lib.hid hT
  by_cases hc : wrd7 p ax x = 0
  case neg =>
    have HF : Hid (grS p ax inv x = ([], wrd7 p ax x)) := Lib.hid (by rw [grS, if_neg hc])
    have t0 : (wrd7 p ax x != 0) = true := by simpa using hc
    rw [HF.out]
    clear hc hp hr hn hw hT hrx hm hwx
    go_enter Tryd.func55, Tryd.ntmps55
    go_wp2_with fail
    refine (wrd7_calls _ _ _ _ _ _ _ _ _ _ HN.out HM.out HP.out HR.out hl HW.out HRX.out hlm HT.out).mono ?_
    rintro e w1 ⟨rfl, hb⟩
    have HB := Lib.hid hb
    clear hb
    go_wp2
    go_ret2
    exact ⟨none, 0, rfl, Own.nil _ _ _ _, HB.out⟩
  have HC := Lib.hid hc
  have HF : Hid (grS p ax inv x = (grN p ax inv x ax.length, 0)) := Lib.hid (by rw [grS, if_pos hc])
  have HS : Hid (∀ k, k < n → axS p ax (k : Int) inv (grN p ax inv x k) = (grN p ax inv x (k + 1), 0)) := Lib.hid fun k hk => axS_step hc (by omega)
  have HGL : Hid (∀ k, (grN p ax inv x k).length = m) := Lib.hid fun k => by rw [grN_length]; exact hm
  have HGF : Hid (∀ k, ((grN p ax inv x k, (0 : Int)).1).length = m) := Lib.hid fun k => HGL.out k
  have HGU := Lib.hid (grN_u64 p ax inv hwx)
  have hn1 : 1 ≤ n := by have h1 := (wrd7_ok hc).1.dims.n1; rw [dimsA_length] at h1; omega
  have HG0 : Hid (Row w X (nums .u64 (grN p ax inv x 0))) := Lib.hid hrx
  have HE : Hid (grN p ax inv x ax.length = grN p ax inv x n) := Lib.hid (by rw [hn])
  rw [HF.out, HE.out, HGF.out]
  clear hc hp hr hn hw hT hrx hm hwx
  go_enter Tryd.func55, Tryd.ntmps55
  go_wp2_with fail
  refine (wrd7_calls _ _ _ _ _ _ _ _ _ _ HN.out HM.out HP.out HR.out hl HW.out HRX.out hlm HT.out).mono ?_
  rw [HC.out]
  rintro e w1 ⟨rfl, hb⟩
  have HB := Lib.hid hb
  have HG1 := Lib.hid (HG0.out.below hb)
  clear hb
  go_wp2
  go_loopw [3, 21] (fun v q wr => ∃ (k : Nat) (Z : Option Addr) (z : Nat), k ≤ n ∧ q = .int .i64 k ∧ v = .slice Z m z ∧ Hid (0 < k → Own wr w.heap.size 22 1 Z m z (nums .u64 (grN p ax inv x k))) ∧ Hid (Row wr Z (nums .u64 (grN p ax inv x k))) ∧ Hid (Below w.heap.size w wr)) (fun _ q _ => n - (intOf q).toNat)
  case atStart => exact ⟨0, X, ca, Nat.zero_le _, rfl, rfl, Lib.hid (fun h => absurd h (by decide)), HG1, HB⟩
  case round =>
    obtain ⟨k, Z, z, hk, rfl, rfl, HO2, HR2, HB2⟩ := hrel
    by_cases hlt : k < n
    · have HSK := Lib.hid (HS.out k hlt)
      have HSZ := Lib.hid HB2.out.size
      go_wp2_with fail
      refine (axis7_calls p A c n ax (k : Int) inv Z z m (grN p ax inv x k) _ HN.out (HGL.out k) HP.out (HR.out.below HB2.out) hl HW.out HR2.out hlm (HGU.out k) (HT.out.below HB2.out)).mono ?_
      rw [HSK.out, HGF.out]
      rintro e w3 ⟨Y, y, rfl, ho, hb⟩
      have HO3 : Hid (0 < k + 1 → Own w3 w.heap.size 22 1 Y m y (nums .u64 (grN p ax inv x (k + 1)))) := Lib.hid fun _ => ho.mono HSZ.out
      have HR3 : Hid (Row w3 Y (nums .u64 (grN p ax inv x (k + 1)))) := Lib.hid ho.row
      have HB3 := Lib.hid (blT HB2.out hb)
      clear ho hb
      go_wp2
      go_roundw
      case rel => exact ⟨k + 1, Y, y, by omega, by go_num, rfl, HO3, HR3, HB3⟩
      case measure => simp [intOf]; omega
    · have hke : k = n := by omega
      have HOE : Hid (Own wr w.heap.size 22 1 Z m z (nums .u64 (grN p ax inv x n))) := Lib.hid (by have h1 := HO2.out (by omega); rw [hke] at h1; exact h1)
      clear hke
      go_wp2
      go_ret2
      exact ⟨_, _, rfl, HOE.out, HB2.out⟩
end Go.Proofs.YtohcoidbncbijaaDoor.P
