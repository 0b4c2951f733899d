
/- The contract of brackenref07's Check. Conditions: words of their kinds; slices read as lists. -/
import Derived.Test.YtohcoidbncbijaaDoorGrF
import Derived.Test.YtohcoidbncbijaaDoorR6a
namespace Go.Proofs.YtohcoidbncbijaaDoor.P
open Go.RowKit
set_option linter.unusedVariables false
set_option linter.unusedSimpArgs false
set_option maxRecDepth 100000 in
set_option maxHeartbeats 2000000 in
theorem rchk7_calls (p : Int) (A : Option Addr) (c n : Nat) (ax : List (Int × Bool)) (w : World) (hn : ax.length = n) (hp : U64 p) (hr : Row w A (axR ax)) (hl : n ≤ 8796093022208) (hw : ∀ a ∈ ax, i64 a.1) :
    Calls Tryd.prog 69 #[.int .u64 p, .slice A n c] w fun e w' => e = .returned (.int .i64 (chk7 p ax)) ∧ Below w.heap.size w w' := by
  have HP := Lib.hid hp
  have HR := Lib.hid hr
  have HN := Lib.hid hn
  have HW := Lib.hid hw
  have HDN : Hid ((dimsA ax).length = n) := Lib.hid (by rw [dimsA_length]; exact hn)
  have HDW := Lib.hid (dimsA_i64 hw)
  have hl2 : n ≤ 9223372036854775807 := by omega
  clear hp hr hn hw
  by_cases hk : knownS p = true
  case neg =>
    have HF : Hid (chk7 p ax = 2) := Lib.hid (by rw [chk7, if_neg hk])
    have hk2 : knownS p = false := by simpa using hk
    rw [HF.out]
    clear hk
    go_enter Tryd.func69, Tryd.ntmps69
    go_wp2_with (go_at_call 107; refine (r01_known _ _).mono ?_; rintro e w ⟨rfl, rfl⟩)
    go_ret
    exact ⟨rfl, Below.refl _ _⟩
  by_cases hd : Dims (dimsA ax)
  case neg =>
    have HF : Hid (chk7 p ax = 3) := Lib.hid (by rw [chk7, if_pos hk, if_neg hd])
    have HA := Lib.hid (allS_no hd)
    rw [HF.out]
    clear hd
    go_enter Tryd.func69, Tryd.ntmps69
    go_wp2_with (go_at_call 107; refine (r01_known _ _).mono ?_; rintro e w ⟨rfl, rfl⟩)
    refine (rdims7_calls _ _ _ _ _ HN.out HR.out hl).mono ?_
    rintro e w1 ⟨B, b, rfl, ho, hb⟩
    have HB := Lib.hid hb
    have HO := Lib.hid ho.row
    clear ho hb
    go_wp2_with fail
    refine (r05_all_n _ _ _ _ _ HDN.out HO.out hl2 HDW.out).mono ?_
    rw [HA.out]
    rintro e w2 ⟨rfl, rfl⟩
    go_wp2
    go_ret
    exact ⟨rfl, HB.out⟩
  have HA := Lib.hid (allS_yes hd)
  have HD := Lib.hid hd
  have HK := Lib.hid hk
  have HPOS : Hid (∀ j, (hj : j < ax.length) → 1 ≤ ax[j].1 ∧ ax[j].1 ≤ 4096) := Lib.hid fun j hj => by
    have h1 : j < (dimsA ax).length := by rw [dimsA_length]; exact hj
    have h2 := HD.out.pos.at h1
    have h3 := HD.out.pos.at_le h1
    have h4 := HD.out.all
    have e : (dimsA ax)[j] = ax[j].1 := by simp [dimsA]
    rw [e] at h2 h3
    omega
  clear hd
  go_enter Tryd.func69, Tryd.ntmps69
  go_wp2_with (go_at_call 107; refine (r01_known _ _).mono ?_; rintro e w ⟨rfl, rfl⟩)
  refine (rdims7_calls _ _ _ _ _ HN.out HR.out hl).mono ?_
  rintro e w1 ⟨B, b, rfl, ho, hb⟩
  have HB := Lib.hid hb
  have HO := Lib.hid ho.row
  clear ho hb
  go_wp2_with fail
  refine (r05_all_n _ _ _ _ _ HDN.out HO.out hl2 HDW.out).mono ?_
  rw [HA.out]
  rintro e w2 ⟨rfl, rfl⟩
  generalize prodL (dimsA ax) = P0 at *
  clear hk
  go_wp2
  go_loopw [27] (fun q wr => ∃ k : Nat, k ≤ n ∧ q = .int .i64 k ∧ Hid (∀ a ∈ ax.take k, smoothS a.1 = true) ∧ Hid (Below w.heap.size w wr)) (fun q _ => n - (intOf q).toNat)
  case atStart => exact ⟨0, Nat.zero_le _, rfl, Lib.hid (by simp), HB⟩
  case round =>
    obtain ⟨k, hk, rfl, HS, HB2⟩ := hrel
    by_cases hlt : k < n
    · have hka : k < ax.length := by have := HN.out; omega
      obtain ⟨x, rfl⟩ := HR.out.some_of (by intro h0; have h1 := axR_length ax; rw [h0] at h1; simp at h1; omega)
      obtain ⟨hc0, hc1⟩ := ax_cells (HR.out.below HB2.out) hka
      have HI := Lib.hid (HW.out _ (List.getElem_mem hka))
      have HSF : Hid (¬ smoothS ax[k].1 = true → chk7 p ax = 4) := Lib.hid fun h => by
        rw [chk7, if_pos HK.out, if_pos HD.out, if_neg (fun h2 => h (h2 _ (List.getElem_mem hka)))]
      have HSS : Hid (smoothS ax[k].1 = true → ∀ a ∈ ax.take (k + 1), smoothS a.1 = true) := Lib.hid fun h => (take_all hka).2 ⟨HS.out, h⟩
      generalize ax[k] = a at *
      obtain ⟨a0, a1⟩ := a
      have HB3 := Lib.hid (HB2.out.alloc HB2.out.size (.cells #[.int .i64 a0, .bool a1] 32))
      cases hs : smoothS a0
      case' false => have HF := Lib.hid (HSF.out (by simp [hs]))
      case' true => have HS2 := Lib.hid (HSS.out hs)
      all_goals
        clear HSF HSS
        go_wp2_with fail
        refine (r04_smooth _ _ HI.out).mono ?_
        rw [hs]
        rintro e w3 ⟨rfl, hb⟩
        have HB4 := Lib.hid (blT HB3.out hb)
        clear hb
        go_wp2
      · go_roundw
        case rel => exact ⟨k + 1, by omega, by go_num, HS2, HB4⟩
        case measure => simp [intOf]; omega
      · go_ret
        exact ⟨by rw [HF.out]; rfl, HB4.out⟩
    · have hke : k = n := by omega
      have HSA : Hid (∀ a ∈ ax, smoothS a.1 = true) := Lib.hid (by
        have h1 := HS.out
        rw [hke, List.take_of_length_le (by rw [HN.out]; exact Nat.le_refl _)] at h1
        exact h1)
      clear hke
      have HBZ := HB2
      go_wp2
      go_loopw [38] (fun q ws => ∃ j : Nat, j ≤ n ∧ q = .int .i64 j ∧ Hid (∀ a ∈ ax.take j, (rootS p (ordA a)).2 = 0) ∧ Hid (Below w.heap.size w ws)) (fun q _ => n - (intOf q).toNat)
      case atStart => exact ⟨0, Nat.zero_le _, rfl, Lib.hid (by simp), HB2⟩
      case round =>
        obtain ⟨j, hj, rfl, HRO, HB5⟩ := hrel
        by_cases hjt : j < n
        · have hka : j < ax.length := by have := HN.out; omega
          obtain ⟨x, rfl⟩ := HR.out.some_of (by intro h0; have h1 := axR_length ax; rw [h0] at h1; simp at h1; omega)
          obtain ⟨hc0, hc1⟩ := ax_cells (HR.out.below HB5.out) hka
          obtain ⟨hp1, hp2⟩ := HPOS.out j hka
          have HEG : Hid ((rootS p (ordA ax[j])).2 = 0 → ∀ a ∈ ax.take (j + 1), (rootS p (ordA a)).2 = 0) := Lib.hid fun h => (take_all hka).2 ⟨HRO.out, h⟩
          have HEB : Hid (¬ (rootS p (ordA ax[j])).2 = 0 → chk7 p ax = 5) := Lib.hid fun h => by
            rw [chk7, if_pos HK.out, if_pos HD.out, if_pos HSA.out, if_neg (fun h2 => h (h2 _ (List.getElem_mem hka)))]
          generalize ax[j] = a at *
          obtain ⟨a0, a1⟩ := a
          dsimp only at hc0 hc1 hp1 hp2
          have HB6 := Lib.hid (HB5.out.alloc HB5.out.size (.cells #[.int .i64 a0, .bool a1] 32))
          have HOR : Hid (ordA (a0, a1) = if a1 then 2 * a0 else a0) := Lib.hid (by unfold ordA; dsimp only; split <;> omega)
          have HRT : Hid (∀ w, Calls Tryd.prog 85 #[.int .u64 p, .int .i64 (if a1 then 2 * a0 else a0)] w fun e w' => e = .returned (.tuple #[.int .u64 (rootS p (ordA (a0, a1))).1, .int .i64 (rootS p (ordA (a0, a1))).2]) ∧ Below w.heap.size w w') := Lib.hid fun w => by
            rw [← HOR.out]
            exact r03_root p _ w HP.out
          have w1 : IntKind.i64.wrap (2 * a0) = 2 * a0 := wrapI (by omega) (by omega)
          have w2 : wrap64 (2 * a0) = 2 * a0 := wrap64_id ⟨by omega, by omega⟩
          generalize rootS p (ordA (a0, a1)) = rt at *
          obtain ⟨r0, r1⟩ := rt
          by_cases hr1 : r1 = 0
          case' pos =>
            have HE := Lib.hid (HEG.out hr1)
            have t0 : (r1 != 0) = false := by simpa using hr1
          case' neg =>
            have HE := Lib.hid (HEB.out hr1)
            have t0 : (r1 != 0) = true := by simpa using hr1
          all_goals
            clear HEG HEB hr1
            cases a1
            all_goals
              go_wp2_with fail
              refine (HRT.out _).mono ?_
              rintro e w5 ⟨rfl, hb⟩
              have HB7 := Lib.hid (blT HB6.out hb)
              clear hb
              go_wp2
              first
                | (go_ret
                   exact ⟨by rw [HE.out]; rfl, HB7.out⟩)
                | (go_roundw
                   case rel => exact ⟨j + 1, by omega, by go_num, HE, HB7⟩
                   case measure => simp [intOf]; omega)
        · have hje : j = n := by omega
          have HF : Hid (chk7 p ax = 0) := Lib.hid (by
            have h1 := HRO.out
            rw [hje, List.take_of_length_le (by rw [HN.out]; exact Nat.le_refl _)] at h1
            rw [chk7, if_pos HK.out, if_pos HD.out, if_pos HSA.out, if_pos h1])
          clear hje
          go_wp2
          go_ret
          exact ⟨by rw [HF.out]; rfl, HB5.out⟩
end Go.Proofs.YtohcoidbncbijaaDoor.P
