
/- The law FlyDft, walked. Conditions: words of their kinds; the slices read as lists; the library's table lies as it was laid. -/
import Derived.Test.YtnlmmgcjhedjkaaDoorDftL
import Derived.Test.YtnlmmgcjhedjkaaDoorFlyB
namespace Go.Proofs.YtnlmmgcjhedjkaaDoor.P
open Go.RowKit
set_option linter.unusedVariables false
set_option linter.unusedSimpArgs false
theorem rootS_five {p n : Int} (hk : knownS p = true) (h1 : 1 ≤ n) (h2 : n ≤ 8192) (h : (rootS p n).2 ≠ 0) : (rootS p n).2 = 5 := by
  unfold rootS at h ⊢
  have hr : readyS p n = 0 := by rw [readyS, if_pos hk, if_pos ⟨h1, h2⟩]
  rw [if_pos hr] at h ⊢
  split at h
  · exact absurd rfl h
  · rename_i h3; rw [if_neg h3]
/-- What package fly makes of a line, and what package dft makes of it. -/
theorem fly_dft {p : Int} {inv : Bool} {x : List Int} (h2 : 2 ≤ x.length) (h5 : x.length ≤ 5) : (trS p false inv x).2 = (doS p inv x).2 ∧ (trS p false inv x).1.length = (doS p inv x).1.length ∧
    ∀ u, u < (doS p inv x).1.length → (doS p inv x).1.getD u 0 = if inv then mulS p ((trS p false inv x).1.getD u 0) x.length else (trS p false inv x).1.getD u 0 := by
  have hsm : smoothS x.length = true := by
    have h : x.length = 2 ∨ x.length = 3 ∨ x.length = 4 ∨ x.length = 5 := by omega
    rcases h with h | h | h | h <;> rw [h] <;> decide
  have hord : ordS x.length false = (x.length : Int) := by simp [ordS]
  unfold doS trS chk6 ptsS
  rw [hord]
  by_cases hk : knownS p = true
  case neg => simp [hk]
  rw [if_pos hk, if_pos hk, if_pos hsm, if_pos (by omega : (2 : Int) ≤ x.length ∧ (x.length : Int) ≤ 5)]
  by_cases hr : (rootS p x.length).2 = 0
  case neg =>
    have h := rootS_five hk (by omega) (by omega) hr
    simp [h]
  rw [if_pos hr, if_pos hr]
  simp only [if_true]
  by_cases hi : inS p x = true
  case neg => simp [hi]
  rw [if_pos hi, if_pos hi, if_pos rfl]
  refine ⟨rfl, by rw [trL_length, doL_length], fun u hu => ?_⟩
  have hu2 : u < x.length := by rw [← doL_length p (turnS p x.length inv) x]; exact hu
  dsimp only
  rw [doL_at p _ x hu2, trL_at p false inv x hu2]
  have hck : Chk6 p x.length false := ⟨hk, by omega, by omega, hsm, by rw [hord]; exact hr⟩
  obtain ⟨a, a', c, d, hL⟩ := hck.lk
  have hnl := hL.nl
  have h1 : redS p 1 = 1 := one_red hk
  unfold doF trF linF
  rw [hord]
  cases inv with
  | false =>
    simp only [wgt, turnS, stp, Bool.false_eq_true, if_false]
  | true =>
    simp only [wgt, turnS, stp, if_true, Bool.false_eq_true, if_false]
    unfold mulS
    rw [redS_mul_left, ← S_mulr]
    refine red_S fun i hi => ?_
    rw [show x.getD i 0 * ((backS p x.length).1 ^ (u * i) * (invS p x.length).1) * (x.length : Int) = x.getD i 0 * (backS p x.length).1 ^ (u * i) * ((x.length : Int) * (invS p x.length).1) by ac_rfl, Nat.mul_comm u i]
    conv => lhs; rw [← Int.mul_one (x.getD i 0 * (backS p x.length).1 ^ (i * u))]
    exact red_mul rfl (by rw [hnl, h1])
theorem doS_len_le (p : Int) (inv : Bool) (x : List Int) : (doS p inv x).1.length ≤ x.length := by
  unfold doS
  split
  · split
    · dsimp only; rw [doL_length]; exact Nat.le_refl _
    · simp
  · simp
theorem trS_u64 (p : Int) (inv : Bool) (x : List Int) : ∀ d ∈ (trS p false inv x).1, U64 d := by
  unfold trS
  split
  · exact trL_u64 p false inv x
  · intro d hd; simp at hd
/-- A line of which the first k words are taken n times. -/
def zsL (p : Int) (n : Nat) (Z : List Int) (k : Nat) : List Int := (List.range Z.length).map (fun u => if u < k then mulS p (Z.getD u 0) n else Z.getD u 0)
theorem zsL_length (p : Int) (n : Nat) (Z : List Int) (k : Nat) : (zsL p n Z k).length = Z.length := by simp [zsL]
theorem zsL_get (p : Int) (n : Nat) (Z : List Int) (k : Nat) {u : Nat} (hu : u < Z.length) (h : u < (zsL p n Z k).length) : (zsL p n Z k)[u] = if u < k then mulS p Z[u] n else Z[u] := by
  have hg := getD_of hu
  simp only [zsL, List.getElem_map, List.getElem_range, hg]
theorem zsL_start (p : Int) (n : Nat) (Z : List Int) : zsL p n Z 0 = Z := by
  apply List.ext_getElem
  · rw [zsL_length]
  · intro u h1 h2
    rw [zsL_get p n Z 0 h2, if_neg (by omega)]
theorem zsL_at {p : Int} {n : Nat} {Z : List Int} {k : Nat} (hk : k < Z.length) (h : k < (zsL p n Z k).length) : (zsL p n Z k)[k] = Z[k] := by
  rw [zsL_get p n Z k hk, if_neg (by omega)]
theorem zsL_new (p : Int) (n : Nat) {Z : List Int} {k : Nat} (hk : k < Z.length) {h : k < (zsL p n Z (k + 1)).length} : (zsL p n Z (k + 1))[k] = mulS p Z[k] n := by
  rw [zsL_get p n Z (k + 1) hk, if_pos (by omega)]
theorem zsL_set (p : Int) (n : Nat) {Z : List Int} {k : Nat} (hk : k < Z.length) : (zsL p n Z k).set k (mulS p Z[k] n) = zsL p n Z (k + 1) := by
  apply List.ext_getElem
  · simp [zsL]
  · intro u h1 h2
    have hu : u < Z.length := by rw [zsL_length] at h2; exact h2
    rw [List.getElem_set, zsL_get p n Z (k + 1) hu]
    split
    · rename_i e; subst e; rw [if_pos (by omega)]
    · rename_i e
      rw [zsL_get p n Z k hu]
      by_cases h3 : u < k
      · rw [if_pos h3, if_pos (by omega)]
      · rw [if_neg h3, if_neg (by omega)]
set_option maxRecDepth 100000 in
set_option maxHeartbeats 4000000 in
theorem flyDft_walk (p : Int) (inv : Bool) (A : Option Addr) (ca : Nat) (x : List Int) (w : World) (hp : U64 p)
    (hr : Row w A (nums .u64 x)) (hy : x.length * 8 ≤ 140737488351232) (hw : ∀ d ∈ x, (Lit.int .u64 d).wf = true) (hT : Tab w) :
    Calls Tryd.prog 11 #[.int .u64 p, .bool inv, .slice A x.length ca] w fun e w' => e = .returned (.bool true) ∧ Below w.heap.size w w' := by
  have HP := Lib.hid hp
  have HR := Lib.hid hr
  have HT := Lib.hid hT
  have HW : Hid (∀ d ∈ x, U64 d) := Lib.hid fun d hd => u64_wf (hw d hd)
  generalize hn : x.length = n at *
  have HN := Lib.hid hn
  have HL : Hid (n ≤ 9223372036854775807) := Lib.hid (by omega)
  clear hp hr hw hT hy
  by_cases g0 : 2 ≤ n ∧ n ≤ 5
  case neg =>
    clear hn
    by_cases g1 : n < 2
    case' pos =>
      have f0 : decide ((n : Int) < 2) = true := by simp; omega
    case' neg =>
      have f0 : decide ((n : Int) < 2) = false := by simp; omega
      have f1 : decide (5 < (n : Int)) = true := by simp; omega
    all_goals
      clear g0 g1
      go_enter Tryd.func11, Tryd.ntmps11
      go_wp2_with fail
      refine (live15_calls _).mono ?_
      rintro e w1 ⟨rfl, hb⟩
      have HB1 := Lib.hid hb
      clear hb
      go_wp2
      go_ret
      exact ⟨rfl, HB1.out⟩
  obtain ⟨g0, g1⟩ := g0
  have f0 : decide ((n : Int) < 2) = false := by simp; omega
  have f1 : decide (5 < (n : Int)) = false := by simp; omega
  have HF : ∀ inv, (trS p false inv x).2 = (doS p inv x).2 ∧ (trS p false inv x).1.length = (doS p inv x).1.length ∧ _ := fun inv => fly_dft (p := p) (inv := inv) (x := x) (by omega) (by omega)
  rw [hn] at HF
  have HCV : Hid (IntKind.u64.wrap (n : Int) = (n : Int)) := Lib.hid (by rw [IntKind.wrap_u64]; omega)
  have HUN : Hid (U64 (n : Int)) := Lib.hid ⟨by omega, by omega⟩
  clear hn
  obtain ⟨he, hl, hv⟩ := HF inv
  have HE := Lib.hid he
  have HLE := Lib.hid hl
  have HV := Lib.hid hv
  have HU := Lib.hid (trS_u64 p inv x)
  clear HF he hl hv
  obtain ⟨Y, ey, hY⟩ : ∃ Y e, doS p inv x = (Y, e) := ⟨_, _, rfl⟩
  obtain ⟨Z, ez, hZ⟩ : ∃ Z e, trS p false inv x = (Z, e) := ⟨_, _, rfl⟩
  rw [hY, hZ] at HE HLE
  rw [hY, hZ] at HV
  rw [hZ] at HU
  have hee : ez = ey := HE.out
  subst hee
  have hlz : Z.length = Y.length := HLE.out
  generalize hm : Y.length = m at *
  have HLY := Lib.hid hm
  have HLZ := Lib.hid hlz
  have HYF : Hid (((Y, ez).1 : List Int).length = m) := Lib.hid hm
  have HZF : Hid (((Z, ez).1 : List Int).length = m) := Lib.hid hlz
  have HY := Lib.hid hY
  have HZ := Lib.hid hZ
  have HVV : Hid (∀ u, u < m → Y.getD u 0 = if inv then mulS p (Z.getD u 0) n else Z.getD u 0) := Lib.hid fun u hu => HV.out u hu
  have HMB : Hid (m ≤ 9223372036854775807) := Lib.hid (by
    have h1 := doS_len_le p inv x
    rw [hY] at h1
    have h2 : Y.length ≤ n := by have h3 := HN.out; dsimp only at h1; omega
    omega)
  clear HE HLE hm hlz hY hZ HV
  obtain ⟨tt, htt⟩ : ∃ t : Bool, t = (ez != ez) := ⟨_, rfl⟩
  have t0 : (ez != ez) = false := by simp
  have t1 : ((m : Int) != (m : Int)) = false := by simp
  clear tt htt
  cases inv
  case' false =>
    have HFW : Hid (∀ w1, Row w1 A (nums .u64 x) → Tab w1 → Calls Tryd.prog 33 #[.int .u64 p, .slice A n ca, .bool false] w1 fun e w' => ∃ B b,
        e = .returned (.tuple #[.slice B m b, .int .i64 ez]) ∧ Own w' w1.heap.size 40 1 B m b (nums .u64 Z) ∧ Below w1.heap.size w1 w') := Lib.hid fun w1 hr1 hT1 => by
      have h := fwd6_calls p A ca n x false w1 HN.out HP.out hr1 HL.out HW.out hT1
      rw [HZ.out, HZF.out] at h
      exact h
  case' true =>
    have HFW : Hid (∀ w1, Row w1 A (nums .u64 x) → Tab w1 → Calls Tryd.prog 36 #[.int .u64 p, .slice A n ca, .bool false] w1 fun e w' => ∃ B b,
        e = .returned (.tuple #[.slice B m b, .int .i64 ez]) ∧ Own w' w1.heap.size 40 1 B m b (nums .u64 Z) ∧ Below w1.heap.size w1 w') := Lib.hid fun w1 hr1 hT1 => by
      have h := inv6_calls p A ca n x false w1 HN.out HP.out hr1 HL.out HW.out hT1
      rw [HZ.out, HZF.out] at h
      exact h
  rotate_left
  all_goals
    go_enter Tryd.func11, Tryd.ntmps11
    go_wp2_with fail
    refine (live15_calls _).mono ?_
    rintro e w1 ⟨rfl, hb⟩
    have HB1 := Lib.hid hb
    clear hb
    go_wp2_with fail
    refine (do_n p _ _ _ _ x _ HN.out HP.out (HR.out.below HB1.out) HL.out HW.out).mono ?_
    rw [HY.out, HYF.out]
    rintro e w2 ⟨Z2, z2, rfl, ho, hb⟩
    have HB2 := Lib.hid (blT HB1.out hb)
    have HRY2 : Hid (Row w2 Z2 (nums .u64 Y)) := Lib.hid ho.row
    clear ho hb
  · skip
    go_wp2_with fail
    refine (HFW.out _ (HR.out.below HB2.out) (HT.out.below HB2.out)).mono ?_
    rintro e w3 ⟨Z3, z3, rfl, ho, hb⟩
    have HB3 := Lib.hid (blT HB2.out hb)
    have HRY3 := Lib.hid (HRY2.out.below hb)
    have HRZ3 : Hid (Row w3 Z3 (nums .u64 Z)) := Lib.hid ho.row
    clear ho hb HRY2
    go_wp2
    go_loopw [54] (fun i wr => ∃ k : Nat, k ≤ m ∧ i = .int .i64 k ∧ Hid (Below w3.heap.size w3 wr)) (fun i _ => m - (intOf i).toNat)
    case atStart => exact ⟨0, Nat.zero_le _, rfl, Lib.hid (Below.refl _ _)⟩
    case round =>
      obtain ⟨k, hk, rfl, HBR⟩ := hrel
      by_cases hlt : k < m
      · have hmb := HMB.out
        have hy1 : k < Y.length := by have := HLY.out; omega
        have hz1 : k < Z.length := by have := HLZ.out; omega
        obtain ⟨ya, rfl⟩ := HRY3.out.some_of (by intro h0; have h1 := nums_length .u64 Y; rw [h0] at h1; simp at h1; omega)
        obtain ⟨za, rfl⟩ := HRZ3.out.some_of (by intro h0; have h1 := nums_length .u64 Z; rw [h0] at h1; simp at h1; omega)
        have hd1 := (HRY3.out.below HBR.out).num hy1
        have hd2 := (HRZ3.out.below HBR.out).num hz1
        have hv := HVV.out k hlt
        rw [getD_of hy1, getD_of hz1] at hv
        rw [hv, if_neg (by decide)] at hd1
        clear hv
        generalize Z[k] = u at *
        have t2 : (u != u) = false := by simp
        go_wp2
        go_quiet (first | fail)
        go_wp2
        go_roundw
        case rel => exact ⟨k + 1, by omega, by go_num, Lib.hid (below_drewN HBR.out nq)⟩
        case measure => simp [intOf]; omega
      · have HBE : Hid (Below w.heap.size w wr) := Lib.hid (blT HB3.out HBR.out)
        go_wp2
        go_ret
        exact ⟨rfl, HBE.out⟩
  · skip
    go_wp2_with fail
    refine (fwd6_calls p _ _ _ x false _ HN.out HP.out (HR.out.below HB2.out) HL.out HW.out (HT.out.below HB2.out)).mono ?_
    generalize trS p false false x = tz
    rintro e w3 ⟨Z3, z3, rfl, ho, hb⟩
    have HB3 := Lib.hid (blT HB2.out hb)
    have HRY3 := Lib.hid (HRY2.out.below hb)
    clear ho hb HRY2
    go_wp2_with fail
    refine (HFW.out _ (HR.out.below HB3.out) (HT.out.below HB3.out)).mono ?_
    rintro e w4 ⟨Z4, z4, rfl, ho, hb⟩
    have HB4 := Lib.hid (blT HB3.out hb)
    have HB34 := Lib.hid hb
    have HO4 : Hid (Own w4 w3.heap.size 40 1 Z4 m z4 (nums .u64 (zsL p n Z 0))) := Lib.hid (by rw [zsL_start]; exact ho)
    clear ho hb
    go_wp2
    go_loopw [54] (fun i wr => ∃ k : Nat, k ≤ m ∧ i = .int .i64 k ∧ Hid (Own wr w3.heap.size 40 1 Z4 m z4 (nums .u64 (zsL p n Z k))) ∧ Hid (Below w3.heap.size w3 wr)) (fun i _ => m - (intOf i).toNat)
    case atStart => exact ⟨0, Nat.zero_le _, rfl, HO4, HB34⟩
    case round =>
      obtain ⟨k, hk, rfl, HCR, HBR⟩ := hrel
      by_cases hlt : k < m
      · have hmb := HMB.out
        have hy1 : k < Y.length := by have := HLY.out; omega
        have hz1 : k < Z.length := by have := HLZ.out; omega
        obtain ⟨ya, rfl⟩ := HRY3.out.some_of (by intro h0; have h1 := nums_length .u64 Y; rw [h0] at h1; simp at h1; omega)
        obtain ⟨g, cap, hzv, _, _⟩ := World.ownsRow.form HCR.out (show 0 < m by omega)
        cases hzv
        have hsl : (zsL p n Z k).length = m := by rw [zsL_length]; exact HLZ.out
        have hcz : wr.cell? ⟨g, k, none⟩ = some (.int .u64 Z[k]) := by
          rw [HCR.out.cellAt k hlt, nums_get .u64 _ k (by omega), zsL_at hz1]
        have hfz : wr.frozen? ⟨g, k, none⟩ = false := HCR.out.frozenAt k
        have HG := Lib.hid HCR.out.base
        have hUZ := Lib.hid (HU.out _ (List.getElem_mem hz1))
        have HZS := Lib.hid (zsL_set p n hz1)
        have hv := HVV.out k hlt
        rw [getD_of hy1, getD_of hz1, if_pos (by trivial)] at hv
        have HYC : Hid (∀ w', Below w3.heap.size w3 w' → w'.cell? (ya.add k) = some (.int .u64 (mulS p Z[k] n))) := Lib.hid fun w' hb' => by
          have h1 := (HRY3.out.below hb').num hy1
          rw [hv] at h1
          exact h1
        clear hv
        have hcv := HCV.out
        have HZV : Hid (∀ h, (zsL p n Z (k + 1))[k]'h = mulS p Z[k] n) := Lib.hid fun h => zsL_new p n hz1
        generalize Z[k] = u at *
        generalize hM : mulS p u n = v at *
        have HMM : Hid (∀ w, Calls Tryd.prog 35 #[.int .u64 p, .int .u64 u, .int .u64 (n : Int)] w fun e w' => e = .returned (.int .u64 v) ∧ Drawn0 w w') := Lib.hid fun w => by
          have h1 := mul_calls p u n w HP.out hUZ.out HUN.out
          rw [hM] at h1
          exact h1
        clear hM
        have HST : Hid (∀ q, Own ((wr.drewN q).setCell ⟨g, k, none⟩ (.int .u64 v)) w3.heap.size 40 1 (some ⟨g, 0, none⟩) m z4 (nums .u64 (zsL p n Z (k + 1)))) := Lib.hid fun q => (by
          have h1 := (HCR.out.drewN q).stored k (.int .u64 v)
          rw [nums_set, HZS.out] at h1
          exact h1)
        have HSB : Hid (∀ q, Below w3.heap.size w3 ((wr.drewN q).setCell ⟨g, k, none⟩ (.int .u64 v))) := Lib.hid fun q => (below_drewN HBR.out q).setCell HG.out.1 _
        have t2 : (v != v) = false := by simp
        go_wp2_with fail
        refine (HMM.out _).mono ?_
        rintro e w5 ⟨rfl, ⟨q, rfl⟩⟩
        have hcz2 : (wr.drewN q).cell? ⟨g, k, none⟩ = some (.int .u64 u) := hcz
        have hfz2 : (wr.drewN q).frozen? ⟨g, k, none⟩ = false := hfz
        have hyc := HYC.out _ (HSB.out q)
        have hzc : ((wr.drewN q).setCell ⟨g, k, none⟩ (.int .u64 v)).cell? ⟨g, k, none⟩ = some (.int .u64 v) := by
          have h1 := (HST.out q).cellAt k hlt
          rw [h1, nums_get .u64 _ k (by rw [zsL_length]; omega), HZV.out]
        go_wp2
        go_quiet (first | fail)
        go_wp2
        go_roundw
        case rel => exact ⟨k + 1, by omega, by go_num, Lib.hid ((HST.out q).drewN nq), Lib.hid (below_drewN (HSB.out q) nq)⟩
        case measure => simp [intOf]; omega
      · have HBE : Hid (Below w.heap.size w wr) := Lib.hid (blT HB3.out HBR.out)
        go_wp2
        go_ret
        exact ⟨rfl, HBE.out⟩
end Go.Proofs.YtnlmmgcjhedjkaaDoor.P
