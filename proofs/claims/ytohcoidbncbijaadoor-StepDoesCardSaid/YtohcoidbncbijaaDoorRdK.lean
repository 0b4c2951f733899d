/- Several texts as one: FlyR, RdP, RdA, RdS, RdB. Conditions: those of each lemma. -/
import Derived.Test.YtohcoidbncbijaaDoorFlyB
import Derived.WalkMore
import Derived.Test.YtohcoidbncbijaaDoorStpB
import Derived.Test.YtohcoidbncbijaaDoorRgQ
import Derived.Test.YtohcoidbncbijaaDoorRtA
import Derived.Test.YtohcoidbncbijaaDoorSqK
import Derived.Test.YtohcoidbncbijaaDoorR6a
import Derived.Test.YtohcoidbncbijaaDoorStU
/- The contracts of brackenref15's Do and Weigh. Conditions: words of their kinds; the slices read as lists. -/
namespace Go.Proofs.YtohcoidbncbijaaDoor.P
open Go.RowKit
set_option linter.unusedVariables false
set_option linter.unusedSimpArgs false
theorem fiveF_zero (p a : Int) (x : List Int) (u : Nat) : fiveF p a x u 0 = 0 := redS_zero p
theorem doP_succ (p a : Int) (x : List Int) (u : Nat) : (List.range (u + 1)).map (doF p a x) = (List.range u).map (doF p a x) ++ [doF p a x u] := by
  rw [List.range_succ, List.map_append, List.map_singleton]
theorem u64_fiveF (p a : Int) (x : List Int) (u t : Nat) : U64 (fiveF p a x u t) := u64_redS _ _
set_option maxRecDepth 100000 in
set_option maxHeartbeats 2000000 in
theorem r15_do (p : Int) (inv : Bool) (A : Option Addr) (n c : Nat) (x : List Int) (w : World) (hn : x.length = n) (hp : U64 p) (hr : Row w A (nums .u64 x)) (hl : n ≤ 9223372036854775807) (hw : ∀ d ∈ x, U64 d) :
    Calls Tryd.prog 93 #[.int .u64 p, .bool inv, .slice A n c] w fun e w' => ∃ B b,
      e = .returned (.tuple #[.slice B (doS p inv x).1.length b, .int .i64 (doS p inv x).2]) ∧ Own w' w.heap.size 22 1 B (doS p inv x).1.length b (nums .u64 (doS p inv x).1) ∧ Below w.heap.size w w' := by
  have HP := Lib.hid hp
  have HR := Lib.hid hr
  have HW := Lib.hid hw
  have HN := Lib.hid hn
  have HL := Lib.hid hl
  have HI : Hid (i64 (n : Int)) := Lib.hid ⟨by omega, by omega⟩
  by_cases hd : (doS p inv x).2 = 0
  case neg =>
    have HE0 := Lib.hid (doS_no p inv x hd)
    rw [HE0.out]
    by_cases ho : (ptsS p n inv).2 = 0
    · have hin : inS p x = false := by
        cases hh : inS p x with
        | false => rfl
        | true => exfalso; apply hd; rw [doS, hn, if_pos ho, if_pos hh]
      have HE : Hid ((doS p inv x).2 = 7) := Lib.hid (by rw [doS, hn, if_pos ho, hin]; rfl)
      rw [HE.out]
      have HIN := Lib.hid hin
      have HPT : Hid ((ptsS p n inv).2 = 0) := Lib.hid ho
      clear hp hr hw hd ho hin hn hl
      go_enter Tryd.func93, Tryd.ntmps93
      go_wp2_with fail
      refine (r15_points p n inv _ HP.out HI.out).mono ?_
      rw [HPT.out]
      rintro e w2 ⟨Y, cy, rfl, ho2, hb2⟩
      have HR2 := Lib.hid (HR.out.below hb2)
      have HB2 := Lib.hid hb2
      clear ho2 hb2
      go_wp2_with fail
      have hcall := r01_in p A c x w2 HR2.out (by rw [HN.out]; exact HL.out)
      rw [HIN.out, HN.out] at hcall
      refine hcall.mono ?_
      clear hcall
      rintro e w3 ⟨rfl, rfl⟩
      go_wp2
      go_ret2
      exact ⟨none, 0, rfl, Own.nil _ _ _ _, HB2.out⟩
    · have HE : Hid ((doS p inv x).2 = (ptsS p n inv).2) := Lib.hid (by rw [doS, hn, if_neg ho])
      rw [HE.out]
      have t0 : ((ptsS p n inv).2 != 0) = true := by simpa using ho
      clear hp hr hw hd ho hn hl
      go_enter Tryd.func93, Tryd.ntmps93
      go_wp2_with fail
      refine (r15_points p n inv _ HP.out HI.out).mono ?_
      rintro e w2 ⟨Y, cy, rfl, ho2, hb2⟩
      have HB2 := Lib.hid hb2
      clear ho2 hb2
      go_wp2
      go_ret2
      exact ⟨none, 0, rfl, Own.nil _ _ _ _, HB2.out⟩
  obtain ⟨ho, hin, e0⟩ := doS_len p inv x hd
  rw [hn] at ho e0
  obtain ⟨N, hN, h2, h5, hT, hU, hpts⟩ := ptsS_ok ho
  obtain rfl : n = N := by omega
  have HT := Lib.hid hT
  have HIN := Lib.hid hin
  have HPT := Lib.hid hpts
  have HLL : Hid (((List.range n).map (powS p (turnS p n inv))).length = n) := Lib.hid (by simp)
  have HDL : Hid ((doL p (turnS p n inv) x).length = n) := Lib.hid (by rw [doL_length]; exact hn)
  have HDA : Hid ((List.range n).map (doF p (turnS p n inv) x) = doL p (turnS p n inv) x) := Lib.hid (by rw [doL, hn])
  rw [e0, show ((doL p (turnS p n inv) x, (0 : Int)).1) = doL p (turnS p n inv) x from rfl, HDL.out]
  obtain ⟨xa, rfl⟩ := hr.some_of (by intro h0; have h1 := nums_length .u64 x; rw [h0, hn] at h1; simp at h1; omega)
  clear hp hr hw hd ho hin e0 hN hT hU hpts hn hl
  go_enter Tryd.func93, Tryd.ntmps93
  go_wp2_with fail
  refine (r15_points p n inv _ HP.out HI.out).mono ?_
  rw [HPT.out, show (((List.range n).map (powS p (turnS p n inv)), (0 : Int)).1.length) = n from HLL.out]
  rintro e w2 ⟨Y, cy, rfl, ho2, hb2⟩
  have HR2 := Lib.hid (HR.out.below hb2)
  have HB2 := Lib.hid hb2
  have HRY : Hid (Row w2 Y (nums .u64 ((List.range n).map (powS p (turnS p n inv))))) := Lib.hid ho2.row
  obtain ⟨ya, rfl⟩ := HRY.out.some_of (by intro h0; have h1 := nums_length .u64 ((List.range n).map (powS p (turnS p n inv))); rw [h0, HLL.out] at h1; simp at h1; omega)
  clear ho2 hb2
  go_wp2_with fail
  have hcall := r01_in p (some xa) c x w2 HR2.out (by rw [HN.out]; exact HL.out)
  rw [HIN.out, HN.out] at hcall
  refine hcall.mono ?_
  clear hcall
  rintro e w3 ⟨rfl, rfl⟩
  generalize haE : turnS p n inv = a at *
  have HAE := Lib.hid haE
  clear haE
  go_wp2
  go_loopw [10, 32] (fun o q wr => ∃ (u : Nat) (Z : Option Addr) (z : Nat), u ≤ n ∧ q = .int .i64 u ∧ o = .slice Z u z ∧ Hid (Own wr w3.heap.size 22 1 Z u z (nums .u64 ((List.range u).map (doF p a x)))) ∧ Hid (Below w3.heap.size w3 wr)) (fun _ q _ => n - (intOf q).toNat)
  case atStart => exact ⟨0, none, 0, Nat.zero_le _, rfl, rfl, Lib.hid (Own.nil _ _ _ _), Lib.hid (Below.refl _ _)⟩
  case round =>
    obtain ⟨u, Z, z, hu, rfl, rfl, HO, HBW⟩ := hrel
    by_cases hlt : u < n
    · have d0 : decide (u < n) = true := by simp; omega
      have d1 : decide ((u : Int) < (n : Int)) = true := by simp; omega
      go_wp2
      go_hide hQ
      go_loopw [12, 37] (fun s q wr => ∃ t : Nat, t ≤ n ∧ q = .int .i64 t ∧ s = .int .u64 (fiveF p a x u t) ∧ Hid (Own wr w3.heap.size 22 1 Z u z (nums .u64 ((List.range u).map (doF p a x)))) ∧ Hid (Below w3.heap.size w3 wr)) (fun _ q _ => n - (intOf q).toNat)
      case atStart => exact ⟨0, Nat.zero_le _, rfl, by rw [fiveF_zero], HO, HBW⟩
      case round =>
        obtain ⟨t, ht, rfl, rfl, HO2, HBW2⟩ := hrel
        by_cases hlt2 : t < n
        · have hltx : t < x.length := by have := HN.out; omega
          have hc1 := (HR2.out.below HBW2.out).num hltx
          have hm5 : t * u % n < n := Nat.mod_lt _ (by omega)
          have hym : wr.cell? (ya.add (t * u % n)) = some (.int .u64 (powS p a (t * u % n))) := by
            have h1 := (HRY.out.below HBW2.out).cell (i := t * u % n) (u := .int .u64 (powS p a (t * u % n))) (by
              rw [nums_get .u64 _ _ (by simpa using hm5)]
              simp)
            exact h1
          have HVP := Lib.hid (u64_powS p a (t * u % n))
          have HXU : Hid (U64 x[t]) := Lib.hid (HW.out _ (List.getElem_mem hltx))
          have HST := Lib.hid (fiveF_step HT.out x u t)
          rw [getD_of hltx] at HST
          have HSU := Lib.hid (u64_fiveF p a x u t)
          have hMb : (t : Int) * (u : Int) ≤ 25 := by
            have : (t : Int) * (u : Int) ≤ 5 * 5 := Int.mul_le_mul (by omega) (by omega) (by omega) (by omega)
            omega
          have hM0 : 0 ≤ (t : Int) * (u : Int) := Int.mul_nonneg (by omega) (by omega)
          have hMm : (t : Int) * (u : Int) % (n : Int) = ((t * u % n : Nat) : Int) := by rw [Int.natCast_emod, Int.natCast_mul]
          have hMt : ((t : Int) * (u : Int)).tmod (n : Int) = ((t * u % n : Nat) : Int) := by rw [Int.tmod_eq_emod_of_nonneg hM0]; exact hMm
          have hn0 : ¬ (n : Int) = 0 := by omega
          generalize hM : (t : Int) * (u : Int) = M at *
          generalize t * u % n = m at *
          generalize x[t] = d at *
          generalize powS p a m = v at *
          generalize fiveF p a x u t = s at *
          have hwM : IntKind.i64.wrap M = M := by rw [IntKind.wrap_i64]; omega
          have hwm : IntKind.i64.wrap (m : Int) = (m : Int) := by rw [IntKind.wrap_i64]; omega
          have hmm : decide (n ≤ m) = false := by simp; omega
          go_wp2_with (first
            | (go_at_call 88; refine (r01_mul p d v _ HP.out HXU.out HVP.out).mono ?_; rintro e w5 ⟨rfl, rfl⟩)
            | (go_at_call 129; refine (r01_add p s (mulS p d v) _ HP.out HSU.out (u64_mulS _ _ _)).mono ?_; rintro e w6 ⟨rfl, ⟨q, rfl⟩⟩))
          go_roundw
          case rel => exact ⟨t + 1, by omega, by go_num, by rw [← HST.out], Lib.hid (HO2.out.drewN q), Lib.hid (below_drewN HBW2.out q)⟩
          case measure => simp [intOf]; omega
        · have hte : t = n := by omega
          subst hte
          have HFA : Hid (fiveF p a x u t = doF p a x u) := Lib.hid (by rw [← HN.out]; exact fiveF_all p a x u)
          have HDS := Lib.hid (doP_succ p a x u)
          rw [HFA.out]
          have HSZ := Lib.hid HBW2.out.size
          generalize doF p a x u = s at *
          go_wp2
          subst hQ
          go_wp2_with (at_builtin; refine append_row _ Tryd.underlying41 info_u64 rfl _ _ rfl w3.heap.size u z 1 1 Z ⟨wr.heap.size, 0, none⟩ ((List.range u).map (doF p a x)) [s] rfl rfl (HO2.out.grown ((Below.refl _ _).alloc (Nat.le_refl _) _)) (row_new wr [.int .u64 s] 22) rfl (by decide) (Nat.le_trans HSZ.out (by simp)) (by omega) (by omega) ?_; intro g cap2 w6 hown hbel hgrow hlt5)
          have HO6 : Hid (Own w6 w3.heap.size 22 1 (some ⟨g, 0, none⟩) (u + 1) cap2 (nums .u64 ((List.range (u + 1)).map (doF p a x)))) := Lib.hid (by rw [HDS.out]; exact hown)
          have HB6 : Hid (Below w3.heap.size w3 w6) := Lib.hid ((HBW2.out.alloc HSZ.out _).trans (hbel.mono (Nat.le_refl _)))
          clear hown hbel hgrow hlt5
          go_roundw
          case rel => exact ⟨u + 1, some ⟨g, 0, none⟩, cap2, by omega, by go_num, rfl, HO6, HB6⟩
          case measure => simp [intOf]; omega
    · have hue : u = n := by omega
      subst hue
      have HOE : Hid (Own wr w.heap.size 22 1 Z u z (nums .u64 (doL p a x))) := Lib.hid (by rw [← HDA.out]; exact HO.out.mono HB2.out.size)
      have HBE : Hid (Below w.heap.size w wr) := Lib.hid (blC HB2.out HBW.out)
      go_wp2
      go_ret2
      exact ⟨Z, z, rfl, by rw [HAE.out]; exact HOE.out, HBE.out⟩
end Go.Proofs.YtohcoidbncbijaaDoor.P
/- What the document's steps do, group by group, plainly. Under no condition beside those of each lemma. -/
namespace Go.Proofs.YtohcoidbncbijaaDoor.P
open Go.RowKit
set_option linter.unusedVariables false
/-- All groups, done one behind the other. -/
structure DoK (p : Int) (inv t : Bool) (R : Nat) (G : Nat → Grp) (r cnt m tl : Nat) (x tab y : List Int) (Gn : Nat → Nat) : Prop where
  r1 : 1 ≤ r
  r5 : r ≤ 5
  c4 : cnt ≤ 4096
  lI : ∀ g, g < cnt → (G g).1.length = r
  lF : ∀ g, g < cnt → (G g).2.1.length = r
  lO : ∀ g, g < cnt → (G g).2.2.length = r
  iI : ∀ g, g < cnt → ∀ v ∈ (G g).1, 0 ≤ v ∧ v < (m : Int)
  iF : ∀ g, g < cnt → ∀ v ∈ (G g).2.1, 0 ≤ v ∧ v < (tl : Int)
  iO : ∀ g, g < cnt → ∀ v ∈ (G g).2.2, 0 ≤ v ∧ v < (m : Int)
  put : ∀ g, g < cnt → putN (outN y Gn g) (G g).2.2 (grpV p (grpY p t R inv (gatL x (G g).1)) tab (G g).2.1) r = outN y Gn (g + 1)
  fin : outN y Gn cnt = y
  dos : t = false → ∀ g, g < cnt → doS p inv (gatL x (G g).1) = (grpY p t R inv (gatL x (G g).1), 0)
theorem do_twist (p : Int) (ax : List (Int × Bool)) (inv : Bool) (k N : Nat) (neg : Bool) (m tl : Nat) (x : List Int) (hK : StepK p ax ((k : Int), true, 0, 0, 0) k N neg) (hm : x.length = m) (hpx : prodL (dimsA ax) = x.length)
    (htl : (tabL p N neg inv ((k : Int), true, 0, 0, 0)).length = tl) :
    DoK p inv true 0 (grpT (dimsA ax) k) 1 m m tl x (tabL p N neg inv ((k : Int), true, 0, 0, 0)) (stepDo p ax inv ((k : Int), true, 0, 0, 0) x) (gNo (dimsA ax) k true 0 0 0) := by
  have hAx := (hK.chk.at hK.lt).1
  have hm4 : m ≤ 4096 := by have h1 := hK.chk.dims.all; omega
  have hy : stepDo p ax inv ((k : Int), true, 0, 0, 0) x = linA p (dimsA ax) k (stepM p N neg inv ((k : Int), true, 0, 0, 0)) x := by
    unfold stepDo
    dsimp only
    rw [Int.toNat_natCast, hK.get, hK.dim, Int.toNat_natCast]
  have hyl : (stepDo p ax inv ((k : Int), true, 0, 0, 0) x).length = m := by rw [hy, linA_length, hm]
  refine ⟨by decide, by decide, hm4, fun g hg => rfl, fun g hg => rfl, fun g hg => rfl, fun g hg v hv => ?_, fun g hg v hv => ?_, fun g hg v hv => ?_, fun g hg => ?_, ?_, fun h => by cases h⟩
  · simp [grpT] at hv
    omega
  · have hxv := hAx.xv (g : Int)
    have hdim := hK.dim
    rw [tabL_twist] at htl
    simp at htl
    simp [grpT] at hv
    omega
  · simp [grpT] at hv
    omega
  · have hok := twist_ok hAx hK.dim p inv neg (k : Int) 0 0 0 hpx (g := g) (by omega)
    rw [← hy, ← tabL_twist p N neg inv (k : Int) 0 0 0] at hok
    exact hok.put
  · exact outN_all _ _ (fun v hv => by unfold gNo; rw [if_pos rfl]; omega)
theorem do_stage (p : Int) (ax : List (Int × Bool)) (inv : Bool) (k N : Nat) (neg : Bool) (R L M K : Nat) (m tl : Nat) (x : List Int) (hK : StepK p ax ((k : Int), false, (R : Int), (L : Int), (M : Int)) k N neg) (hS : StageK N R L M) (hKK : prodL (dimsA ax) / (N : Int) = (K : Int)) (hc4 : K * M * L ≤ 4096)
    (hm : x.length = m) (hpx : prodL (dimsA ax) = x.length) (hin : inS p x = true) (htl : (tabL p N neg inv ((k : Int), false, (R : Int), (L : Int), (M : Int))).length = tl) :
    DoK p inv false R (grpG (dimsA ax) k false R L M) R (K * M * L) m tl x (tabL p N neg inv ((k : Int), false, (R : Int), (L : Int), (M : Int))) (stepDo p ax inv ((k : Int), false, (R : Int), (L : Int), (M : Int)) x) (gNo (dimsA ax) k false R L M) := by
  have hAx := (hK.chk.at hK.lt).1
  have hX : AxSt (dimsA ax) k R L M N := ⟨hAx, hK.dim, hS⟩
  have hy : stepDo p ax inv ((k : Int), false, (R : Int), (L : Int), (M : Int)) x = linA p (dimsA ax) k (stepM p N neg inv ((k : Int), false, (R : Int), (L : Int), (M : Int))) x := by
    unfold stepDo
    dsimp only
    rw [Int.toNat_natCast, hK.get, hK.dim, Int.toNat_natCast]
  generalize hyy : stepDo p ax inv ((k : Int), false, (R : Int), (L : Int), (M : Int)) x = y at *
  have hyl : y.length = m := by rw [hy, linA_length, hm]
  have hL1 := hS.l1
  have hM1 := hS.m1
  have hN1 := hK.c6.n1
  have one : ∀ g, g < K * M * L → ∃ gr : Grp, grpG (dimsA ax) k false R L M g = gr ∧ (gr.1.length = R ∧ gr.2.1.length = R ∧ gr.2.2.length = R) ∧ (∀ v ∈ gr.1, 0 ≤ v ∧ v < (m : Int)) ∧ (∀ v ∈ gr.2.1, 0 ≤ v ∧ v < (tl : Int)) ∧ (∀ v ∈ gr.2.2, 0 ≤ v ∧ v < (m : Int)) ∧
      putN (outN y (gNo (dimsA ax) k false R L M) g) gr.2.2 (grpV p (grpY p false R inv (gatL x gr.1)) (tabL p N neg inv ((k : Int), false, (R : Int), (L : Int), (M : Int))) gr.2.1) R = outN y (gNo (dimsA ax) k false R L M) (g + 1) ∧
      doS p inv (gatL x gr.1) = (grpY p false R inv (gatL x gr.1), 0) := by
    intro g hg
    have g1 : g % L < L := Nat.mod_lt _ (by omega)
    have g2 : g / L % M < M := Nat.mod_lt _ (by omega)
    have g3 : g / L / M < K := by
      rw [Nat.div_lt_iff_lt_mul (by omega), Nat.div_lt_iff_lt_mul (by omega)]; exact hg
    have ge : g = (g / L / M * M + g / L % M) * L + g % L := by
      rw [Nat.mul_comm (g / L / M) M, Nat.div_add_mod (g / L) M, Nat.mul_comm (g / L) L, Nat.div_add_mod]
    have hG := grpG_stage (dimsA ax) k R (j := g / L / M) g2 g1
    rw [← ge] at hG
    refine ⟨_, hG, ?_⟩
    generalize g / L / M = j at *
    generalize g / L % M = a at *
    generalize g % L = b at *
    have hj : (j : Int) < prodL (dimsA ax) / (N : Int) := by rw [hKK]; omega
    have hok := hX.grp_ok p inv neg (k : Int) hpx g2 g1 hj
    rw [← hy, ← ge, ← tabL_stage p N neg inv (k : Int) hS] at hok
    have hput := hok.put
    have hlen := grpS_len (dimsA ax) k R L M j a b
    rw [hlen.2.2] at hput
    have iI : ∀ v ∈ (grpS (dimsA ax) k R L M j a b).1, 0 ≤ v ∧ v < (m : Int) := by
      intro v hv
      obtain ⟨t, ht, rfl⟩ := List.getElem_of_mem hv
      have h1 := hX.in_at j g2 g1 (t := t) (by omega) 0
      rw [getD_of ht] at h1
      rw [h1]
      have h2 := hX.q_in g2 g1 (t := t) (by omega)
      rw [q_form] at h2
      have h3 := hAx.plc_in hK.dim hj h2
      omega
    have iO : ∀ v ∈ (grpS (dimsA ax) k R L M j a b).2.2, 0 ≤ v ∧ v < (m : Int) := by
      intro v hv
      obtain ⟨t, ht, rfl⟩ := List.getElem_of_mem hv
      have h1 := hX.out_at j g2 g1 (t := t) (by omega) 0
      rw [getD_of ht] at h1
      rw [h1]
      have h2 := hX.q_out g2 g1 (t := t) (by omega)
      rw [q_form2] at h2
      have h3 := hAx.plc_in hK.dim hj h2
      omega
    have iF : ∀ v ∈ (grpS (dimsA ax) k R L M j a b).2.1, 0 ≤ v ∧ v < (tl : Int) := by
      intro v hv
      obtain ⟨t, ht, rfl⟩ := List.getElem_of_mem hv
      have h1 := fac_at (dimsA ax) k R L M j a b (t := t) (by omega) 0
      rw [getD_of ht] at h1
      rw [h1]
      have h2 : a * R + t < M * R := digit_lt2 g2 (by omega)
      have h3 := htl
      rw [tabL_stage p N neg inv (k : Int) hS, tabR_length] at h3
      omega
    have hdo := hX.do_zero hK.c6 inv (w := gatL x (grpS (dimsA ax) k R L M j a b).1) (by rw [gatL_length]; exact hlen.1) (gatL_in hin (by intro v hv; have := iI v hv; omega))
    exact ⟨hlen, iI, iF, iO, hput, by rw [hdo]; rfl⟩
  refine ⟨by have := hS.r2; omega, hS.r5, hc4, fun g hg => ?_, fun g hg => ?_, fun g hg => ?_, fun g hg => ?_, fun g hg => ?_, fun g hg => ?_, fun g hg => ?_, ?_, fun _ g hg => ?_⟩
  · obtain ⟨gr, e, h1, h2, h3, h4, h5, h6⟩ := one g hg; rw [e]; exact h1.1
  · obtain ⟨gr, e, h1, h2, h3, h4, h5, h6⟩ := one g hg; rw [e]; exact h1.2.1
  · obtain ⟨gr, e, h1, h2, h3, h4, h5, h6⟩ := one g hg; rw [e]; exact h1.2.2
  · obtain ⟨gr, e, h1, h2, h3, h4, h5, h6⟩ := one g hg; rw [e]; exact h2
  · obtain ⟨gr, e, h1, h2, h3, h4, h5, h6⟩ := one g hg; rw [e]; exact h3
  · obtain ⟨gr, e, h1, h2, h3, h4, h5, h6⟩ := one g hg; rw [e]; exact h4
  · obtain ⟨gr, e, h1, h2, h3, h4, h5, h6⟩ := one g hg; rw [e]; exact h5
  · refine outN_all y _ (fun v hv => ?_)
    obtain ⟨h2, h3, h4⟩ := hAx.plc_of hK.dim (v := v) (by omega)
    rw [hKK] at h3
    unfold gNo
    rw [if_neg (by decide)]
    generalize (P.xv (dimsA ax) k (v : Int)).toNat = q at *
    have e0 := hS.all
    have hR := hS.r2
    have d3 : q / L / R < M := by
      rw [Nat.div_lt_iff_lt_mul (by omega), Nat.div_lt_iff_lt_mul (by omega), Nat.mul_comm (M * R) L]; omega
    exact digit_lt2 (digit_lt2 (by omega) d3) (Nat.mod_lt _ (by omega))
  · obtain ⟨gr, e, h1, h2, h3, h4, h5, h6⟩ := one g hg; rw [e]; exact h6
theorem do_all (p : Int) (ax : List (Int × Bool)) (inv : Bool) (k : Nat) (s1 : Bool) (s2 s3 s4 : Int) (N : Nat) (neg : Bool) (m tl : Nat) (x : List Int) (hK : StepK p ax ((k : Int), s1, s2, s3, s4) k N neg) (hm : x.length = m) (hpx : prodL (dimsA ax) = x.length) (hin : inS p x = true)
    (htl : (tabL p N neg inv ((k : Int), s1, s2, s3, s4)).length = tl) : ∃ Gn,
    DoK p inv s1 s2.toNat (grpG (dimsA ax) k s1 s2.toNat s3.toNat s4.toNat) (grpR s1 s2.toNat) (grpC (dimsA ax) k s1 s3.toNat s4.toNat) m tl x (tabL p N neg inv ((k : Int), s1, s2, s3, s4)) (stepDo p ax inv ((k : Int), s1, s2, s3, s4) x) Gn := by
  have hN1 := hK.c6.n1
  have hp1 := hK.chk.dims.pos.prod
  have hsm := grpC_small hK
  dsimp only at hsm
  rcases hK.kind with ⟨ht, hz⟩ | ⟨ht, hz⟩
  · dsimp only at ht hz
    subst ht
    simp only [Prod.mk.injEq] at hz
    obtain ⟨rfl, rfl, rfl⟩ := hz
    have e1 : grpG (dimsA ax) k true (0 : Int).toNat (0 : Int).toNat (0 : Int).toNat = grpT (dimsA ax) k := by funext g; exact grpG_twist ..
    have e2 : grpC (dimsA ax) k true (0 : Int).toNat (0 : Int).toNat = m := by unfold grpC; rw [if_pos rfl, hpx, hm, Int.toNat_natCast]
    rw [e1, e2]
    exact ⟨_, do_twist p ax inv k N neg m tl x hK hm hpx htl⟩
  · dsimp only at ht hz
    subst ht
    obtain ⟨R, L, M, hs, hS⟩ := stg_mem hK.c6.smooth hz
    simp only [Prod.mk.injEq] at hs
    obtain ⟨rfl, rfl, rfl⟩ := hs
    obtain ⟨K, hKK⟩ := Int.eq_ofNat_of_zero_le (show 0 ≤ prodL (dimsA ax) / (N : Int) from Int.ediv_nonneg (by omega) (by omega))
    have e2 : grpC (dimsA ax) k false (L : Int).toNat (M : Int).toNat = K * M * L := by
      unfold grpC
      rw [if_neg (by decide), hK.dim, hKK]
      simp only [Int.toNat_natCast]
    rw [e2] at hsm ⊢
    simp only [Int.toNat_natCast]
    exact ⟨_, do_stage p ax inv k N neg R L M K m tl x hK hS hKK hsm hm hpx hin htl⟩
end Go.Proofs.YtohcoidbncbijaaDoor.P
/- The contract of brackenref16's Do. Conditions: words of their kinds; slices read as lists. -/
namespace Go.Proofs.YtohcoidbncbijaaDoor.P
open Go.RowKit
set_option linter.unusedVariables false
set_option linter.unusedSimpArgs false
theorem grpV_step (p : Int) (o O Y tab F : List Int) {u : Nat} (hO : u < O.length) (hF : u < F.length) :
    (putN o O (grpV p Y tab F) u).set (O.getD u 0).toNat (mulS p (Y.getD u 0) (tab.getD (F.getD u 0).toNat 0)) = putN o O (grpV p Y tab F) (u + 1) := by
  rw [← grpV_at p Y tab F hF 0]
  rfl
set_option maxRecDepth 100000 in
set_option maxHeartbeats 8000000 in
theorem r16do_calls (p : Int) (A : Option Addr) (c n : Nat) (ax : List (Int × Bool)) (inv : Bool) (s0 : Int) (s1 : Bool) (s2 s3 s4 : Int) (X : Option Addr) (cx m : Nat) (x : List Int) (w : World) (hn : ax.length = n) (hm : x.length = m) (hp : U64 p) (hr : Row w A (axR ax)) (hl : n ≤ 8796093022208) (hw : ∀ a ∈ ax, i64 a.1)
    (hrx : Row w X (nums .u64 x)) (hlm : m ≤ 9223372036854775807) (hwx : ∀ d ∈ x, U64 d) :
    Calls Tryd.prog 48 #[.int .u64 p, .slice A n c, .bool inv, .agg #[.int .i64 s0, .bool s1, .int .i64 s2, .int .i64 s3, .int .i64 s4], .slice X m cx] w fun e w' => ∃ B b,
      e = .returned (.tuple #[.slice B (doS16 p ax inv (s0, s1, s2, s3, s4) x).1.length b, .int .i64 (doS16 p ax inv (s0, s1, s2, s3, s4) x).2]) ∧ Own w' w.heap.size 22 1 B (doS16 p ax inv (s0, s1, s2, s3, s4) x).1.length b (nums .u64 (doS16 p ax inv (s0, s1, s2, s3, s4) x).1) ∧ Below w.heap.size w w' := by
  have HP := Lib.hid hp
  have HN := Lib.hid hn
  have HM := Lib.hid hm
  have HW := Lib.hid hw
  have HWX := Lib.hid hwx
  have HB0 : Hid (Below w.heap.size w (w.alloc (.cells #[.int .i64 s0, .bool s1, .int .i64 s2, .int .i64 s3, .int .i64 s4] 39))) := Lib.hid ((Below.refl _ _).alloc (Nat.le_refl _) _)
  have HR0 := Lib.hid (hr.below HB0.out)
  have HRX0 := Lib.hid (hrx.below HB0.out)
  have HX0 : Hid (Row (w.alloc (.cells #[.int .i64 s0, .bool s1, .int .i64 s2, .int .i64 s3, .int .i64 s4] 39)) (some ⟨w.heap.size, 0, none⟩) [.int .i64 s0, .bool s1, .int .i64 s2, .int .i64 s3, .int .i64 s4]) := Lib.hid (row_new w [.int .i64 s0, .bool s1, .int .i64 s2, .int .i64 s3, .int .i64 s4] _)
  have hmx : Tryd.prog.follows .mixedOrders = true := by kernel_rfl
  have HMX := Lib.hid hmx
  clear hn hm hp hr hw hrx hwx hmx
  by_cases hc : chk16 p ax (s0, s1, s2, s3, s4) = 0
  case neg =>
    have HF : Hid (doS16 p ax inv (s0, s1, s2, s3, s4) x = ([], chk16 p ax (s0, s1, s2, s3, s4))) := Lib.hid (by
      have e : wrd16 p ax (s0, s1, s2, s3, s4) x = chk16 p ax (s0, s1, s2, s3, s4) := by rw [wrd16, if_neg hc]
      rw [doS16, e, if_neg hc])
    have t0 : (chk16 p ax (s0, s1, s2, s3, s4) != 0) = true := by simpa using hc
    rw [HF.out]
    have b0 : (w.alloc (.cells #[.int .i64 s0, .bool s1, .int .i64 s2, .int .i64 s3, .int .i64 s4] 39)).cell? ⟨w.heap.size, 0, none⟩ = some (.int .i64 s0) := HX0.out.cell (i := 0) rfl
    have b1 : (w.alloc (.cells #[.int .i64 s0, .bool s1, .int .i64 s2, .int .i64 s3, .int .i64 s4] 39)).cell? ⟨w.heap.size, 1, none⟩ = some (.bool s1) := HX0.out.cell (i := 1) rfl
    have b2 : (w.alloc (.cells #[.int .i64 s0, .bool s1, .int .i64 s2, .int .i64 s3, .int .i64 s4] 39)).cell? ⟨w.heap.size, 2, none⟩ = some (.int .i64 s2) := HX0.out.cell (i := 2) rfl
    have b3 : (w.alloc (.cells #[.int .i64 s0, .bool s1, .int .i64 s2, .int .i64 s3, .int .i64 s4] 39)).cell? ⟨w.heap.size, 3, none⟩ = some (.int .i64 s3) := HX0.out.cell (i := 3) rfl
    have b4 : (w.alloc (.cells #[.int .i64 s0, .bool s1, .int .i64 s2, .int .i64 s3, .int .i64 s4] 39)).cell? ⟨w.heap.size, 4, none⟩ = some (.int .i64 s4) := HX0.out.cell (i := 4) rfl
    go_enter Tryd.func48, Tryd.ntmps48
    go_wp2_with fail
    clear b0 b1 b2 b3 b4
    generalize (w.alloc (.cells #[.int .i64 s0, .bool s1, .int .i64 s2, .int .i64 s3, .int .i64 s4] 39)) = V0' at *
    refine (r16grp_no p A c n ax s0 s1 s2 s3 s4 V0' HN.out HP.out HR0.out hl HW.out hc).mono ?_
    rintro e w1 ⟨rfl, hb⟩
    have HB1 := Lib.hid (blT HB0.out hb)
    clear hb
    go_wp2
    go_ret2
    exact ⟨none, 0, rfl, Own.nil _ _ _ _, HB1.out⟩
  obtain ⟨k, N, neg, hK⟩ := chk16_ok hc
  have hsk := hK.axis
  dsimp only at hsk
  subst hsk
  have HDL : Hid ((dimsA ax).length = n) := Lib.hid (by rw [dimsA_length]; exact HN.out)
  have HDI : Hid (∀ d ∈ dimsA ax, i64 d) := Lib.hid (dimsA_i64 HW.out)
  have HAL : Hid (allS (dimsA ax) = (prodL (dimsA ax), 0)) := Lib.hid (allS_yes hK.chk.dims)
  have hp0 := hK.chk.dims.pos.prod
  have hp4 := hK.chk.dims.all
  have HKK := Lib.hid hK
  have HC := Lib.hid hc
  have HTS : Hid (tabS p ax inv ((k : Int), s1, s2, s3, s4) = (tabL p N neg inv ((k : Int), s1, s2, s3, s4), 0)) := Lib.hid (by
    rw [tabS, if_pos hc]
    dsimp only
    rw [Int.toNat_natCast, hK.get, hK.dim, Int.toNat_natCast])
  obtain ⟨tl, htl⟩ : ∃ tl, (tabL p N neg inv ((k : Int), s1, s2, s3, s4)).length = tl := ⟨_, rfl⟩
  have HTL := Lib.hid htl
  have HTL2 : Hid (((tabL p N neg inv ((k : Int), s1, s2, s3, s4), (0 : Int)).1).length = tl) := Lib.hid htl
  clear hc hK htl
  have b0 : (w.alloc (.cells #[.int .i64 (k : Int), .bool s1, .int .i64 s2, .int .i64 s3, .int .i64 s4] 39)).cell? ⟨w.heap.size, 0, none⟩ = some (.int .i64 (k : Int)) := HX0.out.cell (i := 0) rfl
  have b1 : (w.alloc (.cells #[.int .i64 (k : Int), .bool s1, .int .i64 s2, .int .i64 s3, .int .i64 s4] 39)).cell? ⟨w.heap.size, 1, none⟩ = some (.bool s1) := HX0.out.cell (i := 1) rfl
  have b2 : (w.alloc (.cells #[.int .i64 (k : Int), .bool s1, .int .i64 s2, .int .i64 s3, .int .i64 s4] 39)).cell? ⟨w.heap.size, 2, none⟩ = some (.int .i64 s2) := HX0.out.cell (i := 2) rfl
  have b3 : (w.alloc (.cells #[.int .i64 (k : Int), .bool s1, .int .i64 s2, .int .i64 s3, .int .i64 s4] 39)).cell? ⟨w.heap.size, 3, none⟩ = some (.int .i64 s3) := HX0.out.cell (i := 3) rfl
  have b4 : (w.alloc (.cells #[.int .i64 (k : Int), .bool s1, .int .i64 s2, .int .i64 s3, .int .i64 s4] 39)).cell? ⟨w.heap.size, 4, none⟩ = some (.int .i64 s4) := HX0.out.cell (i := 4) rfl
  go_enter Tryd.func48, Tryd.ntmps48
  go_wp2_with fail
  clear b0 b1 b2 b3 b4
  generalize (w.alloc (.cells #[.int .i64 (k : Int), .bool s1, .int .i64 s2, .int .i64 s3, .int .i64 s4] 39)) = V0' at *
  refine (r16grp_yes p A c n ax k s1 s2 s3 s4 N neg V0' HN.out HP.out HR0.out hl HW.out HC.out HKK.out).mono ?_
  rintro e w1 ⟨Z, z, hs, rfl, hz, hsl, hrw, hb⟩
  have HB1 := Lib.hid (blT HB0.out hb)
  have HR1 := Lib.hid (HR0.out.below hb)
  have HRX1 := Lib.hid (HRX0.out.below hb)
  have HX1 := Lib.hid (HX0.out.below hb)
  have HZ1 := Lib.hid hz
  have HRW1 := Lib.hid hrw
  have HSL := Lib.hid hsl
  clear hb hz hrw hsl
  go_wp2_with fail
  refine (rdims7_calls A c n ax w1 HN.out HR1.out hl).mono ?_
  rintro e w2 ⟨D, d, rfl, ho, hb⟩
  have HB2 := Lib.hid (blT HB1.out hb)
  have HR2 := Lib.hid (HR1.out.below hb)
  have HRX2 := Lib.hid (HRX1.out.below hb)
  have HX2 := Lib.hid (HX1.out.below hb)
  have HZ2 := Lib.hid (HZ1.out.below hb)
  have HRW2 : Hid (∀ i (h : i < hs.length), Row w2 hs[i].A (nums .i64 (grpG (dimsA ax) k s1 s2.toNat s3.toNat s4.toNat i).1) ∧ Row w2 hs[i].B (nums .i64 (grpG (dimsA ax) k s1 s2.toNat s3.toNat s4.toNat i).2.1) ∧ Row w2 hs[i].C (nums .i64 (grpG (dimsA ax) k s1 s2.toNat s3.toNat s4.toNat i).2.2)) := Lib.hid fun i h => ⟨(HRW1.out i h).1.below hb, (HRW1.out i h).2.1.below hb, (HRW1.out i h).2.2.below hb⟩
  have HD2 := Lib.hid ho.row
  clear ho hb HRW1 HZ1 HX1 HRX1 HR1
  go_wp2_with fail
  refine (r05_all_n D d n (dimsA ax) w2 HDL.out HD2.out (by omega) HDI.out).mono ?_
  rw [HAL.out]
  rintro e w2' ⟨rfl, rfl⟩
  generalize hPD : prodL (dimsA ax) = PD at *
  have HPD := Lib.hid hPD
  clear hPD
  by_cases hpx : PD = (m : Int)
  case neg =>
    have HF : Hid (doS16 p ax inv ((k : Int), s1, s2, s3, s4) x = ([], 6)) := Lib.hid (by
      have e : wrd16 p ax ((k : Int), s1, s2, s3, s4) x = 6 := by rw [wrd16, if_pos HC.out, if_neg (by rw [HPD.out, HM.out]; exact hpx)]
      rw [doS16, e]; rfl)
    have t0 : (PD != (m : Int)) = true := by simpa using hpx
    go_wp2
    go_ret2
    rw [HF.out]
    exact ⟨none, 0, rfl, Own.nil _ _ _ _, HB2.out⟩
  subst hpx
  have t0 : ((m : Int) != (m : Int)) = false := by simp
  go_wp2_with fail
  refine (r01_in_n p X cx m x w2' HM.out HRX2.out hlm).mono ?_
  rintro e w3 ⟨rfl, rfl⟩
  by_cases hin : inS p x = true
  case neg =>
    have hin' : inS p x = false := by simpa using hin
    have HF : Hid (doS16 p ax inv ((k : Int), s1, s2, s3, s4) x = ([], 7)) := Lib.hid (by
      have e : wrd16 p ax ((k : Int), s1, s2, s3, s4) x = 7 := by rw [wrd16, if_pos HC.out, if_pos (by rw [HPD.out, HM.out]), if_neg hin]
      rw [doS16, e]; rfl)
    go_wp2
    go_ret2
    rw [HF.out]
    exact ⟨none, 0, rfl, Own.nil _ _ _ _, HB2.out⟩
  have hpx : prodL (dimsA ax) = x.length := by rw [HPD.out, HM.out]
  have HF : Hid (doS16 p ax inv ((k : Int), s1, s2, s3, s4) x = (stepDo p ax inv ((k : Int), s1, s2, s3, s4) x, 0)) := Lib.hid (by
    have e : wrd16 p ax ((k : Int), s1, s2, s3, s4) x = 0 := by rw [wrd16, if_pos HC.out, if_pos hpx, if_pos hin]
    rw [doS16, if_pos e])
  have HLY : Hid (((stepDo p ax inv ((k : Int), s1, s2, s3, s4) x, (0 : Int)).1).length = m) := Lib.hid (by rw [stepDo_length]; exact HM.out)
  obtain ⟨Gn, hDK⟩ := do_all p ax inv k s1 s2 s3 s4 N neg m tl x HKK.out HM.out hpx hin HTL.out
  have HUT : Hid (∀ d ∈ tabL p N neg inv ((k : Int), s1, s2, s3, s4), U64 d) := Lib.hid (tabL_u64 p N neg inv ((k : Int), s1, s2, s3, s4))
  have htl1 : 1 ≤ tl := by have h1 := tabL_pos HKK.out inv; rw [HTL.out] at h1; exact h1
  have htl4 : tl ≤ 4096 := by have h1 := tabL_len HKK.out inv; rw [HTL.out] at h1; have h2 := HKK.out.c6.n2; omega
  have hm4 : m ≤ 4096 := by omega
  have hmk := make_u64 m (by omega)
  have b0 : w3.cell? ⟨w.heap.size, 0, none⟩ = some (.int .i64 (k : Int)) := HX2.out.cell (i := 0) rfl
  have b1 : w3.cell? ⟨w.heap.size, 1, none⟩ = some (.bool s1) := HX2.out.cell (i := 1) rfl
  have b2 : w3.cell? ⟨w.heap.size, 2, none⟩ = some (.int .i64 s2) := HX2.out.cell (i := 2) rfl
  have b3 : w3.cell? ⟨w.heap.size, 3, none⟩ = some (.int .i64 s3) := HX2.out.cell (i := 3) rfl
  have b4 : w3.cell? ⟨w.heap.size, 4, none⟩ = some (.int .i64 s4) := HX2.out.cell (i := 4) rfl
  go_wp2_with fail
  clear b0 b1 b2 b3 b4 hin hpx t0
  refine (rtab_calls p A c n ax inv (k : Int) s1 s2 s3 s4 w3 HN.out HP.out HR2.out hl HW.out).mono ?_
  rw [HTS.out, HTL2.out]
  rintro e w4 ⟨T, tc, rfl, ho, hb⟩
  have HB4 := Lib.hid (blT HB2.out hb)
  have HRX4 := Lib.hid (HRX2.out.below hb)
  have HX4 := Lib.hid (HX2.out.below hb)
  have HZ4 := Lib.hid (HZ2.out.below hb)
  have HRW4 : Hid (∀ i (h : i < hs.length), Row w4 hs[i].A (nums .i64 (grpG (dimsA ax) k s1 s2.toNat s3.toNat s4.toNat i).1) ∧ Row w4 hs[i].B (nums .i64 (grpG (dimsA ax) k s1 s2.toNat s3.toNat s4.toNat i).2.1) ∧ Row w4 hs[i].C (nums .i64 (grpG (dimsA ax) k s1 s2.toNat s3.toNat s4.toNat i).2.2)) := Lib.hid fun i h => ⟨(HRW2.out i h).1.below hb, (HRW2.out i h).2.1.below hb, (HRW2.out i h).2.2.below hb⟩
  have HT4 := Lib.hid ho.row
  clear ho hb HRW2 HZ2 HX2 HRX2 HR2 HD2 HTS HTL2 HKK HC HAL HDI HDL HR0 HRX0 HX0 HPD
  have HYL : Hid ((stepDo p ax inv ((k : Int), s1, s2, s3, s4) x).length = m) := HLY
  obtain ⟨y, hyy⟩ : ∃ y, y = stepDo p ax inv ((k : Int), s1, s2, s3, s4) x := ⟨_, rfl⟩
  rw [← hyy] at hDK HYL
  have HYY := Lib.hid hyy
  clear hyy
  generalize tabL p N neg inv ((k : Int), s1, s2, s3, s4) = tab at *
  generalize grpG (dimsA ax) k s1 s2.toNat s3.toNat s4.toNat = G at *
  generalize grpC (dimsA ax) k s1 s3.toNat s4.toNat = cnt at *
  obtain ⟨r, hrr⟩ : ∃ r, r = grpR s1 s2.toNat := ⟨_, rfl⟩
  rw [← hrr] at hDK HZ4
  clear hrr
  generalize s2.toNat = R at *
  have hr1 := hDK.r1
  have hr5 := hDK.r5
  have hc4 := hDK.c4
  have HDK := Lib.hid hDK
  clear hDK
  have hbV : Below w4.heap.size w4 (w4.alloc (.cells (madeCells #[.int .u64 0] m) 22)) := (Below.refl _ _).alloc (Nat.le_refl _) _
  have HBV := Lib.hid hbV
  have HB5 := Lib.hid (blT HB4.out hbV)
  have HG0 : Hid (InvD w4.heap.size (w4.alloc (.cells (madeCells #[.int .u64 0] m) 22)) m y Gn 0 (w4.alloc (.cells (madeCells #[.int .u64 0] m) 22))) := Lib.hid ⟨Grown.refl _ _, by
    rw [outN_zero, HYL.out, ← nums_replicate]
    exact own_made w4 w4.heap.size 22 (.int .u64 0) m (Nat.le_refl _) (by omega)⟩
  go_wp2
  clear hbV hmk
  generalize (w4.alloc (.cells (madeCells #[.int .u64 0] m) 22)) = V at *
  obtain ⟨og, hog⟩ : ∃ og, og = w4.heap.size := ⟨_, rfl⟩
  have HOG := Lib.hid hog
  rw [← hog] at HG0 ⊢
  clear hog
  go_loopw [63] (fun q ws => ∃ g : Nat, g ≤ cnt ∧ q = .int .i64 g ∧ Hid (InvD og V m y Gn g ws)) (fun q _ => cnt - (intOf q).toNat)
  case atStart => exact ⟨0, Nat.zero_le _, rfl, HG0⟩
  case round =>
    obtain ⟨g, hg, rfl, HIG⟩ := hrel
    by_cases hgt : g < cnt
    · have hgl : g < hs.length := by have := HSL.out; omega
      have hle : w4.heap.size ≤ og := by rw [HOG.out]; exact Nat.le_refl _
      have HOL : Hid (og < wr.heap.size) := Lib.hid (Own.base HIG.out.2).2
      obtain ⟨q1, q2, q3⟩ := HRW4.out g hgl
      have hli := HDK.out.lI g hgt
      have hlf := HDK.out.lF g hgt
      have hlo := HDK.out.lO g hgt
      have HRA := Lib.hid ((q1.toX (nums_ne (by omega)) HBV.out hle).grown HIG.out.1)
      have HRB := Lib.hid ((q2.toX (nums_ne (by omega)) HBV.out hle).grown HIG.out.1)
      have HRC := Lib.hid ((q3.toX (nums_ne (by omega)) HBV.out hle).grown HIG.out.1)
      have HRTX := Lib.hid ((HT4.out.toX (nums_ne (by rw [HTL.out]; exact htl1)) HBV.out hle).grown HIG.out.1)
      have HRXX := Lib.hid ((HRX4.out.toX (nums_ne (by rw [HM.out]; omega)) HBV.out hle).grown HIG.out.1)
      have HBX := Lib.hid ((HX4.out.toX (List.cons_ne_nil _ _) HBV.out hle).grown HIG.out.1)
      have HII := Lib.hid (HDK.out.iI g hgt)
      have HIF := Lib.hid (HDK.out.iF g hgt)
      have HIO := Lib.hid (HDK.out.iO g hgt)
      have HPUT := Lib.hid (HDK.out.put g hgt)
      have HDOS := Lib.hid fun h => HDK.out.dos h g hgt
      have HLI := Lib.hid hli
      have HLF := Lib.hid hlf
      have HLO := Lib.hid hlo
      have hne : hgR r hs ≠ [] := by intro h0; have h1 := hgR_length r hs; rw [h0] at h1; simp at h1; have h2 := HSL.out; omega
      have hzx := (HZ4.out.toX hne HBV.out hle).grown HIG.out.1
      obtain ⟨za, rfl⟩ := HZ4.out.some_of hne
      obtain ⟨d0, d1, d2⟩ := hg_cells hzx.1 hgl
      obtain ⟨⟨A1, B1, C1, ca1, cb1, cc1⟩, hh⟩ : ∃ h, hs[g] = h := ⟨_, rfl⟩
      rw [hh] at HRA HRB HRC d0 d1 d2
      dsimp only at HRA HRB HRC d0 d1 d2
      clear hh hgl q1 q2 q3 hne hzx
      generalize (G g).1 = I at *
      generalize (G g).2.1 = F at *
      generalize (G g).2.2 = O at *
      obtain ⟨ia, rfl⟩ := HRA.out.1.some_of (nums_ne (by omega))
      obtain ⟨fa, rfl⟩ := HRB.out.1.some_of (nums_ne (by omega))
      obtain ⟨oa, rfl⟩ := HRC.out.1.some_of (nums_ne (by omega))
      obtain ⟨xa, rfl⟩ := HRXX.out.1.some_of (nums_ne (by rw [HM.out]; omega))
      obtain ⟨ta, rfl⟩ := HRTX.out.1.some_of (nums_ne (by rw [HTL.out]; exact htl1))
      clear hli hlf hlo
      have hbG : Below wr.heap.size wr (wr.alloc (.cells #[.slice (some ia) r ca1, .slice (some fa) r cb1, .slice (some oa) r cc1] 72)) := (Below.refl _ _).alloc (Nat.le_refl _) _
      have HGB : Hid (RowX og (wr.alloc (.cells #[.slice (some ia) r ca1, .slice (some fa) r cb1, .slice (some oa) r cc1] 72)) (some ⟨wr.heap.size, 0, none⟩) [.slice (some ia) r ca1, .slice (some fa) r cb1, .slice (some oa) r cc1]) :=
        Lib.hid ⟨row_new wr [.slice (some ia) r ca1, .slice (some fa) r cb1, .slice (some oa) r cc1] 72, fun y hy => by cases hy; have h1 := HOL.out; dsimp only; omega⟩
      have HV9 : Hid (Grown og V (wr.alloc (.cells #[.slice (some ia) r ca1, .slice (some fa) r cb1, .slice (some oa) r cc1] 72))) := Lib.hid (HIG.out.1.below hbG)
      have HO9 := Lib.hid (HIG.out.2.grown hbG)
      have HRA9 := Lib.hid (HRA.out.below hbG)
      have HRB9 := Lib.hid (HRB.out.below hbG)
      have HRC9 := Lib.hid (HRC.out.below hbG)
      have HRT9 := Lib.hid (HRTX.out.below hbG)
      have HRX9 := Lib.hid (HRXX.out.below hbG)
      have HBX9 := Lib.hid (HBX.out.below hbG)
      have HOL9 : Hid (og < (wr.alloc (.cells #[.slice (some ia) r ca1, .slice (some fa) r cb1, .slice (some oa) r cc1] 72)).heap.size) := Lib.hid (Nat.lt_of_lt_of_le HOL.out hbG.size)
      have g0 := RowX.cellB HGB.out (i := 0) rfl
      clear hbG HRA HRB HRC HRTX HRXX HBX HIG HOL hle
      go_wp2
      clear d0 d1 d2 g0
      generalize (wr.alloc (.cells #[.slice (some ia) r ca1, .slice (some fa) r cb1, .slice (some oa) r cc1] 72)) = V9 at *
      generalize wr.heap.size = gb at *
      obtain ⟨rs, hrs⟩ : ∃ rs, rs = V9.heap.size := ⟨_, rfl⟩
      have HRS := Lib.hid hrs
      clear hrs
      have HZ0 : Hid (Below rs V9 V9) := Lib.hid (Below.refl _ _)
      go_hide hQ
      go_loopw [21, 70] (fun s21 s70 ws => ∃ (u : Nat) (A2 : Option Addr) (c2 : Nat), u ≤ r ∧ s70 = .int .i64 u ∧ s21 = .slice A2 u c2 ∧ Hid (Own ws rs 22 1 A2 u c2 (nums .u64 ((gatL x I).take u))) ∧ Hid (Below rs V9 ws)) (fun _ s70 _ => r - (intOf s70).toNat)
      case atStart => exact ⟨0, none, 0, Nat.zero_le _, rfl, rfl, Lib.hid (Own.nil _ _ _ _), HZ0⟩
      case round =>
        obtain ⟨u, A2, c2, hu, rfl, rfl, HOJ, HBJ⟩ := hrel
        by_cases hlu : u < r
        · have hti : u < I.length := by have := HLI.out; omega
          obtain ⟨i0, i1⟩ := HII.out _ (List.getElem_mem hti)
          have HBJ9 : Hid (Below V9.heap.size V9 wr) := Lib.hid (by rw [← HRS.out]; exact HBJ.out)
          have hci := (HRA9.out.below HBJ9.out).1.num hti
          have HE1 : Hid ((gatL x I).take (u + 1) = (gatL x I).take u ++ [x.getD (I[u]).toNat 0]) := Lib.hid (by rw [take_next (by rw [gatL_length]; exact hti), gatL_at x I hti, getD_of hti])
          generalize I[u] = iv at *
          obtain ⟨iv, rfl⟩ := Int.eq_ofNat_of_zero_le i0
          have hix : iv < x.length := by have := HM.out; omega
          have hcx := (HRX9.out.below HBJ9.out).1.num hix
          rw [Int.toNat_natCast, getD_of hix] at HE1
          generalize x[iv] = xi at *
          have hiv : iv < m := by omega
          have HSZ : Hid (rs ≤ wr.heap.size) := Lib.hid (by rw [HRS.out]; exact HBJ9.out.size)
          clear hti hix i0 i1
          go_wp2_with (at_builtin; refine append_row _ Tryd.underlying41 info_u64 rfl _ _ rfl rs u c2 1 1 A2 ⟨wr.heap.size, 0, none⟩ ((gatL x I).take u) [xi] rfl rfl (HOJ.out.grown ((Below.refl _ _).alloc (Nat.le_refl _) _)) (row_new wr [.int .u64 xi] 22) rfl (by decide) (Nat.le_trans HSZ.out (by simp)) (by omega) (by omega) ?_; intro g2 cap2 w6 hown hbel hgrow hlt5)
          have HO6 : Hid (Own w6 rs 22 1 (some ⟨g2, 0, none⟩) (u + 1) cap2 (nums .u64 ((gatL x I).take (u + 1)))) := Lib.hid (by rw [HE1.out]; exact hown)
          have HB6 : Hid (Below rs V9 w6) := Lib.hid ((HBJ.out.alloc HSZ.out _).trans (hbel.mono (Nat.le_refl _)))
          clear hown hbel hgrow hlt5
          go_roundw
          case rel => exact ⟨u + 1, some ⟨g2, 0, none⟩, cap2, by omega, by go_num, rfl, HO6, HB6⟩
          case measure => simp [intOf]; omega
        · have hue : u = r := by omega
          have HTA : Hid ((gatL x I).take r = gatL x I) := Lib.hid (List.take_of_length_le (by rw [gatL_length, HLI.out]; exact Nat.le_refl _))
          have HWL : Hid (Own wr rs 22 1 A2 r c2 (nums .u64 (gatL x I))) := Lib.hid (by have h1 := HOJ.out; rw [hue, HTA.out] at h1; exact h1)
          have HBJ9 : Hid (Below V9.heap.size V9 wr) := Lib.hid (by rw [← HRS.out]; exact HBJ.out)
          have HOR : Hid (og < rs) := Lib.hid (by rw [HRS.out]; exact HOL9.out)
          subst hue
          have HLW : Hid ((gatL x I).length = u) := Lib.hid (by rw [gatL_length]; exact HLI.out)
          have HRB5 := Lib.hid (HRB9.out.below HBJ9.out)
          have HRC5 := Lib.hid (HRC9.out.below HBJ9.out)
          have HRT5 := Lib.hid (HRT9.out.below HBJ9.out)
          have HBX5 := Lib.hid (HBX9.out.below HBJ9.out)
          have HGB5 := Lib.hid (HGB.out.below HBJ9.out)
          have HO5 := Lib.hid (HO9.out.grown HBJ9.out)
          have HV5 := Lib.hid (HV9.out.below HBJ9.out)
          have HWX5 : Hid (RowX og wr A2 (nums .u64 (gatL x I))) := Lib.hid (Own.rowX HWL.out HOR.out)
          have HUW : Hid (∀ d ∈ gatL x I, U64 d) := Lib.hid (gatL_u64 HWX.out)
          clear HRA9 HRB9 HRC9 HRT9 HBX9 HGB HO9 HV9 HRX9 HOJ HBJ HBJ9 HWL HTA
          have t1 := RowX.cellB HBX5.out (i := 1) rfl
          have g2 := RowX.cellB HGB5.out (i := 2) rfl
          go_wp2
          subst hQ
          cases s1
          case true =>
            go_wp2
            clear t1 g2
            have hwn : ∃ wN, wN = wr := ⟨_, rfl⟩
            obtain ⟨wr0, hwn⟩ := hwn
            rw [← hwn] at HWX5 HRB5 HRC5 HRT5 HGB5 HO5 HV5 HBX5 ⊢
            clear hwn
            have HPU : Hid (putN (outN y Gn g) O (grpV p (gatL x I) tab F) u = outN y Gn (g + 1)) := HPUT
            generalize gatL x I = YW at *
            have HWV := HWX5
            have HUV := HUW
            have HLV := HLW
            go_hide hQ2
            go_loopw [95] (fun q ws => ∃ t : Nat, t ≤ u ∧ q = .int .i64 t ∧ Hid (Own ws og 22 1 (some ⟨og, 0, none⟩) m m (nums .u64 (putN (outN y Gn g) O (grpV p YW tab F) t))) ∧ Hid (Grown og wr0 ws)) (fun q _ => u - (intOf q).toNat)
            case atStart => exact ⟨0, Nat.zero_le _, rfl, HO5, Lib.hid (Grown.refl _ _)⟩
            case round =>
              obtain ⟨t, ht, rfl, HOT, HGT⟩ := hrel
              by_cases htt : t < u
              · have hto : t < O.length := by have := HLO.out; omega
                have htf : t < F.length := by have := HLF.out; omega
                have htw : t < YW.length := by have := HLV.out; omega
                obtain ⟨v0, v1⟩ := HIO.out _ (List.getElem_mem hto)
                obtain ⟨f0, f1⟩ := HIF.out _ (List.getElem_mem htf)
                obtain ⟨wa, hwa⟩ := HWV.out.1.some_of (nums_ne (show 1 ≤ YW.length by omega))
                subst hwa
                have HST := Lib.hid (grpV_step p (outN y Gn g) O YW tab F hto htf)
                rw [getD_of hto, getD_of htf, getD_of htw] at HST
                have hco := (HRC5.out.grown HGT.out).1.num hto
                have hcf := (HRB5.out.grown HGT.out).1.num htf
                have hcw := (HWV.out.grown HGT.out).1.num htw
                have HUY1 : Hid (U64 YW[t]) := Lib.hid (HUV.out _ (List.getElem_mem htw))
                have hg1 := RowX.cellB (HGB5.out.grown HGT.out) (i := 1) rfl
                generalize O[t] = v at *
                generalize F[t] = f at *
                generalize YW[t] = yv at *
                obtain ⟨v, rfl⟩ := Int.eq_ofNat_of_zero_le v0
                obtain ⟨f, rfl⟩ := Int.eq_ofNat_of_zero_le f0
                have hft : f < tab.length := by have := HTL.out; omega
                have hct := (HRT5.out.grown HGT.out).1.num hft
                have HUT1 : Hid (U64 tab[f]) := Lib.hid (HUT.out _ (List.getElem_mem hft))
                rw [Int.toNat_natCast, Int.toNat_natCast, getD_of hft] at HST
                generalize tab[f] = tv at *
                have hvm : v < m := by omega
                have hftl : f < tl := by omega
                have HLP : Hid ((putN (outN y Gn g) O (grpV p YW tab F) t).length = m) := Lib.hid (by rw [putN_length, outN_length]; exact HYL.out)
                have hco2 := HOT.out.cellAt v hvm
                rw [nums_get .u64 _ v (by rw [HLP.out]; exact hvm)] at hco2
                generalize (putN (outN y Gn g) O (grpV p YW tab F) t)[v]'(by rw [HLP.out]; exact hvm) = old at *
                have HSO : Hid (∀ ws, Own ws og 22 1 (some ⟨og, 0, none⟩) m m (nums .u64 (putN (outN y Gn g) O (grpV p YW tab F) t)) → Own (ws.setCell ⟨og, v, none⟩ (.int .u64 (mulS p yv tv))) og 22 1 (some ⟨og, 0, none⟩) m m (nums .u64 (putN (outN y Gn g) O (grpV p YW tab F) (t + 1)))) := Lib.hid fun ws h => by
                  have h1 := h.stored v (.int .u64 (mulS p yv tv))
                  rw [nums_set, HST.out] at h1
                  exact h1
                clear HST hto htf htw v0 v1 f0 f1 hft HLP
                go_wp2
                have HOD := Lib.hid (HOT.out.drewN 1)
                have HGD := Lib.hid (HGT.out.drewN 1)
                have HSD : Hid ((fun w' => w'.cell? (wa.add t) = some (.int .u64 yv) ∧ w'.cell? ⟨gb, 1, none⟩ = some (.slice (some fa) u cb1) ∧ w'.cell? (fa.add t) = some (.int .i64 (f : Int)) ∧ w'.cell? (ta.add f) = some (.int .u64 tv)) wr.drew) := Lib.hid ⟨hcw, hg1, hcf, hct⟩
                have hc8 : wr.drew.cell? ⟨og, v, none⟩ = some (.int .u64 old) := hco2
                have HOD : Hid (Own wr.drew og 22 1 (some ⟨og, 0, none⟩) m m (nums .u64 (putN (outN y Gn g) O (grpV p YW tab F) t))) := HOD
                have HGD : Hid (Grown og wr0 wr.drew) := HGD
                refine region_marks2 (k := 18) (S := (fun w' => w'.cell? (wa.add t) = some (.int .u64 yv) ∧ w'.cell? ⟨gb, 1, none⟩ = some (.slice (some fa) u cb1) ∧ w'.cell? (fa.add t) = some (.int .i64 (f : Int)) ∧ w'.cell? (ta.add f) = some (.int .u64 tv))) (T := fun i => decide (i < 17)) HMX.out rfl HSD.out (fun hS => ?_)
                clear hco hcf hcw hct hg1 hco2 HOT HGT
                generalize wr.drew = wD at *
                have HMC := Lib.hid (r01_mul p yv tv wD HP.out HUY1.out HUT1.out)
                generalize mulS p yv tv = mv at *
                refine wpAnyT_take3 (i := 0) (v := ?_) rfl (by kernel_rfl) (by kernel_rfl) (by kernel_rfl) (by kernel_rfl) (by kernel_rfl) (fun _ _ _ h => h) hS (Or.inl ⟨by rfl, ?_⟩) ?_
                rotate_left
                · (intro w' hSw; (try dsimp only at hSw); go_simp; (try with_reducible rfl))
                (try simp only [Act.put, List.setIfInBounds_toArray, List.set_cons_zero, List.set_cons_succ])
                refine wpAnyT_take3 (i := 1) (v := ?_) rfl (by kernel_rfl) (by kernel_rfl) (by kernel_rfl) (by kernel_rfl) (by kernel_rfl) (fun _ _ _ h => h) hS (Or.inl ⟨by rfl, ?_⟩) ?_
                rotate_left
                · (intro w' hSw; (try dsimp only at hSw); go_simp; (try with_reducible rfl))
                (try simp only [Act.put, List.setIfInBounds_toArray, List.set_cons_zero, List.set_cons_succ])
                refine wpAnyT_take3 (i := 2) (v := ?_) rfl (by kernel_rfl) (by kernel_rfl) (by kernel_rfl) (by kernel_rfl) (by kernel_rfl) (fun _ _ _ h => h) hS (Or.inl ⟨by rfl, ?_⟩) ?_
                rotate_left
                · (intro w' hSw; (try dsimp only at hSw); go_simp; (try with_reducible rfl))
                (try simp only [Act.put, List.setIfInBounds_toArray, List.set_cons_zero, List.set_cons_succ])
                refine wpAnyT_take3 (i := 3) (v := ?_) rfl (by kernel_rfl) (by kernel_rfl) (by kernel_rfl) (by kernel_rfl) (by kernel_rfl) (fun _ _ _ h => h) hS (Or.inl ⟨by rfl, ?_⟩) ?_
                rotate_left
                · (intro w' hSw; (try dsimp only at hSw); go_simp; (try with_reducible rfl))
                (try simp only [Act.put, List.setIfInBounds_toArray, List.set_cons_zero, List.set_cons_succ])
                refine wpAnyT_take3 (i := 4) (v := ?_) rfl (by kernel_rfl) (by kernel_rfl) (by kernel_rfl) (by kernel_rfl) (by kernel_rfl) (fun _ _ _ h => h) hS (Or.inl ⟨by rfl, ?_⟩) ?_
                rotate_left
                · (intro w' hSw; (try dsimp only at hSw); go_simp; (try with_reducible rfl))
                (try simp only [Act.put, List.setIfInBounds_toArray, List.set_cons_zero, List.set_cons_succ])
                refine wpAnyT_take3 (i := 5) (v := ?_) rfl (by kernel_rfl) (by kernel_rfl) (by kernel_rfl) (by kernel_rfl) (by kernel_rfl) (fun _ _ _ h => h) hS (Or.inl ⟨by rfl, ?_⟩) ?_
                rotate_left
                · (intro w' hSw; (try dsimp only at hSw); go_simp; (try with_reducible rfl))
                (try simp only [Act.put, List.setIfInBounds_toArray, List.set_cons_zero, List.set_cons_succ])
                refine wpAnyT_take3 (i := 6) (v := ?_) rfl (by kernel_rfl) (by kernel_rfl) (by kernel_rfl) (by kernel_rfl) (by kernel_rfl) (fun _ _ _ h => h) hS (Or.inl ⟨by rfl, ?_⟩) ?_
                rotate_left
                · (intro w' hSw; (try dsimp only at hSw); go_simp; (try with_reducible rfl))
                (try simp only [Act.put, List.setIfInBounds_toArray, List.set_cons_zero, List.set_cons_succ])
                refine wpAnyT_take3 (i := 7) (v := ?_) rfl (by kernel_rfl) (by kernel_rfl) (by kernel_rfl) (by kernel_rfl) (by kernel_rfl) (fun _ _ _ h => h) hS (Or.inl ⟨by rfl, ?_⟩) ?_
                rotate_left
                · (intro w' hSw; (try dsimp only at hSw); go_simp; (try with_reducible rfl))
                (try simp only [Act.put, List.setIfInBounds_toArray, List.set_cons_zero, List.set_cons_succ])
                refine wpAnyT_take3 (i := 8) (v := ?_) rfl (by kernel_rfl) (by kernel_rfl) (by kernel_rfl) (by kernel_rfl) (by kernel_rfl) (fun _ _ _ h => h) hS (Or.inl ⟨by rfl, ?_⟩) ?_
                rotate_left
                · (intro w' hSw; (try dsimp only at hSw); go_simp; (try with_reducible rfl))
                (try simp only [Act.put, List.setIfInBounds_toArray, List.set_cons_zero, List.set_cons_succ])
                refine wpAnyT_take3 (i := 9) (v := ?_) rfl (by kernel_rfl) (by kernel_rfl) (by kernel_rfl) (by kernel_rfl) (by kernel_rfl) (fun _ _ _ h => h) hS (Or.inl ⟨by rfl, ?_⟩) ?_
                rotate_left
                · (intro w' hSw; (try dsimp only at hSw); go_simp; (try with_reducible rfl))
                (try simp only [Act.put, List.setIfInBounds_toArray, List.set_cons_zero, List.set_cons_succ])
                refine wpAnyT_take3 (i := 10) (v := ?_) rfl (by kernel_rfl) (by kernel_rfl) (by kernel_rfl) (by kernel_rfl) (by kernel_rfl) (fun _ _ _ h => h) hS (Or.inl ⟨by rfl, ?_⟩) ?_
                rotate_left
                · (intro w' hSw; (try dsimp only at hSw); go_simp; (try with_reducible rfl))
                (try simp only [Act.put, List.setIfInBounds_toArray, List.set_cons_zero, List.set_cons_succ])
                refine wpAnyT_take3 (i := 11) (v := ?_) rfl (by kernel_rfl) (by kernel_rfl) (by kernel_rfl) (by kernel_rfl) (by kernel_rfl) (fun _ _ _ h => h) hS (Or.inl ⟨by rfl, ?_⟩) ?_
                rotate_left
                · (intro w' hSw; (try dsimp only at hSw); go_simp; (try with_reducible rfl))
                (try simp only [Act.put, List.setIfInBounds_toArray, List.set_cons_zero, List.set_cons_succ])
                refine wpAnyT_take3 (i := 12) (v := ?_) rfl (by kernel_rfl) (by kernel_rfl) (by kernel_rfl) (by kernel_rfl) (by kernel_rfl) (fun _ _ _ h => h) hS (Or.inl ⟨by rfl, ?_⟩) ?_
                rotate_left
                · (intro w' hSw; (try dsimp only at hSw); go_simp; (try with_reducible rfl))
                (try simp only [Act.put, List.setIfInBounds_toArray, List.set_cons_zero, List.set_cons_succ])
                refine wpAnyT_take3 (i := 13) (v := ?_) rfl (by kernel_rfl) (by kernel_rfl) (by kernel_rfl) (by kernel_rfl) (by kernel_rfl) (fun _ _ _ h => h) hS (Or.inl ⟨by rfl, ?_⟩) ?_
                rotate_left
                · (intro w' hSw; (try dsimp only at hSw); go_simp; (try with_reducible rfl))
                (try simp only [Act.put, List.setIfInBounds_toArray, List.set_cons_zero, List.set_cons_succ])
                refine wpAnyT_take3 (i := 14) (v := ?_) rfl (by kernel_rfl) (by kernel_rfl) (by kernel_rfl) (by kernel_rfl) (by kernel_rfl) (fun _ _ _ h => h) hS (Or.inl ⟨by rfl, ?_⟩) ?_
                rotate_left
                · (intro w' hSw; (try dsimp only at hSw); go_simp; (try with_reducible rfl))
                (try simp only [Act.put, List.setIfInBounds_toArray, List.set_cons_zero, List.set_cons_succ])
                refine wpAnyT_one (i := 15) (by kernel_rfl) rfl (fun K hK => ?_)
                go_simp
                refine HMC.out.mono ?_
                rintro e wE ⟨rfl, hwE⟩
                have HOE2 : Hid (Own wE og 22 1 (some ⟨og, 0, none⟩) m m (nums .u64 (putN (outN y Gn g) O (grpV p YW tab F) t))) := Lib.hid (by rw [hwE]; exact HOD.out)
                have HGE2 : Hid (Grown og wr0 wE) := Lib.hid (by rw [hwE]; exact HGD.out)
                have HSE : Hid ((fun w' => w'.cell? (wa.add t) = some (.int .u64 yv) ∧ w'.cell? ⟨gb, 1, none⟩ = some (.slice (some fa) u cb1) ∧ w'.cell? (fa.add t) = some (.int .i64 (f : Int)) ∧ w'.cell? (ta.add f) = some (.int .u64 tv)) wE) := Lib.hid (by rw [hwE]; exact hS)
                have hc8 : wE.cell? ⟨og, v, none⟩ = some (.int .u64 old) := by rw [hwE]; exact hc8
                have hf : wE.frozen? ⟨og, v, none⟩ = false := HOE2.out.frozenAt v
                refine hK _ _ (fun _ => HSE.out) ?_
                clear hK K
                (try simp only [Act.put, List.setIfInBounds_toArray, List.set_cons_zero, List.set_cons_succ])
                clear hwE hS
                have hS := HSE.out
                refine wpAnyT_take3 (i := 16) (v := ?_) rfl (by kernel_rfl) (by kernel_rfl) (by kernel_rfl) (by kernel_rfl) (by kernel_rfl) (fun _ _ _ h => h) hS (Or.inl ⟨by rfl, ?_⟩) ?_
                rotate_left
                · (intro w' hSw; (try dsimp only at hSw); go_simp; (try with_reducible rfl))
                (try simp only [Act.put, List.setIfInBounds_toArray, List.set_cons_zero, List.set_cons_succ])
                refine wpAnyT_one (i := 17) (by kernel_rfl) rfl (fun K hK => ?_)
                go_simp
                refine hK _ _ (fun h => absurd h (by decide)) ?_
                clear hK K
                (try simp only [Act.put, List.setIfInBounds_toArray, List.set_cons_zero, List.set_cons_succ])
                refine wpAnyT_done (by kernel_rfl) ?_ _
                refine NoPanic.normal ?_
                clear hS hf hc8 HSD
                have HON := Lib.hid (HSO.out _ HOE2.out)
                have HGN := Lib.hid (HGE2.out.setCell v (.int .u64 mv))
                clear HSO HOE2 HGE2 HMC HOD HGD
                go_wp2
                go_roundw
                case rel => exact ⟨t + 1, by omega, by go_num, HON, HGN⟩
                case measure => simp [intOf]; omega
              · have hte : t = u := by omega
                have HIN : Hid (InvD og V m y Gn (g + 1) wr) := Lib.hid ⟨HV5.out.trans HGT.out, by have h1 := HOT.out; rw [hte, HPU.out] at h1; exact h1⟩
                clear hte
                go_wp2
                subst hQ2
                go_wp2
                go_roundw
                case rel => exact ⟨g + 1, by omega, by go_num, HIN⟩
                case measure => simp [intOf]; omega
          case false =>
            go_wp2_with fail
            clear t1 g2
            refine (r15_do p inv A2 u c2 (gatL x I) wr HLW.out HP.out HWX5.out.1 (by omega) HUW.out).mono ?_
            rw [HDOS.out (by first | rfl | trivial)]
            have HLV : Hid ((grpY p false R inv (gatL x I)).length = u) := Lib.hid (by unfold grpY; rw [if_neg (by decide), doL_length]; exact HLW.out)
            have HUV : Hid (∀ d ∈ grpY p false R inv (gatL x I), U64 d) := Lib.hid (by unfold grpY; rw [if_neg (by decide)]; exact doL_u64 _ _ _)
            have HPU := HPUT
            generalize grpY p false R inv (gatL x I) = YW at *
            dsimp only
            rw [HLV.out]
            rintro e w7 ⟨A3, c3, rfl, ho7, hb7⟩
            have HWV : Hid (RowX og w7 A3 (nums .u64 YW)) := Lib.hid (Own.rowX ho7 (by have h1 := HO5.out; have h2 := (Own.base h1).2; exact h2))
            have HRB6 := Lib.hid (HRB5.out.below hb7)
            have HRC6 := Lib.hid (HRC5.out.below hb7)
            have HRT6 := Lib.hid (HRT5.out.below hb7)
            have HGB6 := Lib.hid (HGB5.out.below hb7)
            have HO6 := Lib.hid (HO5.out.grown hb7)
            have HV6 := Lib.hid (HV5.out.below hb7)
            clear ho7 hb7 HRB5 HRC5 HRT5 HGB5 HO5 HV5 HBX5 HWX5
            have HRB5 := HRB6
            have HRC5 := HRC6
            have HRT5 := HRT6
            have HGB5 := HGB6
            have HO5 := HO6
            have HV5 := HV6
            clear HRB6 HRC6 HRT6 HGB6 HO6 HV6
            have g2 := RowX.cellB HGB5.out (i := 2) rfl
            go_wp2
            clear g2
            go_hide hQ2
            go_loopw [95] (fun q ws => ∃ t : Nat, t ≤ u ∧ q = .int .i64 t ∧ Hid (Own ws og 22 1 (some ⟨og, 0, none⟩) m m (nums .u64 (putN (outN y Gn g) O (grpV p YW tab F) t))) ∧ Hid (Grown og w7 ws)) (fun q _ => u - (intOf q).toNat)
            case atStart => exact ⟨0, Nat.zero_le _, rfl, HO5, Lib.hid (Grown.refl _ _)⟩
            case round =>
              obtain ⟨t, ht, rfl, HOT, HGT⟩ := hrel
              by_cases htt : t < u
              · have hto : t < O.length := by have := HLO.out; omega
                have htf : t < F.length := by have := HLF.out; omega
                have htw : t < YW.length := by have := HLV.out; omega
                obtain ⟨v0, v1⟩ := HIO.out _ (List.getElem_mem hto)
                obtain ⟨f0, f1⟩ := HIF.out _ (List.getElem_mem htf)
                obtain ⟨wa, hwa⟩ := HWV.out.1.some_of (nums_ne (show 1 ≤ YW.length by omega))
                subst hwa
                have HST := Lib.hid (grpV_step p (outN y Gn g) O YW tab F hto htf)
                rw [getD_of hto, getD_of htf, getD_of htw] at HST
                have hco := (HRC5.out.grown HGT.out).1.num hto
                have hcf := (HRB5.out.grown HGT.out).1.num htf
                have hcw := (HWV.out.grown HGT.out).1.num htw
                have HUY1 : Hid (U64 YW[t]) := Lib.hid (HUV.out _ (List.getElem_mem htw))
                have hg1 := RowX.cellB (HGB5.out.grown HGT.out) (i := 1) rfl
                generalize O[t] = v at *
                generalize F[t] = f at *
                generalize YW[t] = yv at *
                obtain ⟨v, rfl⟩ := Int.eq_ofNat_of_zero_le v0
                obtain ⟨f, rfl⟩ := Int.eq_ofNat_of_zero_le f0
                have hft : f < tab.length := by have := HTL.out; omega
                have hct := (HRT5.out.grown HGT.out).1.num hft
                have HUT1 : Hid (U64 tab[f]) := Lib.hid (HUT.out _ (List.getElem_mem hft))
                rw [Int.toNat_natCast, Int.toNat_natCast, getD_of hft] at HST
                generalize tab[f] = tv at *
                have hvm : v < m := by omega
                have hftl : f < tl := by omega
                have HLP : Hid ((putN (outN y Gn g) O (grpV p YW tab F) t).length = m) := Lib.hid (by rw [putN_length, outN_length]; exact HYL.out)
                have hco2 := HOT.out.cellAt v hvm
                rw [nums_get .u64 _ v (by rw [HLP.out]; exact hvm)] at hco2
                generalize (putN (outN y Gn g) O (grpV p YW tab F) t)[v]'(by rw [HLP.out]; exact hvm) = old at *
                have HSO : Hid (∀ ws, Own ws og 22 1 (some ⟨og, 0, none⟩) m m (nums .u64 (putN (outN y Gn g) O (grpV p YW tab F) t)) → Own (ws.setCell ⟨og, v, none⟩ (.int .u64 (mulS p yv tv))) og 22 1 (some ⟨og, 0, none⟩) m m (nums .u64 (putN (outN y Gn g) O (grpV p YW tab F) (t + 1)))) := Lib.hid fun ws h => by
                  have h1 := h.stored v (.int .u64 (mulS p yv tv))
                  rw [nums_set, HST.out] at h1
                  exact h1
                clear HST hto htf htw v0 v1 f0 f1 hft HLP
                go_wp2
                have HOD := Lib.hid (HOT.out.drewN 1)
                have HGD := Lib.hid (HGT.out.drewN 1)
                have HSD : Hid ((fun w' => w'.cell? (wa.add t) = some (.int .u64 yv) ∧ w'.cell? ⟨gb, 1, none⟩ = some (.slice (some fa) u cb1) ∧ w'.cell? (fa.add t) = some (.int .i64 (f : Int)) ∧ w'.cell? (ta.add f) = some (.int .u64 tv)) wr.drew) := Lib.hid ⟨hcw, hg1, hcf, hct⟩
                have hc8 : wr.drew.cell? ⟨og, v, none⟩ = some (.int .u64 old) := hco2
                have HOD : Hid (Own wr.drew og 22 1 (some ⟨og, 0, none⟩) m m (nums .u64 (putN (outN y Gn g) O (grpV p YW tab F) t))) := HOD
                have HGD : Hid (Grown og w7 wr.drew) := HGD
                refine region_marks2 (k := 18) (S := (fun w' => w'.cell? (wa.add t) = some (.int .u64 yv) ∧ w'.cell? ⟨gb, 1, none⟩ = some (.slice (some fa) u cb1) ∧ w'.cell? (fa.add t) = some (.int .i64 (f : Int)) ∧ w'.cell? (ta.add f) = some (.int .u64 tv))) (T := fun i => decide (i < 17)) HMX.out rfl HSD.out (fun hS => ?_)
                clear hco hcf hcw hct hg1 hco2 HOT HGT
                generalize wr.drew = wD at *
                have HMC := Lib.hid (r01_mul p yv tv wD HP.out HUY1.out HUT1.out)
                generalize mulS p yv tv = mv at *
                refine wpAnyT_take3 (i := 0) (v := ?_) rfl (by kernel_rfl) (by kernel_rfl) (by kernel_rfl) (by kernel_rfl) (by kernel_rfl) (fun _ _ _ h => h) hS (Or.inl ⟨by rfl, ?_⟩) ?_
                rotate_left
                · (intro w' hSw; (try dsimp only at hSw); go_simp; (try with_reducible rfl))
                (try simp only [Act.put, List.setIfInBounds_toArray, List.set_cons_zero, List.set_cons_succ])
                refine wpAnyT_take3 (i := 1) (v := ?_) rfl (by kernel_rfl) (by kernel_rfl) (by kernel_rfl) (by kernel_rfl) (by kernel_rfl) (fun _ _ _ h => h) hS (Or.inl ⟨by rfl, ?_⟩) ?_
                rotate_left
                · (intro w' hSw; (try dsimp only at hSw); go_simp; (try with_reducible rfl))
                (try simp only [Act.put, List.setIfInBounds_toArray, List.set_cons_zero, List.set_cons_succ])
                refine wpAnyT_take3 (i := 2) (v := ?_) rfl (by kernel_rfl) (by kernel_rfl) (by kernel_rfl) (by kernel_rfl) (by kernel_rfl) (fun _ _ _ h => h) hS (Or.inl ⟨by rfl, ?_⟩) ?_
                rotate_left
                · (intro w' hSw; (try dsimp only at hSw); go_simp; (try with_reducible rfl))
                (try simp only [Act.put, List.setIfInBounds_toArray, List.set_cons_zero, List.set_cons_succ])
                refine wpAnyT_take3 (i := 3) (v := ?_) rfl (by kernel_rfl) (by kernel_rfl) (by kernel_rfl) (by kernel_rfl) (by kernel_rfl) (fun _ _ _ h => h) hS (Or.inl ⟨by rfl, ?_⟩) ?_
                rotate_left
                · (intro w' hSw; (try dsimp only at hSw); go_simp; (try with_reducible rfl))
                (try simp only [Act.put, List.setIfInBounds_toArray, List.set_cons_zero, List.set_cons_succ])
                refine wpAnyT_take3 (i := 4) (v := ?_) rfl (by kernel_rfl) (by kernel_rfl) (by kernel_rfl) (by kernel_rfl) (by kernel_rfl) (fun _ _ _ h => h) hS (Or.inl ⟨by rfl, ?_⟩) ?_
                rotate_left
                · (intro w' hSw; (try dsimp only at hSw); go_simp; (try with_reducible rfl))
                (try simp only [Act.put, List.setIfInBounds_toArray, List.set_cons_zero, List.set_cons_succ])
                refine wpAnyT_take3 (i := 5) (v := ?_) rfl (by kernel_rfl) (by kernel_rfl) (by kernel_rfl) (by kernel_rfl) (by kernel_rfl) (fun _ _ _ h => h) hS (Or.inl ⟨by rfl, ?_⟩) ?_
                rotate_left
                · (intro w' hSw; (try dsimp only at hSw); go_simp; (try with_reducible rfl))
                (try simp only [Act.put, List.setIfInBounds_toArray, List.set_cons_zero, List.set_cons_succ])
                refine wpAnyT_take3 (i := 6) (v := ?_) rfl (by kernel_rfl) (by kernel_rfl) (by kernel_rfl) (by kernel_rfl) (by kernel_rfl) (fun _ _ _ h => h) hS (Or.inl ⟨by rfl, ?_⟩) ?_
                rotate_left
                · (intro w' hSw; (try dsimp only at hSw); go_simp; (try with_reducible rfl))
                (try simp only [Act.put, List.setIfInBounds_toArray, List.set_cons_zero, List.set_cons_succ])
                refine wpAnyT_take3 (i := 7) (v := ?_) rfl (by kernel_rfl) (by kernel_rfl) (by kernel_rfl) (by kernel_rfl) (by kernel_rfl) (fun _ _ _ h => h) hS (Or.inl ⟨by rfl, ?_⟩) ?_
                rotate_left
                · (intro w' hSw; (try dsimp only at hSw); go_simp; (try with_reducible rfl))
                (try simp only [Act.put, List.setIfInBounds_toArray, List.set_cons_zero, List.set_cons_succ])
                refine wpAnyT_take3 (i := 8) (v := ?_) rfl (by kernel_rfl) (by kernel_rfl) (by kernel_rfl) (by kernel_rfl) (by kernel_rfl) (fun _ _ _ h => h) hS (Or.inl ⟨by rfl, ?_⟩) ?_
                rotate_left
                · (intro w' hSw; (try dsimp only at hSw); go_simp; (try with_reducible rfl))
                (try simp only [Act.put, List.setIfInBounds_toArray, List.set_cons_zero, List.set_cons_succ])
                refine wpAnyT_take3 (i := 9) (v := ?_) rfl (by kernel_rfl) (by kernel_rfl) (by kernel_rfl) (by kernel_rfl) (by kernel_rfl) (fun _ _ _ h => h) hS (Or.inl ⟨by rfl, ?_⟩) ?_
                rotate_left
                · (intro w' hSw; (try dsimp only at hSw); go_simp; (try with_reducible rfl))
                (try simp only [Act.put, List.setIfInBounds_toArray, List.set_cons_zero, List.set_cons_succ])
                refine wpAnyT_take3 (i := 10) (v := ?_) rfl (by kernel_rfl) (by kernel_rfl) (by kernel_rfl) (by kernel_rfl) (by kernel_rfl) (fun _ _ _ h => h) hS (Or.inl ⟨by rfl, ?_⟩) ?_
                rotate_left
                · (intro w' hSw; (try dsimp only at hSw); go_simp; (try with_reducible rfl))
                (try simp only [Act.put, List.setIfInBounds_toArray, List.set_cons_zero, List.set_cons_succ])
                refine wpAnyT_take3 (i := 11) (v := ?_) rfl (by kernel_rfl) (by kernel_rfl) (by kernel_rfl) (by kernel_rfl) (by kernel_rfl) (fun _ _ _ h => h) hS (Or.inl ⟨by rfl, ?_⟩) ?_
                rotate_left
                · (intro w' hSw; (try dsimp only at hSw); go_simp; (try with_reducible rfl))
                (try simp only [Act.put, List.setIfInBounds_toArray, List.set_cons_zero, List.set_cons_succ])
                refine wpAnyT_take3 (i := 12) (v := ?_) rfl (by kernel_rfl) (by kernel_rfl) (by kernel_rfl) (by kernel_rfl) (by kernel_rfl) (fun _ _ _ h => h) hS (Or.inl ⟨by rfl, ?_⟩) ?_
                rotate_left
                · (intro w' hSw; (try dsimp only at hSw); go_simp; (try with_reducible rfl))
                (try simp only [Act.put, List.setIfInBounds_toArray, List.set_cons_zero, List.set_cons_succ])
                refine wpAnyT_take3 (i := 13) (v := ?_) rfl (by kernel_rfl) (by kernel_rfl) (by kernel_rfl) (by kernel_rfl) (by kernel_rfl) (fun _ _ _ h => h) hS (Or.inl ⟨by rfl, ?_⟩) ?_
                rotate_left
                · (intro w' hSw; (try dsimp only at hSw); go_simp; (try with_reducible rfl))
                (try simp only [Act.put, List.setIfInBounds_toArray, List.set_cons_zero, List.set_cons_succ])
                refine wpAnyT_take3 (i := 14) (v := ?_) rfl (by kernel_rfl) (by kernel_rfl) (by kernel_rfl) (by kernel_rfl) (by kernel_rfl) (fun _ _ _ h => h) hS (Or.inl ⟨by rfl, ?_⟩) ?_
                rotate_left
                · (intro w' hSw; (try dsimp only at hSw); go_simp; (try with_reducible rfl))
                (try simp only [Act.put, List.setIfInBounds_toArray, List.set_cons_zero, List.set_cons_succ])
                refine wpAnyT_one (i := 15) (by kernel_rfl) rfl (fun K hK => ?_)
                go_simp
                refine HMC.out.mono ?_
                rintro e wE ⟨rfl, hwE⟩
                have HOE2 : Hid (Own wE og 22 1 (some ⟨og, 0, none⟩) m m (nums .u64 (putN (outN y Gn g) O (grpV p YW tab F) t))) := Lib.hid (by rw [hwE]; exact HOD.out)
                have HGE2 : Hid (Grown og w7 wE) := Lib.hid (by rw [hwE]; exact HGD.out)
                have HSE : Hid ((fun w' => w'.cell? (wa.add t) = some (.int .u64 yv) ∧ w'.cell? ⟨gb, 1, none⟩ = some (.slice (some fa) u cb1) ∧ w'.cell? (fa.add t) = some (.int .i64 (f : Int)) ∧ w'.cell? (ta.add f) = some (.int .u64 tv)) wE) := Lib.hid (by rw [hwE]; exact hS)
                have hc8 : wE.cell? ⟨og, v, none⟩ = some (.int .u64 old) := by rw [hwE]; exact hc8
                have hf : wE.frozen? ⟨og, v, none⟩ = false := HOE2.out.frozenAt v
                refine hK _ _ (fun _ => HSE.out) ?_
                clear hK K
                (try simp only [Act.put, List.setIfInBounds_toArray, List.set_cons_zero, List.set_cons_succ])
                clear hwE hS
                have hS := HSE.out
                refine wpAnyT_take3 (i := 16) (v := ?_) rfl (by kernel_rfl) (by kernel_rfl) (by kernel_rfl) (by kernel_rfl) (by kernel_rfl) (fun _ _ _ h => h) hS (Or.inl ⟨by rfl, ?_⟩) ?_
                rotate_left
                · (intro w' hSw; (try dsimp only at hSw); go_simp; (try with_reducible rfl))
                (try simp only [Act.put, List.setIfInBounds_toArray, List.set_cons_zero, List.set_cons_succ])
                refine wpAnyT_one (i := 17) (by kernel_rfl) rfl (fun K hK => ?_)
                go_simp
                refine hK _ _ (fun h => absurd h (by decide)) ?_
                clear hK K
                (try simp only [Act.put, List.setIfInBounds_toArray, List.set_cons_zero, List.set_cons_succ])
                refine wpAnyT_done (by kernel_rfl) ?_ _
                refine NoPanic.normal ?_
                clear hS hf hc8 HSD
                have HON := Lib.hid (HSO.out _ HOE2.out)
                have HGN := Lib.hid (HGE2.out.setCell v (.int .u64 mv))
                clear HSO HOE2 HGE2 HMC HOD HGD
                go_wp2
                go_roundw
                case rel => exact ⟨t + 1, by omega, by go_num, HON, HGN⟩
                case measure => simp [intOf]; omega
              · have hte : t = u := by omega
                have HIN : Hid (InvD og V m y Gn (g + 1) wr) := Lib.hid ⟨HV5.out.trans HGT.out, by have h1 := HOT.out; rw [hte, HPU.out] at h1; exact h1⟩
                clear hte
                go_wp2
                subst hQ2
                go_wp2
                go_roundw
                case rel => exact ⟨g + 1, by omega, by go_num, HIN⟩
                case measure => simp [intOf]; omega
    · have hge : g = cnt := by omega
      have HOE : Hid (Own wr w.heap.size 22 1 (some ⟨og, 0, none⟩) m m (nums .u64 y)) := Lib.hid (by
        have h1 := HIG.out.2
        rw [hge, HDK.out.fin] at h1
        exact h1.mono (by rw [HOG.out]; exact HB4.out.size))
      have HBE : Hid (Below w.heap.size w wr) := Lib.hid (HB5.out.trans (HIG.out.1.of_below (by rw [HOG.out]; exact HB4.out.size) HB5.out.size))
      clear hge
      go_wp2
      go_ret2
      rw [HF.out, HLY.out]
      exact ⟨_, _, rfl, by rw [← HYY.out]; exact HOE.out, HBE.out⟩
end Go.Proofs.YtohcoidbncbijaaDoor.P
/- The contract of brackenref14's Sums. Conditions: words of their kinds; the slice reads as a list; no more words than there may be; a prime that is known. -/
namespace Go.Proofs.YtohcoidbncbijaaDoor.P
open Go.RowKit
set_option linter.unusedVariables false
set_option linter.unusedSimpArgs false
set_option maxRecDepth 100000 in
set_option maxHeartbeats 4000000 in
theorem rsum14_calls (p : Int) (X : Option Addr) (cnt cx : Nat) (x : List Int) (w : World) (hx : x.length = cnt) (hp : U64 p) (hr : Row w X (nums .u64 x)) (hl : cnt ≤ 4096) (hux : ∀ d ∈ x, U64 d) (hk : knownS p = true) :
    Calls Tryd.prog 96 #[.int .u64 p, .slice X cnt cx] w fun e w' => e = .returned (.tuple #[.agg #[.int .u64 (redS p (csum one' x)), .int .u64 (redS p (csum plc' x))], .int .i64 0]) ∧ Below w.heap.size w w' := by
  have HP := Lib.hid hp
  have HK := Lib.hid hk
  have HN := Lib.hid hx
  have HU := Lib.hid hux
  have HRW := Lib.hid hr
  have hmx : Tryd.prog.follows .mixedOrders = true := by kernel_rfl
  have HMX := Lib.hid hmx
  have HF1 : Hid (preC p one' x cnt = redS p (csum one' x)) := Lib.hid (by rw [← hx]; exact preC_all p one' x)
  have HF2 : Hid (preC p plc' x cnt = redS p (csum plc' x)) := Lib.hid (by rw [← hx]; exact preC_all p plc' x)
  have hbA : Below w.heap.size w (w.alloc (.cells #[.int .u64 0, .int .u64 0] 77)) := (Below.refl _ _).alloc (Nat.le_refl _) _
  have HBA := Lib.hid hbA
  have HOA : Hid (Own (w.alloc (.cells #[.int .u64 0, .int .u64 0] 77)) w.heap.size 77 1 (some ⟨w.heap.size, 0, none⟩) 2 2 [.int .u64 0, .int .u64 0]) := Lib.hid (own_one w w.heap.size 77 [.int .u64 0, .int .u64 0] 2 (Nat.le_refl _) rfl (by decide))
  have HSZ : Hid ((w.alloc (.cells #[.int .u64 0, .int .u64 0] 77)).heap.size = w.heap.size + 1) := Lib.hid (by simp)
  have f0 : decide ((4096 : Int) < (cnt : Int)) = false := by simp; omega
  have f1 : decide (4096 < cnt) = false := by simp; omega
  clear hbA hr hx hux hk hp hmx
  go_enter Tryd.func96, Tryd.ntmps96
  go_wp2_with fail
  generalize (w.alloc (.cells #[.int .u64 0, .int .u64 0] 77)) = w1 at *
  refine (r01_known p w1).mono ?_
  rw [HK.out]
  rintro e w2 ⟨rfl, h2⟩
  subst h2
  have hsz := HSZ.out
  have hbV : Below w2.heap.size w2 (w2.alloc (.cells #[.int .u64 0, .int .u64 0] 77)) := (Below.refl _ _).alloc (Nat.le_refl _) _
  have HOV := Lib.hid (HOA.out.grown hbV)
  have HBV : Hid (Below w.heap.size w (w2.alloc (.cells #[.int .u64 0, .int .u64 0] 77))) := Lib.hid (HBA.out.trans (hbV.mono (by omega)))
  have hOT := own_one w2 w.heap.size 77 [.int .u64 0, .int .u64 0] 2 (by omega) rfl (by decide)
  rw [hsz] at hOT
  have HOT : Hid (Own (w2.alloc (.cells #[.int .u64 0, .int .u64 0] 77)) w.heap.size 77 1 (some ⟨w.heap.size + 1, 0, none⟩) 2 2 (nums .u64 [preC p one' x 0, preC p plc' x 0])) := Lib.hid (by rw [preC_zero, preC_zero]; exact hOT)
  have HZV : Hid (w.heap.size ≤ (w2.alloc (.cells #[.int .u64 0, .int .u64 0] 77)).heap.size) := Lib.hid (by simp only [size_alloc]; omega)
  clear hbV hOT HSZ HOA HBA
  go_wp2
  clear hsz
  generalize (w2.alloc (.cells #[.int .u64 0, .int .u64 0] 77)) = V at *
  obtain ⟨og, hog⟩ : ∃ og, og = w.heap.size + 1 := ⟨_, rfl⟩
  have HOG := Lib.hid hog
  rw [← hog] at HOT ⊢
  clear hog
  have HG0 : Hid (Grown og V V) := Lib.hid (Grown.refl _ _)
  go_loopw [19] (fun q ws => ∃ k : Nat, k ≤ cnt ∧ q = .int .i64 k ∧ Hid (Own ws w.heap.size 77 1 (some ⟨og, 0, none⟩) 2 2 (nums .u64 [preC p one' x k, preC p plc' x k])) ∧ Hid (Grown og V ws)) (fun q _ => cnt - (intOf q).toNat)
  case atStart => exact ⟨0, Nat.zero_le _, rfl, HOT, HG0⟩
  case round =>
    obtain ⟨k, hk, rfl, HOK, HGK⟩ := hrel
    by_cases hlk : k < cnt
    · have hkl : k < x.length := by have := HN.out; omega
      have hrk := HRW.out.below (HBV.out.trans (HGK.out.of_below (by have := HOG.out; omega) HZV.out))
      obtain ⟨xa, rfl⟩ := hrk.some_of (by intro h0; have h1 := nums_length .u64 x; rw [h0] at h1; simp at h1; omega)
      have hxc := hrk.num hkl
      have HUV : Hid (U64 x[k]) := Lib.hid (HU.out _ (List.getElem_mem hkl))
      have HNA := Lib.hid (preC_one p x k)
      have HNB := Lib.hid (preC_plc p x k)
      rw [getD_of hkl] at HNA HNB
      have HUA := Lib.hid (u64_preC p one' x k)
      have HUB := Lib.hid (u64_preC p plc' x k)
      have hcv1 : IntKind.u64.wrap (k : Int) = (k : Int) := by rw [IntKind.wrap_u64]; omega
      have hcv2 : IntKind.u64.wrap ((k : Int) + 1) = (k : Int) + 1 := by rw [IntKind.wrap_u64]; omega
      have HUK : Hid (U64 ((k : Int) + 1)) := Lib.hid ⟨by omega, by omega⟩
      generalize preC p one' x k = a at *
      generalize preC p plc' x k = b at *
      generalize x[k] = v at *
      have hc0 : wr.cell? ⟨og, 0, none⟩ = some (.int .u64 a) := HOK.out.cellAt 0 (by decide)
      have HADD := Lib.hid (r01_add p a v wr HP.out HUA.out HUV.out)
      rw [HNA.out] at HADD
      clear hrk hkl
      go_wp2_with fail
      refine HADD.out.mono ?_
      rintro e wS ⟨rfl, ⟨q1, rfl⟩⟩
      have HO1 := Lib.hid (HOK.out.drewN q1)
      have HG1 := Lib.hid (HGK.out.drewN q1)
      clear hc0 hxc HADD HOK HGK
      generalize wr.drewN q1 = wA at *
      generalize ha' : preC p one' x (k + 1) = a' at *
      have HEA := Lib.hid ha'
      clear ha'
      have hc0 : wA.cell? ⟨og, 0, none⟩ = some (.int .u64 a) := HO1.out.cellAt 0 (by decide)
      have hf0 : wA.frozen? ⟨og, 0, none⟩ = false := HO1.out.frozenAt 0
      have HO2 : Hid (Own (wA.setCell ⟨og, 0, none⟩ (.int .u64 a')) w.heap.size 77 1 (some ⟨og, 0, none⟩) 2 2 (nums .u64 [a', b])) := Lib.hid (HO1.out.stored 0 _)
      have HG2 : Hid (Grown og V (wA.setCell ⟨og, 0, none⟩ (.int .u64 a'))) := Lib.hid (HG1.out.setCell 0 _)
      go_wp2
      clear hc0 hf0 HO1 HG1
      generalize (wA.setCell ⟨og, 0, none⟩ (.int .u64 a')) = wB at *
      have HO3 : Hid (Own wB.drew w.heap.size 77 1 (some ⟨og, 0, none⟩) 2 2 (nums .u64 [a', b])) := Lib.hid (HO2.out.drewN 1)
      have HG3 : Hid (Grown og V wB.drew) := Lib.hid (HG2.out.drewN 1)
      have HS3 : Hid ((fun w' => w'.cell? ⟨og, 1, none⟩ = some (.int .u64 b)) wB.drew) := Lib.hid (HO3.out.cellAt 1 (by decide))
      refine region_marks2 (k := 12) (S := (fun w' => w'.cell? ⟨og, 1, none⟩ = some (.int .u64 b))) (T := fun i => decide (i < 11)) HMX.out rfl HS3.out (fun hS => ?_)
      clear HO2 HG2
      generalize wB.drew = wC at *
      have HMC := Lib.hid (r01_mul p v ((k : Int) + 1) wC HP.out HUV.out HUK.out)
      have HUM := Lib.hid (u64_mulS p v ((k : Int) + 1))
      generalize mulS p v ((k : Int) + 1) = mv at *
      have HAC := Lib.hid fun w => r01_add p b mv w HP.out HUB.out HUM.out
      rw [HNB.out] at HAC
      generalize hb' : preC p plc' x (k + 1) = b' at *
      have HEB := Lib.hid hb'
      clear hb'
      refine wpAnyT_take3 (i := 0) (v := ?_) rfl (by kernel_rfl) (by kernel_rfl) (by kernel_rfl) (by kernel_rfl) (by kernel_rfl) (fun _ _ _ h => h) hS (Or.inl ⟨by rfl, ?_⟩) ?_
      rotate_left
      · (intro w' hSw; (try dsimp only at hSw); go_simp; (try with_reducible rfl))
      (try simp only [Act.put, List.setIfInBounds_toArray, List.set_cons_zero, List.set_cons_succ])
      refine wpAnyT_take3 (i := 1) (v := ?_) rfl (by kernel_rfl) (by kernel_rfl) (by kernel_rfl) (by kernel_rfl) (by kernel_rfl) (fun _ _ _ h => h) hS (Or.inl ⟨by rfl, ?_⟩) ?_
      rotate_left
      · (intro w' hSw; (try dsimp only at hSw); go_simp; (try with_reducible rfl))
      (try simp only [Act.put, List.setIfInBounds_toArray, List.set_cons_zero, List.set_cons_succ])
      refine wpAnyT_take3 (i := 2) (v := ?_) rfl (by kernel_rfl) (by kernel_rfl) (by kernel_rfl) (by kernel_rfl) (by kernel_rfl) (fun _ _ _ h => h) hS (Or.inl ⟨by rfl, ?_⟩) ?_
      rotate_left
      · (intro w' hSw; (try dsimp only at hSw); go_simp; (try with_reducible rfl))
      (try simp only [Act.put, List.setIfInBounds_toArray, List.set_cons_zero, List.set_cons_succ])
      refine wpAnyT_take3 (i := 3) (v := ?_) rfl (by kernel_rfl) (by kernel_rfl) (by kernel_rfl) (by kernel_rfl) (by kernel_rfl) (fun _ _ _ h => h) hS (Or.inl ⟨by rfl, ?_⟩) ?_
      rotate_left
      · (intro w' hSw; (try dsimp only at hSw); go_simp; (try with_reducible rfl))
      (try simp only [Act.put, List.setIfInBounds_toArray, List.set_cons_zero, List.set_cons_succ])
      refine wpAnyT_take3 (i := 4) (v := ?_) rfl (by kernel_rfl) (by kernel_rfl) (by kernel_rfl) (by kernel_rfl) (by kernel_rfl) (fun _ _ _ h => h) hS (Or.inl ⟨by rfl, ?_⟩) ?_
      rotate_left
      · (intro w' hSw; (try dsimp only at hSw); go_simp; (try with_reducible rfl))
      (try simp only [Act.put, List.setIfInBounds_toArray, List.set_cons_zero, List.set_cons_succ])
      refine wpAnyT_take3 (i := 5) (v := ?_) rfl (by kernel_rfl) (by kernel_rfl) (by kernel_rfl) (by kernel_rfl) (by kernel_rfl) (fun _ _ _ h => h) hS (Or.inl ⟨by rfl, ?_⟩) ?_
      rotate_left
      · (intro w' hSw; (try dsimp only at hSw); go_simp; (try with_reducible rfl))
      (try simp only [Act.put, List.setIfInBounds_toArray, List.set_cons_zero, List.set_cons_succ])
      refine wpAnyT_take3 (i := 6) (v := ?_) rfl (by kernel_rfl) (by kernel_rfl) (by kernel_rfl) (by kernel_rfl) (by kernel_rfl) (fun _ _ _ h => h) hS (Or.inl ⟨by rfl, ?_⟩) ?_
      rotate_left
      · (intro w' hSw; (try dsimp only at hSw); go_simp; (try with_reducible rfl))
      (try simp only [Act.put, List.setIfInBounds_toArray, List.set_cons_zero, List.set_cons_succ])
      refine wpAnyT_take3 (i := 7) (v := ?_) rfl (by kernel_rfl) (by kernel_rfl) (by kernel_rfl) (by kernel_rfl) (by kernel_rfl) (fun _ _ _ h => h) hS (Or.inl ⟨by rfl, ?_⟩) ?_
      rotate_left
      · (intro w' hSw; (try dsimp only at hSw); go_simp; (try with_reducible rfl))
      (try simp only [Act.put, List.setIfInBounds_toArray, List.set_cons_zero, List.set_cons_succ])
      refine wpAnyT_one (i := 8) (by kernel_rfl) rfl (fun K hK => ?_)
      go_simp
      refine HMC.out.mono ?_
      rintro e wD ⟨rfl, hwD⟩
      have HO4 : Hid (Own wD w.heap.size 77 1 (some ⟨og, 0, none⟩) 2 2 (nums .u64 [a', b])) := Lib.hid (by rw [hwD]; exact HO3.out)
      have HG4 : Hid (Grown og V wD) := Lib.hid (by rw [hwD]; exact HG3.out)
      have HS4 : Hid ((fun w' => w'.cell? ⟨og, 1, none⟩ = some (.int .u64 b)) wD) := Lib.hid (HO4.out.cellAt 1 (by decide))
      refine hK _ _ (fun _ => HS4.out) ?_
      clear hK K
      (try simp only [Act.put, List.setIfInBounds_toArray, List.set_cons_zero, List.set_cons_succ])
      clear hwD hS
      have hS := HS4.out
      refine wpAnyT_one (i := 9) (by kernel_rfl) rfl (fun K hK => ?_)
      go_simp
      refine (HAC.out wD).mono ?_
      rintro e wE ⟨rfl, ⟨q2, rfl⟩⟩
      have HO5 := Lib.hid (HO4.out.drewN q2)
      have HG5 := Lib.hid (HG4.out.drewN q2)
      have HS5 : Hid ((fun w' => w'.cell? ⟨og, 1, none⟩ = some (.int .u64 b)) (wD.drewN q2)) := Lib.hid (HO5.out.cellAt 1 (by decide))
      refine hK _ _ (fun _ => HS5.out) ?_
      clear hK K
      (try simp only [Act.put, List.setIfInBounds_toArray, List.set_cons_zero, List.set_cons_succ])
      generalize wD.drewN q2 = wE at *
      clear hS
      have hS := HS5.out
      refine wpAnyT_take3 (i := 10) (v := ?_) rfl (by kernel_rfl) (by kernel_rfl) (by kernel_rfl) (by kernel_rfl) (by kernel_rfl) (fun _ _ _ h => h) hS (Or.inl ⟨by rfl, ?_⟩) ?_
      rotate_left
      · (intro w' hSw; (try dsimp only at hSw); go_simp; (try with_reducible rfl))
      (try simp only [Act.put, List.setIfInBounds_toArray, List.set_cons_zero, List.set_cons_succ])
      have hfr : wE.frozen? ⟨og, 1, none⟩ = false := HO5.out.frozenAt 1
      have hcr : wE.cell? ⟨og, 1, none⟩ = some (.int .u64 b) := HO5.out.cellAt 1 (by decide)
      have HO9 : Hid (Own (wE.setCell ⟨og, 1, none⟩ (.int .u64 b')) w.heap.size 77 1 (some ⟨og, 0, none⟩) 2 2 (nums .u64 [a', b'])) := Lib.hid (HO5.out.stored 1 _)
      have HG9 : Hid (Grown og V (wE.setCell ⟨og, 1, none⟩ (.int .u64 b'))) := Lib.hid (HG5.out.setCell 1 _)
      refine wpAnyT_one (i := 11) (by kernel_rfl) rfl (fun K hK => ?_)
      go_simp
      refine hK _ _ (fun h => absurd h (by decide)) ?_
      clear hK K
      (try simp only [Act.put, List.setIfInBounds_toArray, List.set_cons_zero, List.set_cons_succ])
      refine wpAnyT_done (by kernel_rfl) ?_ _
      refine NoPanic.normal ?_
      clear hS hfr hcr hcv1 hcv2
      go_wp2
      go_roundw
      case rel => exact ⟨k + 1, by omega, by go_num, Lib.hid (by rw [HEA.out, HEB.out]; exact HO9.out), HG9⟩
      case measure => simp [intOf]; omega
    · have hke : k = cnt := by omega
      have HOE : Hid (Own wr w.heap.size 77 1 (some ⟨og, 0, none⟩) 2 2 [.int .u64 (redS p (csum one' x)), .int .u64 (redS p (csum plc' x))]) := Lib.hid (by
        have h1 := HOK.out
        rw [hke, HF1.out, HF2.out] at h1
        exact h1)
      have HOF := Lib.hid (HOV.out.off' HGK.out (by have := HOG.out; omega))
      have HBE : Hid (Below w.heap.size w wr) := Lib.hid (HBV.out.trans (HGK.out.of_below (by have := HOG.out; omega) HZV.out))
      obtain ⟨za, hza⟩ : ∃ z, z = redS p (csum one' x) := ⟨_, rfl⟩
      obtain ⟨zb, hzb⟩ : ∃ z, z = redS p (csum plc' x) := ⟨_, rfl⟩
      rw [← hza, ← hzb] at HOE
      have HZA := Lib.hid hza
      have HZB := Lib.hid hzb
      clear hza hzb hke
      obtain ⟨c0, c1, g0, g1⟩ := own2_cells HOF.out
      obtain ⟨d0, d1, _, _⟩ := own2_cells HOE.out
      go_wp2
      clear c0 c1 g0 g1 d0 d1
      obtain ⟨c0, c1, _, _⟩ := own2_cells (own2 HOF.out (.int .u64 za) (.int .u64 zb))
      exact bodyPost_ret (pair_ret rfl _ _ w.heap.size _ _ _ rfl rfl c0 c1) rfl ⟨by rw [← HZA.out, ← HZB.out]; rfl, below_set2 HBE.out (Nat.le_refl _) _ _⟩
end Go.Proofs.YtohcoidbncbijaaDoor.P
/- The contract of brackenref16's Predict. Conditions: words of their kinds; slices read as lists. -/
namespace Go.Proofs.YtohcoidbncbijaaDoor.P
open Go.RowKit
set_option linter.unusedVariables false
set_option linter.unusedSimpArgs false
set_option maxRecDepth 100000 in
set_option maxHeartbeats 4000000 in
theorem r16pr_calls (p : Int) (A : Option Addr) (c n : Nat) (ax : List (Int × Bool)) (inv : Bool) (s0 : Int) (s1 : Bool) (s2 s3 s4 : Int) (X : Option Addr) (cx m : Nat) (x : List Int) (w : World) (hn : ax.length = n) (hm : x.length = m) (hp : U64 p) (hr : Row w A (axR ax)) (hl : n ≤ 8796093022208) (hw : ∀ a ∈ ax, i64 a.1)
    (hrx : Row w X (nums .u64 x)) (hlm : m ≤ 9223372036854775807) (hwx : ∀ d ∈ x, U64 d) :
    Calls Tryd.prog 50 #[.int .u64 p, .slice A n c, .bool inv, .agg #[.int .i64 s0, .bool s1, .int .i64 s2, .int .i64 s3, .int .i64 s4], .slice X m cx] w fun e w' =>
      e = .returned (.tuple #[.agg #[.int .u64 (predS p ax inv (s0, s1, s2, s3, s4) x).1, .int .u64 (predS p ax inv (s0, s1, s2, s3, s4) x).2.1], .int .i64 (predS p ax inv (s0, s1, s2, s3, s4) x).2.2]) ∧ Below w.heap.size w w' := by
  have HP := Lib.hid hp
  have HN := Lib.hid hn
  have HM := Lib.hid hm
  have HW := Lib.hid hw
  have HWX := Lib.hid hwx
  have hb0 : Below w.heap.size w ((w.alloc (.cells #[.int .i64 s0, .bool s1, .int .i64 s2, .int .i64 s3, .int .i64 s4] 39)).alloc (.cells #[.int .u64 0, .int .u64 0] 77)) := ((Below.refl _ _).alloc (Nat.le_refl _) _).alloc (by simp only [size_alloc]; omega) _
  have HB0 := Lib.hid hb0
  have HR0 := Lib.hid (hr.below hb0)
  have HRX0 := Lib.hid (hrx.below hb0)
  have hx0 : Row ((w.alloc (.cells #[.int .i64 s0, .bool s1, .int .i64 s2, .int .i64 s3, .int .i64 s4] 39)).alloc (.cells #[.int .u64 0, .int .u64 0] 77)) (some ⟨w.heap.size, 0, none⟩) [.int .i64 s0, .bool s1, .int .i64 s2, .int .i64 s3, .int .i64 s4] := (row_new w [.int .i64 s0, .bool s1, .int .i64 s2, .int .i64 s3, .int .i64 s4] 39).below ((Below.refl _ _).alloc (Nat.le_refl _) _)
  have ho0 : Own ((w.alloc (.cells #[.int .i64 s0, .bool s1, .int .i64 s2, .int .i64 s3, .int .i64 s4] 39)).alloc (.cells #[.int .u64 0, .int .u64 0] 77)) w.heap.size 77 1 (some ⟨w.heap.size + 1, 0, none⟩) 2 2 [.int .u64 0, .int .u64 0] := by
    have h1 := own_one (w.alloc (.cells #[.int .i64 s0, .bool s1, .int .i64 s2, .int .i64 s3, .int .i64 s4] 39)) w.heap.size 77 [.int .u64 0, .int .u64 0] 2 (by simp only [size_alloc]; omega) rfl (by decide)
    simp only [size_alloc] at h1
    exact h1
  have HX0 := Lib.hid hx0
  have HO0 := Lib.hid ho0
  have b0 := hx0.cell (i := 0) rfl
  have b1 := hx0.cell (i := 1) rfl
  have b2 := hx0.cell (i := 2) rfl
  have b3 := hx0.cell (i := 3) rfl
  have b4 := hx0.cell (i := 4) rfl
  clear hn hm hp hr hw hrx hwx hb0 hx0 ho0
  by_cases hc : wrd16 p ax (s0, s1, s2, s3, s4) x = 0
  case neg =>
    have HD : Hid (doS16 p ax inv (s0, s1, s2, s3, s4) x = ([], wrd16 p ax (s0, s1, s2, s3, s4) x)) := Lib.hid (by rw [doS16, if_neg hc])
    have HF : Hid (predS p ax inv (s0, s1, s2, s3, s4) x = (0, 0, wrd16 p ax (s0, s1, s2, s3, s4) x)) := Lib.hid (by rw [predS, if_neg hc])
    have t0 : (wrd16 p ax (s0, s1, s2, s3, s4) x != 0) = true := by simpa using hc
    rw [HF.out]
    clear hc
    go_enter Tryd.func50, Tryd.ntmps50
    go_wp2_with fail
    clear b0 b1 b2 b3 b4
    generalize ((w.alloc (.cells #[.int .i64 s0, .bool s1, .int .i64 s2, .int .i64 s3, .int .i64 s4] 39)).alloc (.cells #[.int .u64 0, .int .u64 0] 77)) = V0 at *
    refine (r16do_calls p A _ n ax inv s0 s1 s2 s3 s4 X cx m x V0 HN.out HM.out HP.out HR0.out hl HW.out HRX0.out hlm HWX.out).mono ?_
    rw [HD.out]
    rintro e w2 ⟨Z, z, rfl, ho, hb⟩
    have HB2 := Lib.hid (blT HB0.out hb)
    have HO2 := Lib.hid (HO0.out.grown hb)
    clear ho hb
    dsimp only
    obtain ⟨c0, c1, f0, f1⟩ := own2_cells HO2.out
    go_wp2
    clear c0 c1 f0 f1
    obtain ⟨c0, c1, _, _⟩ := own2_cells (own2 HO2.out (.int .u64 0) (.int .u64 0))
    exact bodyPost_ret (pair_ret rfl _ _ (w.heap.size + 1) _ _ _ rfl rfl c0 c1) rfl ⟨rfl, below_set2 HB2.out (by omega) _ _⟩
  have hKX := wrd16_ok hc
  have HD := Lib.hid (hKX.do inv)
  have HF : Hid (predS p ax inv (s0, s1, s2, s3, s4) x = (redS p (csum one' (stepDo p ax inv (s0, s1, s2, s3, s4) x)), redS p (csum plc' (stepDo p ax inv (s0, s1, s2, s3, s4) x)), 0)) := Lib.hid (by rw [predS, if_pos hc])
  obtain ⟨hkn, hm4⟩ : knownS p = true ∧ m ≤ 4096 := by
    obtain ⟨k, N, neg, hK⟩ := chk16_ok hKX.chk
    have h2 := hKX.all
    have h3 := HM.out
    have h4 := hK.chk.dims.all
    exact ⟨hK.c6.known, by omega⟩
  have HLX : Hid (((stepDo p ax inv (s0, s1, s2, s3, s4) x, (0 : Int)).1).length = m) := Lib.hid (by rw [stepDo_length]; exact HM.out)
  have HLY : Hid ((stepDo p ax inv (s0, s1, s2, s3, s4) x).length = m) := HLX
  have HUY := Lib.hid (stepDo_u64 p ax inv (s0, s1, s2, s3, s4) x)
  have HSU : Hid (∀ (Z : Option Addr) (z : Nat) (w : World), Row w Z (nums .u64 (stepDo p ax inv (s0, s1, s2, s3, s4) x)) → _) := Lib.hid fun Z z w h => rsum14_calls p Z m z (stepDo p ax inv (s0, s1, s2, s3, s4) x) w HLY.out HP.out h hm4 HUY.out hkn
  rw [HF.out]
  clear hc hKX hkn
  go_enter Tryd.func50, Tryd.ntmps50
  go_wp2_with fail
  clear b0 b1 b2 b3 b4
  generalize ((w.alloc (.cells #[.int .i64 s0, .bool s1, .int .i64 s2, .int .i64 s3, .int .i64 s4] 39)).alloc (.cells #[.int .u64 0, .int .u64 0] 77)) = V0 at *
  refine (r16do_calls p A _ n ax inv s0 s1 s2 s3 s4 X cx m x V0 HN.out HM.out HP.out HR0.out hl HW.out HRX0.out hlm HWX.out).mono ?_
  rw [HD.out, HLX.out]
  rintro e w2 ⟨Z, z, rfl, ho, hb⟩
  have HB2 := Lib.hid (blT HB0.out hb)
  have HO2 := Lib.hid (HO0.out.grown hb)
  have HRY := Lib.hid ho.row
  clear ho hb
  dsimp only
  go_wp2_with fail
  refine (HSU.out Z z w2 HRY.out).mono ?_
  rintro e w3 ⟨rfl, hb⟩
  have HB3 := Lib.hid (blT HB2.out hb)
  have HO3 := Lib.hid (HO2.out.grown hb)
  clear hb
  obtain ⟨za, hza⟩ : ∃ z, z = redS p (csum one' (stepDo p ax inv (s0, s1, s2, s3, s4) x)) := ⟨_, rfl⟩
  obtain ⟨zb, hzb⟩ : ∃ z, z = redS p (csum plc' (stepDo p ax inv (s0, s1, s2, s3, s4) x)) := ⟨_, rfl⟩
  rw [← hza, ← hzb]
  have HZA := Lib.hid hza
  have HZB := Lib.hid hzb
  clear hza hzb
  obtain ⟨c0, c1, f0, f1⟩ := own2_cells HO3.out
  go_wp2
  clear c0 c1 f0 f1
  obtain ⟨c0, c1, _, _⟩ := own2_cells (own2 HO3.out (.int .u64 za) (.int .u64 zb))
  exact bodyPost_ret (pair_ret rfl _ _ (w.heap.size + 1) _ _ _ rfl rfl c0 c1) rfl ⟨by rw [← HZA.out, ← HZB.out]; rfl, below_set2 HB3.out (by omega) _ _⟩
end Go.Proofs.YtohcoidbncbijaaDoor.P
