/- The law FlyTurns, walked. Conditions: words of their kinds; the slice reads as a list. -/
import Derived.Test.YtkofhmiakfmcaaaFsW
namespace Go.Proofs.Ytkofhmiakfmcaaa.P
open Go.RowKit
set_option linter.unusedVariables false
set_option linter.unusedSimpArgs false
/-- Words turned around by one place. -/
def rot (x : List Int) : List Int := x.getD (x.length - 1) 0 :: x.take (x.length - 1)
theorem rot_length {x : List Int} (h : 2 ≤ x.length) : (rot x).length = x.length := by simp [rot]; omega
theorem rot_mem {x : List Int} (h : 2 ≤ x.length) (d : Int) : d ∈ rot x ↔ d ∈ x := by
  have e : x = x.take (x.length - 1) ++ [x.getD (x.length - 1) 0] := by
    have h1 := List.take_append_drop (x.length - 1) x
    rw [getD_of (show x.length - 1 < x.length by omega)]
    have h2 : x.drop (x.length - 1) = [x[x.length - 1]'(by omega)] := by
      rw [List.drop_eq_getElem_cons (by omega), List.drop_eq_nil_of_le (by omega)]
    rw [← h2]; exact h1.symm
  unfold rot
  constructor
  · intro hd
    rw [e, List.mem_append]
    rcases List.mem_cons.1 hd with h1 | h1
    · right; rw [h1]; simp
    · left; exact h1
  · intro hd
    rw [e, List.mem_append] at hd
    rcases hd with h1 | h1
    · exact List.mem_cons_of_mem _ h1
    · rw [List.mem_singleton] at h1; rw [h1]; exact List.mem_cons_self
theorem rot_in {x : List Int} (h : 2 ≤ x.length) (p : Int) : inS p (rot x) = inS p x := by
  unfold inS
  congr 1
  rw [Bool.eq_iff_iff, List.all_eq_true, List.all_eq_true]
  exact ⟨fun h1 d hd => h1 d ((rot_mem h d).2 hd), fun h1 d hd => h1 d ((rot_mem h d).1 hd)⟩
/-- What comes of it: errors alike, or the words times the points. -/
theorem turns_both {p : Int} {inv : Bool} {x : List Int} (h : 2 ≤ x.length) :
    (∃ e f, e ≠ 0 ∧ (f = 0 ∨ f = e) ∧ (doS p inv x).2 = e ∧ (doS p inv (rot x)).2 = e ∧ (ptsS p x.length inv).2 = f) ∨
    (∃ d l, (x.length ≤ 5) ∧ doS p inv x = (d, 0) ∧ d.length = x.length ∧ (∀ a ∈ d, U64 a) ∧ ptsS p x.length inv = (l, 0) ∧ l.length = x.length ∧ (∀ a ∈ l, U64 a) ∧
      doS p inv (rot x) = ((List.range x.length).map (fun u => mulS p (d.getD u 0) (l.getD u 0)), 0)) := by
  by_cases ho : (ptsS p x.length inv).2 = 0
  · have hor : (ptsS p (rot x).length inv).2 = 0 := by rw [rot_length h]; exact ho
    by_cases hx : inS p x = true
    · right
      obtain ⟨N, hN, h2, h5, hT, _, hpts⟩ := ptsS_ok ho
      have hN2 : x.length = N := by omega
      subst hN2
      have e1 := doS_is ho hx
      have e2 := doS_is hor (by rw [rot_in h]; exact hx)
      refine ⟨doL p (turnS p x.length inv) x, (List.range x.length).map (powS p (turnS p x.length inv)), by omega, e1, doL_length _ _ _, doL_u64 _ _ _, hpts, by simp, ?_, ?_⟩
      · intro a ha
        simp only [List.mem_map] at ha
        obtain ⟨u, _, rfl⟩ := ha
        exact u64_powS _ _ _
      · rw [e2, rot_length h]
        congr 1
        rw [doL, rot_length h]
        refine List.map_congr_left fun u hu => ?_
        rw [List.mem_range] at hu
        rw [doL_at p _ x hu, show ((List.range x.length).map (powS p (turnS p x.length inv))).getD u 0 = powS p (turnS p x.length inv) u from by rw [List.getD_eq_getElem?_getD]; simp [hu]]
        exact hT.turned u
    · left
      refine ⟨7, 0, by decide, .inl rfl, ?_, ?_, ho⟩
      · rw [doS, if_pos ho, if_neg hx]
      · rw [doS, if_pos hor, rot_in h, if_neg hx]
  · left
    refine ⟨(ptsS p x.length inv).2, (ptsS p x.length inv).2, ho, .inr rfl, ?_, ?_, rfl⟩
    · rw [doS, if_neg ho]
    · rw [doS, rot_length h, if_neg ho]
set_option maxRecDepth 100000 in
set_option maxHeartbeats 2000000 in
theorem flyTurns_walk (p : Int) (inv : Bool) (A : Option Addr) (ca : Nat) (x : List Int) (w : World) (hp : U64 p)
    (hr : Row w A (nums .u64 x)) (hy : x.length * 8 ≤ 140737488351232) (hcap : x.length ≤ ca) (hw : ∀ d ∈ x, (Lit.int .u64 d).wf = true) :
    Calls Try.prog 26 #[.int .u64 p, .bool inv, .slice A x.length ca] w fun e w' => e = .returned (.bool true) ∧ Below w.heap.size w w' := by
  have HP := Lib.hid hp
  have HR := Lib.hid hr
  have HW : Hid (∀ d ∈ x, U64 d) := Lib.hid fun d hd => u64_wf (hw d hd)
  clear hp hr hw
  generalize hn : x.length = n at *
  have HN := Lib.hid hn
  have HL : Hid (n ≤ 9223372036854775807) := Lib.hid (by omega)
  clear hn
  go_enter Try.func26, Try.ntmps26
  go_wp2_with fail
  refine (live15_calls _).mono ?_
  rintro e w1 ⟨rfl, hb1⟩
  have HB1 := Lib.hid hb1
  have HR1 := Lib.hid (HR.out.below hb1)
  clear hb1
  by_cases g0 : n < 2
  · have f0 : decide ((n : Int) < 2) = true := by simp; omega
    go_wp2
    go_ret
    exact ⟨rfl, HB1.out⟩
  have f0 : decide ((n : Int) < 2) = false := by simp; omega
  by_cases g1 : 12 < n
  · have f1 : decide (12 < (n : Int)) = true := by simp; omega
    clear g0
    go_wp2
    go_ret
    exact ⟨rfl, HB1.out⟩
  have f1 : decide (12 < (n : Int)) = false := by simp; omega
  obtain ⟨m, rfl⟩ : ∃ m, n = m + 1 := ⟨n - 1, by omega⟩
  have hm1 : 1 ≤ m := by omega
  have hm11 : m ≤ 11 := by omega
  have HI : Hid (i64 ((m + 1 : Nat) : Int)) := Lib.hid ⟨by omega, by omega⟩
  have HRL : Hid ((rot x).length = 1 + m) := Lib.hid (by rw [rot_length (by rw [HN.out]; omega), HN.out]; omega)
  have HRU : Hid (∀ d ∈ rot x, U64 d) := Lib.hid fun d hd => HW.out d ((rot_mem (by rw [HN.out]; omega) d).1 hd)
  have HRF : Hid (rot x = [x.getD m 0] ++ x.take m) := Lib.hid (by rw [rot, HN.out]; rfl)
  have hltx : m < x.length := by have := HN.out; omega
  have HXM : Hid (x.getD m 0 = x[m]) := Lib.hid (getD_of hltx 0)
  have HTL : Hid ((x.take m).length = m) := Lib.hid (by rw [List.length_take, HN.out]; omega)
  obtain ⟨xa, rfl⟩ := HR1.out.some_of (by intro h0; have h1 := nums_length .u64 x; rw [h0, HN.out] at h1; simp at h1)
  have hboth := turns_both (p := p) (inv := inv) (x := x) (by rw [HN.out]; omega)
  rw [HN.out] at hboth
  clear g0 g1
  go_wp2_with fail
  refine (do_n p inv (some xa) (m + 1) ca x _ HN.out HP.out HR1.out HL.out HW.out).mono ?_
  rintro e w2 ⟨Y, cy, rfl, ho2, hb2⟩
  have HB2 : Hid (Below w.heap.size w w2) := Lib.hid (blC HB1.out hb2)
  have HR2 := Lib.hid (HR1.out.below hb2)
  have HRY := Lib.hid ho2.row
  clear ho2 hb2
  go_wp2_with fail
  refine (points_calls p ((m + 1 : Nat) : Int) inv _ HP.out HI.out).mono ?_
  rintro e w3 ⟨L, cl, rfl, ho3, hb3⟩
  have HB3 : Hid (Below w.heap.size w w3) := Lib.hid (blC HB2.out hb3)
  have HR3 := Lib.hid (HR2.out.below hb3)
  have HRY3 := Lib.hid (HRY.out.below hb3)
  have HRL3 := Lib.hid ho3.row
  clear ho3 hb3 HR2 HRY HB2
  have hcm : w3.cell? (xa.add m) = some (.int .u64 x[m]) := HR3.out.num hltx
  have HXB : Hid ((xa.add m).block < w3.heap.size) := Lib.hid (World.block_lt_of_cell? w3 _ hcm)
  have HTK : Hid (Row w3 (some xa) (nums .u64 (x.take m))) := Lib.hid (by
    rcases HR3.out with h | ⟨y, hy, hc⟩
    · left
      have h1 := nums_length .u64 x
      rw [h, HN.out] at h1; simp at h1
    · right
      refine ⟨y, hy, fun i u hi => hc i u ?_⟩
      rw [show nums .u64 (x.take m) = (nums .u64 x).take m from by simp [nums, List.map_take], List.getElem?_take] at hi
      split at hi
      · exact hi
      · cases hi)
  generalize x[m] = d at *
  have hce : (m : Int) ≤ (ca : Int) := by omega
  have hwm : IntKind.i64.wrap (m : Int) = (m : Int) := by rw [IntKind.wrap_i64]; omega
  have hwm2 : IntKind.i64.wrap ((m : Int) + 1 - 1) = (m : Int) := by rw [IntKind.wrap_i64]; omega
  have hm0 : (0 : Int) ≤ (m : Int) := by omega
  have hm2 : (m : Int) < (m : Int) + 1 := by omega
  have hm3 : decide (m + 1 ≤ m) = false := by simp
  have hm4 : decide ((m : Int) + 1 ≤ (m : Int)) = false := by simp; omega
  have hcd : decide (ca < m) = false := by simp; omega
  go_wp2
  go_region_held3 (fun w' => w'.cell? (xa.add m) = some (.int .u64 d) ∧ w'.cell? (xa.add m) = some (.int .u64 d))
    (first | exact keep2 (by assumption) (by assumption) | exact keepB2 (by assumption) HXB.out HXB.out (by assumption) | go_keep)
    (first
      | (go_at_call 84; refine (do_n p inv (some ⟨g, 0, none⟩) (1 + m) cap2 (rot x) _ HRL.out HP.out ?row ?len HRU.out).mono ?_; (case row => rw [HRF.out, HXM.out]; exact hown.row); (case len => omega); rintro e w8 ⟨G, cg, rfl, ho8, hb8⟩)
      | (refine step_append_row _ Try.underlying47 info_u64 (by rfl) _ _ (by rfl) w3.heap.size 1 1 m ca (some ⟨_, 0, none⟩) xa [d] (x.take m) (by rfl) (by rfl) (own_lit _ _ _ (nums .u64 [d]) 1 (Nat.le_refl _) rfl (by decide)) ((HTK.out.drewN _).alloc _) HTL.out (by omega) (by simp) (by omega) (by omega) ?_; intro g cap2 w7 hown hbel hgrow hlt5))
  have HB37 : Below w3.heap.size w3 w7 := ((below_drewN (Below.refl w3.heap.size w3) _).alloc (Nat.le_refl _) _).trans hbel
  have HB38 : Hid (Below w3.heap.size w3 w8) := Lib.hid (blC HB37 hb8)
  have HRG : Hid (Row w8 G (nums .u64 (doS p inv (rot x)).1)) := Lib.hid ho8.row
  clear ho8 hb8 HB37 hown hbel hgrow hlt5 hcm
  have hcast : ((m + 1 : Nat) : Int) = (m : Int) + 1 := by omega
  rw [hcast] at hboth HRL3
  rcases hboth with ⟨e0, f0', he0, hf0, hE1, hE2, hE3⟩ | ⟨dd, l, hn5, hD, hdl, hdu, hP, hll, hlu, hZ⟩
  · rw [hE1, hE2, hE3]
    have t0 : (e0 != e0) = false := by simp
    have t1 : (e0 != 0) = true := by simpa using he0
    rcases hf0 with rfl | rfl
    · go_wp2
      go_ret
      exact ⟨by first | rfl | (simp; done), blC HB3.out HB38.out⟩
    · go_wp2
      go_ret
      exact ⟨by first | rfl | (simp; done), blC HB3.out HB38.out⟩
  · have HDL := Lib.hid hdl
    have HDU := Lib.hid hdu
    have HLL := Lib.hid hll
    have HLU := Lib.hid hlu
    have HRY8 : Hid (Row w8 Y (nums .u64 dd)) := Lib.hid (by
      have h1 := HRY3.out.below HB38.out
      rw [hD] at h1; exact h1)
    have HRL8 : Hid (Row w8 L (nums .u64 l)) := Lib.hid (by
      have h1 := HRL3.out.below HB38.out
      rw [hP] at h1; exact h1)
    have HRG8 : Hid (Row w8 G (nums .u64 ((List.range (m + 1)).map (fun u => mulS p (dd.getD u 0) (l.getD u 0))))) := Lib.hid (by
      have h1 := HRG.out
      rw [hZ] at h1; exact h1)
    rw [hD, hP, hZ, show ((dd, (0 : Int)).1.length) = m + 1 from hdl, show ((l, (0 : Int)).1.length) = m + 1 from hll, show (((List.range (m + 1)).map (fun u => mulS p (dd.getD u 0) (l.getD u 0)), (0 : Int)).1.length) = m + 1 from by simp]
    obtain ⟨ya, rfl⟩ := HRY8.out.some_of (by intro h0; have h1 := nums_length .u64 dd; rw [h0, HDL.out] at h1; simp at h1)
    obtain ⟨la, rfl⟩ := HRL8.out.some_of (by intro h0; have h1 := nums_length .u64 l; rw [h0, HLL.out] at h1; simp at h1)
    obtain ⟨ga, rfl⟩ := HRG8.out.some_of (by simp [nums])
    clear hD hdl hdu hP hll hlu hZ
    go_wp2
    go_loopw [97] (fun i wr => ∃ k : Nat, k ≤ m + 1 ∧ i = .int .i64 k ∧ Hid (Below w8.heap.size w8 wr)) (fun i _ => m + 1 - (intOf i).toNat)
    case atStart => exact ⟨0, Nat.zero_le _, rfl, Lib.hid (Below.refl _ _)⟩
    case round =>
      obtain ⟨k, hk, rfl, HB9⟩ := hrel
      by_cases hlt : k < m + 1
      · have h1 : k < dd.length := by have := HDL.out; omega
        have h2 : k < l.length := by have := HLL.out; omega
        have hc1 := (HRY8.out.below HB9.out).num h1
        have hc2 := (HRL8.out.below HB9.out).num h2
        have hc3 : wr.cell? (ga.add k) = some (.int .u64 (mulS p dd[k] l[k])) := by
          have h4 := (HRG8.out.below HB9.out).num (i := k) (by simpa using hlt)
          rw [h4, List.getElem_map, List.getElem_range, getD_of h1, getD_of h2]
        have HU1 : Hid (U64 dd[k]) := Lib.hid (HDU.out _ (List.getElem_mem h1))
        have HU2 : Hid (U64 l[k]) := Lib.hid (HLU.out _ (List.getElem_mem h2))
        generalize dd[k] = u at *
        generalize l[k] = v at *
        go_wp2
        go_quiet ((go_at_call 44; exact Calls.quiet_of (mul_calls _ _ _ _ HP.out HU1.out HU2.out)))
        go_wp2
        go_roundw
        case rel => exact ⟨k + 1, by omega, by go_num, Lib.hid (below_drewN HB9.out nq)⟩
        case measure => simp [intOf]; omega
      · go_wp2
        go_ret
        exact ⟨by first | rfl | (simp; done), blC (blC HB3.out HB38.out) HB9.out⟩
end Go.Proofs.Ytkofhmiakfmcaaa.P
