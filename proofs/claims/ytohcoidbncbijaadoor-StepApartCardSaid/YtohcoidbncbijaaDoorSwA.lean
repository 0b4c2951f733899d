
/- The law StepApart, walked. Conditions: words of their kinds; slices read as lists; the library's table lies as it was laid. -/
import Derived.Test.YtohcoidbncbijaaDoorSaP
import Derived.Test.YtohcoidbncbijaaDoorStL
import Derived.Test.YtohcoidbncbijaaDoorStU
import Derived.Test.YtohcoidbncbijaaDoorGrF
import Derived.Test.YtohcoidbncbijaaDoorRound3
namespace Go.Proofs.YtohcoidbncbijaaDoor.P
open Go.RowKit
set_option linter.unusedVariables false
set_option linter.unusedSimpArgs false
theorem u16w_wf {a : Int} (h : (Lit.int .u16 a).wf = true) : 0 ≤ a ∧ a ≤ 65535 := by
  simp only [Lit.wf, IntKind.min, IntKind.max, IntKind.signed, IntKind.bits, Bool.and_eq_true] at h
  have := h.1; have := h.2
  simp at *
  omega
theorem nums_put {w : World} {B g n : Nat} {l : List Int} (h : Own w B 3 1 (some ⟨g, 0, none⟩) n n (nums .i64 l)) (j : Nat) (v : Int) : Own (w.setCell ⟨g, j, none⟩ (.int .i64 v)) B 3 1 (some ⟨g, 0, none⟩) n n (nums .i64 (l.set j v)) := by
  have h1 := h.stored j (.int .i64 v)
  rw [nums_set] at h1
  exact h1
theorem nums_cell {w : World} {B g n : Nat} {l : List Int} (h : Own w B 3 1 (some ⟨g, 0, none⟩) n n (nums .i64 l)) {j : Nat} (hj : j < n) (hl : l.length = n) : w.cell? ⟨g, j, none⟩ = some (.int .i64 (l.getD j 0)) := by
  rw [h.cellAt j hj, nums_get .i64 l j (by omega), getD_of (show j < l.length by omega) 0]
theorem places_of {p : Int} {ax : List (Int × Bool)} {k : Nat} {s1 : Bool} {s2 s3 s4 : Int} {N : Nat} {neg : Bool} (hK : StepK p ax ((k : Int), s1, s2, s3, s4) k N neg) (inv : Bool) {P : Nat} (hP : prodL (dimsA ax) = (P : Int)) :
    PlacesK (grpG (dimsA ax) k s1 s2.toNat s3.toNat s4.toNat) (grpR s1 s2.toNat) (grpC (dimsA ax) k s1 s3.toNat s4.toNat) P (tabL p N neg inv ((k : Int), s1, s2, s3, s4)).length (gNi (dimsA ax) k s1 s3.toNat s4.toNat) (gNo (dimsA ax) k s1 s2.toNat s3.toNat s4.toNat) := by
  have hAx := (hK.chk.at hK.lt).1
  have hsm := grpC_small hK
  have hp4 := hK.chk.dims.all
  have hp1 := hK.chk.dims.pos.prod
  dsimp only at hsm
  rcases hK.kind with ⟨ht, hz⟩ | ⟨ht, hz⟩
  · dsimp only at ht hz
    subst ht
    simp only [Prod.mk.injEq] at hz
    obtain ⟨rfl, rfl, rfl⟩ := hz
    have e1 : grpG (dimsA ax) k true (0 : Int).toNat (0 : Int).toNat (0 : Int).toNat = grpT (dimsA ax) k := by funext g; exact grpG_twist ..
    have e2 : grpC (dimsA ax) k true (0 : Int).toNat (0 : Int).toNat = P := by unfold grpC; rw [if_pos rfl, hP, Int.toNat_natCast]
    have e3 : (tabL p N neg inv ((k : Int), true, 0, 0, 0)).length = N := by rw [tabL_twist]; simp
    rw [e1, e2, e3]
    exact places_twist hAx hK.dim hP (by omega)
  · dsimp only at ht hz
    subst ht
    obtain ⟨R, L, M, hs, hS⟩ := stg_mem hK.c6.smooth hz
    simp only [Prod.mk.injEq] at hs
    obtain ⟨rfl, rfl, rfl⟩ := hs
    obtain ⟨K, hKK⟩ := Int.eq_ofNat_of_zero_le (show 0 ≤ prodL (dimsA ax) / (N : Int) from Int.ediv_nonneg (by omega) (by omega))
    have e2 : grpC (dimsA ax) k false (L : Int).toNat (M : Int).toNat = K * M * L := by
      unfold grpC
      rw [if_neg (by decide), hK.dim, hKK]
      simp only [Int.toNat_natCast]
    have e3 : (tabL p N neg inv ((k : Int), false, (R : Int), (L : Int), (M : Int))).length = M * R := by rw [tabL_stage p N neg inv _ hS, tabR_length]
    rw [e2] at hsm
    rw [e2, e3]
    simp only [Int.toNat_natCast]
    exact places_stage ⟨hAx, hK.dim, hS⟩ hP hKK hsm
set_option maxRecDepth 100000 in
set_option maxHeartbeats 2000000 in
theorem stepApart_walk (p : Int) (A : Option Addr) (ca : Nat) (ax : List (Int × Bool)) (inv : Bool) (s : Stp) (X : Option Addr) (cx : Nat) (x : List Int) (at0 : Int) (wv : Int) (w : World) (hp : U64 p) (hr : Row w A (axR ax)) (hla : ax.length * 16 ≤ 140737488351232) (hcap : ax.length ≤ ca) (hwa : ∀ a ∈ ax, (Lit.int .i64 a.1).wf = true) (hs0 : i64 s.1) (hs2 : i64 s.2.2.1) (hs3 : i64 s.2.2.2.1) (hs4 : i64 s.2.2.2.2) (hrx : Row w X (nums .u64 x)) (hlx : x.length * 8 ≤ 140737488351232) (hwx : ∀ d ∈ x, (Lit.int .u64 d).wf = true) (hat : 0 ≤ at0 ∧ at0 < 65536) (hwv : U64 wv) (hT : Tab w) :
    Calls Tryd.prog 14 #[.int .u64 p, .slice A ax.length ca, .bool inv, .agg #[.int .i64 s.1, .bool s.2.1, .int .i64 s.2.2.1, .int .i64 s.2.2.2.1, .int .i64 s.2.2.2.2], .slice X x.length cx, .int .u16 at0, .int .u64 wv] w fun e w' => e = .returned (.bool true) ∧ Below w.heap.size w w' := by
  obtain ⟨s0, s1, s2, s3, s4⟩ := s
  dsimp only at *
  have HP := Lib.hid hp
  have HR := Lib.hid hr
  have HT := Lib.hid hT
  have HW : Hid (∀ a ∈ ax, i64 a.1) := Lib.hid fun a ha => i64_wf (hwa a ha)
  clear hp hr hT hwa
  generalize hn : ax.length = n at *
  have HN := Lib.hid hn
  have HL : Hid (n ≤ 8796093022208) := Lib.hid (by omega)
  clear hn hla hcap
  have HRX := Lib.hid hrx
  have HWX : Hid (∀ d ∈ x, U64 d) := Lib.hid fun d hd => u64_wf (hwx d hd)
  clear hrx hwx
  generalize hm : x.length = m at *
  have HM := Lib.hid hm
  have HLM : Hid (m ≤ 9223372036854775807) := Lib.hid (by omega)
  have HM8 : Hid (m * 8 ≤ 140737488351232) := Lib.hid hlx
  clear hm hlx
  have HWV := Lib.hid hwv
  clear hwv
  have hbA : Below w.heap.size w (w.alloc (.cells #[.int .i64 s0, .bool s1, .int .i64 s2, .int .i64 s3, .int .i64 s4] 39)) := (Below.refl _ _).alloc (Nat.le_refl _) _
  have HBX : Hid (Row (w.alloc (.cells #[.int .i64 s0, .bool s1, .int .i64 s2, .int .i64 s3, .int .i64 s4] 39)) (some ⟨w.heap.size, 0, none⟩) [.int .i64 s0, .bool s1, .int .i64 s2, .int .i64 s3, .int .i64 s4]) := Lib.hid (row_new w [.int .i64 s0, .bool s1, .int .i64 s2, .int .i64 s3, .int .i64 s4] _)
  have HBA := Lib.hid hbA
  have HTA := Lib.hid (HT.out.below hbA)
  clear hbA
  go_enter Tryd.func14, Tryd.ntmps14
  go_wp2_with fail
  generalize (w.alloc (.cells #[.int .i64 s0, .bool s1, .int .i64 s2, .int .i64 s3, .int .i64 s4] 39)) = V at *
  refine (live16_calls V HTA.out).mono ?_
  rintro e w1 ⟨rfl, hb1⟩
  have HB1 := Lib.hid (blT HBA.out hb1)
  have HBX1 := Lib.hid (HBX.out.below hb1)
  clear hb1 HBX HBA HTA
  go_wp2_with fail
  refine (few7_calls _ _ _ ax _ _ HN.out (HR.out.below HB1.out) HL.out HW.out).mono ?_
  rintro e w2 ⟨r0, rfl, hb⟩
  have HB2 := Lib.hid (blT HB1.out hb)
  have HBX2 := Lib.hid (HBX1.out.below hb)
  clear hb HB1 HBX1
  cases r0
  case false =>
    go_wp2
    go_ret
    exact ⟨rfl, HB2.out⟩
  by_cases h50 : 40 < m
  case pos =>
    have f50 : decide ((40 : Int) < (m : Int)) = true := by simp; omega
    have f51 : decide (40 < m) = true := by simp; omega
    go_wp2
    go_ret
    exact ⟨by first | rfl | (simp; done), HB2.out⟩
  have f50 : decide ((40 : Int) < (m : Int)) = false := by simp; omega
  have f51 : decide (40 < m) = false := by simp; omega
  by_cases hm0 : m = 0
  case pos =>
    subst hm0
    clear f50 f51 h50
    go_wp2
    go_ret
    exact ⟨by first | rfl | (simp; done), HB2.out⟩
  have m0 : ((m : Int) == 0) = false := by simp; omega
  have m00 : (m == 0) = false := by simp; omega
  have m1 : ¬ (m : Int) = 0 := by omega
  obtain ⟨at1, rfl⟩ := Int.eq_ofNat_of_zero_le hat.1
  obtain ⟨kk, hkk⟩ : ∃ q, at1 % m = q := ⟨_, rfl⟩
  have hkm : kk < m := by rw [← hkk]; exact Nat.mod_lt _ (by omega)
  have r1 : (at1 : Int).tmod (m : Int) = (kk : Int) := by rw [Int.tmod_eq_emod_of_nonneg (by omega), ← hkk]; push_cast; rfl
  have r2 : (at1 : Int) % (m : Int) = (kk : Int) := by rw [← hkk]; push_cast; rfl
  have r3 : IntKind.i64.wrap (at1 : Int) = (at1 : Int) := wrapI (by omega) (by omega)
  have r4 : IntKind.i64.wrap (kk : Int) = (kk : Int) := wrapI (by omega) (by omega)
  clear hkk
  have b0 : w2.cell? ⟨w.heap.size, 0, none⟩ = some (.int .i64 s0) := HBX2.out.cell (i := 0) rfl
  have b1 : w2.cell? ⟨w.heap.size, 1, none⟩ = some (.bool s1) := HBX2.out.cell (i := 1) rfl
  have b2 : w2.cell? ⟨w.heap.size, 2, none⟩ = some (.int .i64 s2) := HBX2.out.cell (i := 2) rfl
  have b3 : w2.cell? ⟨w.heap.size, 3, none⟩ = some (.int .i64 s3) := HBX2.out.cell (i := 3) rfl
  have b4 : w2.cell? ⟨w.heap.size, 4, none⟩ = some (.int .i64 s4) := HBX2.out.cell (i := 4) rfl
  by_cases hc : wrd16 p ax (s0, s1, s2, s3, s4) x = 0
  case neg =>
    have HF : Hid (doS16 p ax inv (s0, s1, s2, s3, s4) x = ([], wrd16 p ax (s0, s1, s2, s3, s4) x)) := Lib.hid (by rw [doS16, if_neg hc])
    have t0 : (wrd16 p ax (s0, s1, s2, s3, s4) x != 0) = true := by simpa using hc
    have t1 : (wrd16 p ax (s0, s1, s2, s3, s4) x == 0) = false := by simpa using hc
    clear hc
    go_wp2_with fail
    refine (sdo_calls p A _ n ax inv s0 s1 s2 s3 s4 X cx m x w2 HN.out HM.out HP.out (HR.out.below HB2.out) HL.out HW.out (HRX.out.below HB2.out) HLM.out HWX.out (HT.out.below HB2.out)).mono ?_
    rw [HF.out]
    rintro e w3 ⟨B, b, rfl, ho, hb⟩
    have HB3 := Lib.hid (blT HB2.out hb)
    clear ho hb b0 b1 b2 b3 b4
    dsimp only
    go_wp2
    go_ret
    exact ⟨by first | rfl | (simp; done), HB3.out⟩
  have hK0 := wrd16_ok hc
  obtain ⟨k, N, neg, hK⟩ := chk16_ok hK0.chk
  have hsk := hK.axis
  dsimp only at hsk
  subst hsk
  have HD1 := Lib.hid (hK0.do inv)
  have HLY : Hid (((stepDo p ax inv ((k : Int), s1, s2, s3, s4) x, (0 : Int)).1).length = m) := Lib.hid (by rw [stepDo_length]; exact HM.out)
  have HLY2 : Hid ((stepDo p ax inv ((k : Int), s1, s2, s3, s4) x).length = m) := HLY
  have HK0 := Lib.hid hK0
  have HXS : Hid ((x.set kk wv).length = m) := Lib.hid (by rw [List.length_set]; exact HM.out)
  have HXU : Hid (∀ d ∈ x.set kk wv, U64 d) := Lib.hid fun d hd => by
    rcases List.mem_or_eq_of_mem_set hd with h | h
    · exact HWX.out d h
    · rw [h]; exact HWV.out
  have HKZ : Hid (inS p [wv] = true → WrdK p ax ((k : Int), s1, s2, s3, s4) (x.set kk wv)) := Lib.hid fun hi => by
    refine ⟨hK0.chk, by rw [List.length_set]; exact hK0.all, ?_⟩
    have h1 := hK0.inn
    unfold inS at h1 hi ⊢
    rw [Bool.and_eq_true, List.all_eq_true] at h1 hi ⊢
    refine ⟨fun d hd => ?_, h1.2⟩
    rcases List.mem_or_eq_of_mem_set hd with h | h
    · exact h1.1 d h
    · rw [h]; exact hi.1 wv (by simp)
  have HAP : Hid (∀ i, i < m → gNo (dimsA ax) k s1 s2.toNat s3.toNat s4.toNat i ≠ gNi (dimsA ax) k s1 s3.toNat s4.toNat kk → (stepDo p ax inv ((k : Int), s1, s2, s3, s4) (x.set kk wv)).getD i 0 = (stepDo p ax inv ((k : Int), s1, s2, s3, s4) x).getD i 0) := Lib.hid fun i hi hne => step_apart hK inv hK0.all (by rw [HM.out]; exact hkm) wv (by rw [HM.out]; exact hi) hne
  have HPK := Lib.hid (places_of hK inv (P := m) (by rw [hK0.all, HM.out]))
  have HGY := Lib.hid (fun (w0 : World) (hr0 : Row w0 A (axR ax)) (hT0 : Tab w0) => sgroups_yes p A ca n ax k s1 s2 s3 s4 N neg w0 HN.out HP.out hr0 HL.out HW.out hT0 hK0.chk hK)
  have HLZ : Hid (((stepDo p ax inv ((k : Int), s1, s2, s3, s4) (x.set kk wv), (0 : Int)).1).length = m) := Lib.hid (by rw [stepDo_length]; exact HXS.out)
  have HLZ2 : Hid ((stepDo p ax inv ((k : Int), s1, s2, s3, s4) (x.set kk wv)).length = m) := HLZ
  clear hc hK0 hK
  go_wp2_with fail
  refine (sdo_calls p A _ n ax inv (k : Int) s1 s2 s3 s4 X cx m x w2 HN.out HM.out HP.out (HR.out.below HB2.out) HL.out HW.out (HRX.out.below HB2.out) HLM.out HWX.out (HT.out.below HB2.out)).mono ?_
  rw [HD1.out, HLY.out]
  rintro e w3 ⟨Y, cy, rfl, ho, hb⟩
  have HB3 := Lib.hid (blT HB2.out hb)
  have HRY := Lib.hid ho.row
  have HBX3 := Lib.hid (HBX2.out.below hb)
  clear ho hb b0 b1 b2 b3 b4 r1 r2 r3 r4 m1
  dsimp only
  have hbI : Below w3.heap.size w3 (w3.alloc (.cells #[.int .u64 wv] 22)) := (Below.refl _ _).alloc (Nat.le_refl _) _
  have HRI : Hid (Row (w3.alloc (.cells #[.int .u64 wv] 22)) (some ⟨w3.heap.size, 0, none⟩) (nums .u64 [wv])) := Lib.hid (row_new w3 [.int .u64 wv] 22)
  have HBI := Lib.hid hbI
  clear hbI
  go_wp2_with fail
  have HB4 := Lib.hid (blT HB3.out HBI.out)
  have HRY4 := Lib.hid (HRY.out.below HBI.out)
  have HBX4 := Lib.hid (HBX3.out.below HBI.out)
  generalize (w3.alloc (.cells #[.int .u64 wv] 22)) = w4 at *
  refine (in_n p _ 1 1 [wv] w4 rfl HRI.out (by decide)).mono ?_
  rintro e w5 ⟨rfl, rfl⟩
  cases hin : inS p [wv]
  · go_wp2
    go_ret
    exact ⟨by first | rfl | (simp; done), HB4.out⟩
  have HDZ := Lib.hid ((HKZ.out hin).do inv)
  clear hin HKZ
  have HRX5 := Lib.hid (HRX.out.below HB4.out)
  have hm8 := HM8.out
  go_wp2_with (at_builtin; (refine append_any w5 Tryd.underlying41 info_u64 rfl _ _ rfl w5.heap.size 0 0 m cx none X [] x rfl rfl (Own.nil _ _ _ _) HRX5.out HM.out (Nat.le_refl _) (by omega) (by omega) ?_); intro V0 cv w6 hown hbel hgrow; have HO6 : Hid (Own w6 w5.heap.size 22 1 V0 m cv (nums .u64 x)) := Lib.hid (by simpa using hown); have HB6 : Hid (Below w5.heap.size w5 w6) := Lib.hid hbel; clear hown hbel hgrow; obtain ⟨vb, cv', hzv, _, _⟩ := World.ownsRow.form HO6.out (show 0 < m by omega); cases hzv; have ok0 := HO6.out.cellAt kk hkm; have of0 := HO6.out.frozenAt kk; have ok1 : w6.cell? ⟨vb, kk, none⟩ = some (.int .u64 (x[kk]'(by rw [HM.out]; exact hkm))) := (by rw [ok0]; exact nums_get .u64 _ kk (by rw [HM.out]; exact hkm)); clear ok0; have HO7 : Hid (Own (w6.setCell ⟨vb, kk, none⟩ (.int .u64 wv)) w5.heap.size 22 1 (some ⟨vb, 0, none⟩) m cv (nums .u64 (x.set kk wv))) := Lib.hid (by have h1 := HO6.out.stored kk (.int .u64 wv); rw [nums_set] at h1; exact h1); have HB7 : Hid (Below w5.heap.size w5 (w6.setCell ⟨vb, kk, none⟩ (.int .u64 wv))) := Lib.hid (HB6.out.setCell (p := ⟨vb, kk, none⟩) (Own.base HO6.out).1 _); have HBX7 := Lib.hid (HBX4.out.below HB7.out); have q0 : (w6.setCell ⟨vb, kk, none⟩ (.int .u64 wv)).cell? ⟨w.heap.size, 0, none⟩ = some (.int .i64 (k : Int)) := HBX7.out.cell (i := 0) rfl; have q1 : (w6.setCell ⟨vb, kk, none⟩ (.int .u64 wv)).cell? ⟨w.heap.size, 1, none⟩ = some (.bool s1) := HBX7.out.cell (i := 1) rfl; have q2 : (w6.setCell ⟨vb, kk, none⟩ (.int .u64 wv)).cell? ⟨w.heap.size, 2, none⟩ = some (.int .i64 s2) := HBX7.out.cell (i := 2) rfl; have q3 : (w6.setCell ⟨vb, kk, none⟩ (.int .u64 wv)).cell? ⟨w.heap.size, 3, none⟩ = some (.int .i64 s3) := HBX7.out.cell (i := 3) rfl; have q4 : (w6.setCell ⟨vb, kk, none⟩ (.int .u64 wv)).cell? ⟨w.heap.size, 4, none⟩ = some (.int .i64 s4) := HBX7.out.cell (i := 4) rfl)
  clear q0 q1 q2 q3 q4 ok1 of0
  have HB8 := Lib.hid (blT HB4.out HB7.out)
  have HRY7 := Lib.hid (HRY4.out.below HB7.out)
  generalize (w6.setCell ⟨vb, kk, none⟩ (.int .u64 wv)) = w7 at *
  refine (sdo_calls p A _ n ax inv (k : Int) s1 s2 s3 s4 (some ⟨vb, 0, none⟩) cv m (x.set kk wv) w7 HN.out HXS.out HP.out (HR.out.below HB8.out) HL.out HW.out HO7.out.row HLM.out HXU.out (HT.out.below HB8.out)).mono ?_
  rw [HDZ.out, HLZ.out]
  rintro e w9 ⟨Zz, cz, rfl, ho, hb⟩
  have HB9 := Lib.hid (blT HB8.out hb)
  have HRY9 := Lib.hid (HRY7.out.below hb)
  have HRZ9 := Lib.hid ho.row
  have HBX9 := Lib.hid (HBX7.out.below hb)
  clear ho hb
  dsimp only
  have b0 : w9.cell? ⟨w.heap.size, 0, none⟩ = some (.int .i64 (k : Int)) := HBX9.out.cell (i := 0) rfl
  have b1 : w9.cell? ⟨w.heap.size, 1, none⟩ = some (.bool s1) := HBX9.out.cell (i := 1) rfl
  have b2 : w9.cell? ⟨w.heap.size, 2, none⟩ = some (.int .i64 s2) := HBX9.out.cell (i := 2) rfl
  have b3 : w9.cell? ⟨w.heap.size, 3, none⟩ = some (.int .i64 s3) := HBX9.out.cell (i := 3) rfl
  have b4 : w9.cell? ⟨w.heap.size, 4, none⟩ = some (.int .i64 s4) := HBX9.out.cell (i := 4) rfl
  go_wp2_with fail
  clear b0 b1 b2 b3 b4
  refine (HGY.out w9 (HR.out.below HB9.out) (HT.out.below HB9.out)).mono ?_
  rintro e w10 ⟨ZG, zg, hs, rfl, hz, hsl, hrows, hb⟩
  have HB10 := Lib.hid (blT HB9.out hb)
  have HRY10 := Lib.hid (HRY9.out.below hb)
  have HRZ10 := Lib.hid (HRZ9.out.below hb)
  have HZG := Lib.hid hz
  have HSL := Lib.hid hsl
  have HRW := Lib.hid hrows
  clear hb hz hsl hrows HGY
  dsimp only
  generalize stepDo p ax inv ((k : Int), s1, s2, s3, s4) (x.set kk wv) = dz at *
  generalize stepDo p ax inv ((k : Int), s1, s2, s3, s4) x = dy at *
  generalize hG : grpG (dimsA ax) k s1 s2.toNat s3.toNat s4.toNat = G at *
  generalize hr0 : grpR s1 s2.toNat = r at *
  generalize hcn : grpC (dimsA ax) k s1 s3.toNat s4.toNat = cnt at *
  generalize gNi (dimsA ax) k s1 s3.toNat s4.toNat = gi at *
  generalize gNo (dimsA ax) k s1 s2.toNat s3.toNat s4.toNat = go at *
  have hr1 := HPK.out.r1
  have hr5 := HPK.out.r5
  have hc4 := HPK.out.c4
  have hmk := make_int m (by omega)
  clear hG hr0 hcn m0 m00 f50 f51
  have HOM : Hid (Own (w10.alloc (.cells (madeCells #[.int .i64 0] m) 3)) w10.heap.size 3 1 (some ⟨w10.heap.size, 0, none⟩) m m (nums .i64 (List.replicate m 0))) := Lib.hid (by
    have h1 := own_made w10 w10.heap.size 3 (.int .i64 0) m (Nat.le_refl _) (by omega)
    rw [nums_replicate] at h1
    exact h1)
  have HBM : Hid (Below w10.heap.size w10 (w10.alloc (.cells (madeCells #[.int .i64 0] m) 3))) := Lib.hid ((Below.refl _ _).alloc (Nat.le_refl _) _)
  have HSM : Hid (w10.heap.size + 1 ≤ (w10.alloc (.cells (madeCells #[.int .i64 0] m) 3)).heap.size) := Lib.hid (by simp)
  have HU0 : Hid (UsedC (fun g => gi kk = g) (fun g => (G g).2.2) r m 0 0 (List.replicate m 0)) := Lib.hid ⟨by simp, fun f hf => by rw [List.getD_eq_getElem?_getD]; simp [hf], fun g' t' _ _ h => by omega⟩
  go_wp2
  clear hmk
  generalize (w10.alloc (.cells (madeCells #[.int .i64 0] m) 3)) = W at *
  obtain ⟨b1, hb1⟩ : ∃ b, w10.heap.size = b := ⟨_, rfl⟩
  have HBE := Lib.hid hb1
  rw [hb1] at HOM HBM HSM
  try rw [hb1]
  clear hb1
  go_loopw [124] (fun q ws => ∃ (g : Nat) (u : List Int), g ≤ cnt ∧ q = .int .i64 g ∧ Hid (Own ws b1 3 1 (some ⟨b1, 0, none⟩) m m (nums .i64 u)) ∧ Hid (UsedC (fun g => gi kk = g) (fun g => (G g).2.2) r m g 0 u) ∧ Hid (Below b1 w10 ws) ∧ Hid (b1 + 1 ≤ ws.heap.size)) (fun q _ => cnt - (intOf q).toNat)
  case atStart => exact ⟨0, _, Nat.zero_le _, rfl, HOM, HU0, HBM, HSM⟩
  case round =>
    obtain ⟨g, u0, hg, rfl, HO, HUS, HB11, HSZ⟩ := hrel
    have HB11' : Hid (Below w10.heap.size w10 wr) := Lib.hid (by rw [HBE.out]; exact HB11.out)
    by_cases hgt : g < cnt
    · have hgl : g < hs.length := by have := HSL.out; omega
      obtain ⟨q1, q2, q3⟩ := HRW.out g hgl
      have HRA := Lib.hid q1
      have HRC := Lib.hid q3
      have hli := HPK.out.lI g hgt
      have hlo := HPK.out.lO g hgt
      have HIO := Lib.hid (HPK.out.iO g hgt)
      have HMI := Lib.hid (HPK.out.mI g hgt)
      have HII := Lib.hid (HPK.out.iI g hgt)
      have HLI := Lib.hid hli
      have HLO := Lib.hid hlo
      obtain ⟨za, rfl⟩ := HZG.out.some_of (by intro h0; have h1 := hgR_length r hs; rw [h0] at h1; simp at h1; have h2 := HSL.out; omega)
      obtain ⟨d0, d1, d2⟩ := hg_cells (HZG.out.below HB11'.out) hgl
      obtain ⟨⟨A1, Fa, C1, ca1, cb1, cc1⟩, hh⟩ : ∃ h, hs[g] = h := ⟨_, rfl⟩
      rw [hh] at HRA HRC d0 d1 d2
      dsimp only at HRA HRC d0 d1 d2
      clear hh hgl q1 q2 q3
      have hlI : 1 ≤ (G g).1.length := by omega
      have hlO : 1 ≤ (G g).2.2.length := by omega
      obtain ⟨ia, rfl⟩ := HRA.out.some_of (nums_ne hlI)
      obtain ⟨oa, rfl⟩ := HRC.out.some_of (nums_ne hlO)
      clear hli hlo hlI hlO
      have hbG : Below wr.heap.size wr (wr.alloc (.cells #[.slice (some ia) r ca1, .slice Fa r cb1, .slice (some oa) r cc1] 72)) := (Below.refl _ _).alloc (Nat.le_refl _) _
      have HVB : Hid (Own (wr.alloc (.cells #[.slice (some ia) r ca1, .slice Fa r cb1, .slice (some oa) r cc1] 72)) (b1 + 1) 72 1 (some ⟨wr.heap.size, 0, none⟩) 3 3 [.slice (some ia) r ca1, .slice Fa r cb1, .slice (some oa) r cc1]) := Lib.hid (own_one wr (b1 + 1) 72 [.slice (some ia) r ca1, .slice Fa r cb1, .slice (some oa) r cc1] 3 HSZ.out rfl (by decide))
      have HVO := Lib.hid (HO.out.grown hbG)
      have HVW : Hid (Below b1 w10 (wr.alloc (.cells #[.slice (some ia) r ca1, .slice Fa r cb1, .slice (some oa) r cc1] 72))) := Lib.hid (HB11.out.trans (hbG.mono (by have := HSZ.out; omega)))
      have HVS : Hid (b1 + 1 ≤ (wr.alloc (.cells #[.slice (some ia) r ca1, .slice Fa r cb1, .slice (some oa) r cc1] 72)).heap.size) := Lib.hid (Nat.le_trans HSZ.out hbG.size)
      obtain ⟨gb, hgb⟩ : ∃ b, wr.heap.size = b := ⟨_, rfl⟩
      clear hbG HO
      go_wp2
      clear d0 d1 d2
      generalize (wr.alloc (.cells #[.slice (some ia) r ca1, .slice Fa r cb1, .slice (some oa) r cc1] 72)) = V9 at *
      rw [hgb] at HVB
      try rw [hgb]
      clear hgb HB11 HB11' HSZ
      go_hide hQ
      go_loopw [26, 131] (fun v q ws => ∃ t : Nat, t ≤ r ∧ q = .int .i64 t ∧ v = .bool (hasN (G g).1 kk t) ∧ Hid (Below V9.heap.size V9 ws)) (fun _ q _ => r - (intOf q).toNat)
      case atStart => exact ⟨0, Nat.zero_le _, rfl, rfl, Lib.hid (Below.refl _ _)⟩
      case round =>
        obtain ⟨t, ht, rfl, rfl, HB12⟩ := hrel
        have HVW2 : Hid (Below b1 w10 wr) := Lib.hid (HVW.out.trans (HB12.out.mono (by have := HVS.out; omega)))
        have HVW2' : Hid (Below w10.heap.size w10 wr) := Lib.hid (by rw [HBE.out]; exact HVW2.out)
        by_cases htt : t < r
        · have hti : t < (G g).1.length := by have := HLI.out; omega
          have hc1 := (HRA.out.below HVW2'.out).num hti
          have HHN : Hid (hasN (G g).1 kk (t + 1) = (hasN (G g).1 kk t || decide ((G g).1[t] = (kk : Int)))) := Lib.hid (by rw [hasN, getD_of hti])
          obtain ⟨hb, hhb⟩ : ∃ b, hasN (G g).1 kk t = b := ⟨_, rfl⟩
          rw [hhb] at HHN
          rw [hhb]
          clear hhb
          generalize (G g).1[t] = iv at *
          by_cases hik : iv = (kk : Int)
          · have HHN2 : Hid (hasN (G g).1 kk (t + 1) = true) := Lib.hid (by rw [HHN.out, decide_eq_true hik, Bool.or_true])
            subst hik
            cases hb
            all_goals
              go_wp2
              go_roundw
              case rel => exact ⟨t + 1, by omega, by go_num, by rw [HHN2.out], HB12⟩
              case measure => simp [intOf]; omega
          · have HHN2 : Hid (hasN (G g).1 kk (t + 1) = hb) := Lib.hid (by rw [HHN.out, decide_eq_false hik, Bool.or_false])
            have e1 : (iv == (kk : Int)) = false := by simp; exact hik
            cases hb
            all_goals
              go_wp2
              go_roundw
              case rel => exact ⟨t + 1, by omega, by go_num, by rw [HHN2.out], HB12⟩
              case measure => simp [intOf]; omega
        · have hte : t = r := by omega
          have HHR : Hid (hasN (G g).1 kk t = true ↔ gi kk = g) := Lib.hid (by
            rw [hte, hasN_iff, HMI.out kk hkm]
            constructor
            · rintro ⟨u, h1, h2⟩; exact ⟨u, h1, by rw [h2, Int.toNat_natCast]⟩
            · rintro ⟨u, h1, h2⟩
              have hul : u < (G g).1.length := by have := HLI.out; omega
              have h3 := HII.out _ (List.getElem_mem hul)
              have e3 : (G g).1.getD u 0 = (G g).1[u] := getD_of hul 0
              rw [← e3] at h3
              exact ⟨u, h1, by omega⟩)
          obtain ⟨hb, hhb⟩ : ∃ b, hasN (G g).1 kk t = b := ⟨_, rfl⟩
          rw [hhb] at HHR
          rw [hhb]
          have HVO3 := Lib.hid (HVO.out.grown HB12.out)
          have HVB3 := Lib.hid (HVB.out.grown HB12.out)
          have HVS3 : Hid (b1 + 1 ≤ wr.heap.size) := Lib.hid (Nat.le_trans HVS.out HB12.out.size)
          obtain ⟨w13, hw13⟩ : ∃ w13, w13 = wr := ⟨_, rfl⟩
          rw [← hw13] at HVO3 HVB3 HVS3 HVW2
          rw [← hw13]
          have y2 := HVB3.out.cellAt 2 (by decide)
          simp at y2
          clear hw13 hhb
          go_wp2
          subst hQ
          go_wp2
          clear y2 hte htt ht
          go_hide hQ
          go_loopw [145] (fun q ws => ∃ (t : Nat) (u : List Int), t ≤ r ∧ q = .int .i64 t ∧ Hid (Own ws b1 3 1 (some ⟨b1, 0, none⟩) m m (nums .i64 u)) ∧ Hid (UsedC (fun g => gi kk = g) (fun g => (G g).2.2) r m g t u) ∧ Hid (Below b1 w10 ws) ∧ Hid (b1 + 1 ≤ ws.heap.size)) (fun q _ => r - (intOf q).toNat)
          case atStart => exact ⟨0, u0, Nat.zero_le _, rfl, HVO3, HUS, HVW2, HVS3⟩
          case round =>
            obtain ⟨t, u, ht, rfl, HO, HUT, HB14, HSZ⟩ := hrel
            by_cases htt : t < r
            · have hto : t < (G g).2.2.length := by have := HLO.out; omega
              obtain ⟨o0, o1⟩ := HIO.out _ (List.getElem_mem hto)
              have HB14' : Hid (Below w10.heap.size w10 wr) := Lib.hid (by rw [HBE.out]; exact HB14.out)
              have hc1 := (HRC.out.below HB14'.out).num hto
              have e3 : (G g).2.2.getD t 0 = (G g).2.2[t] := getD_of hto 0
              have hUN := fun h => HUT.out.step (t := t) htt h
              have hUS := fun h => HUT.out.skip (t := t) h
              (try dsimp only at hUN)
              rw [e3] at hUN
              have hul := HUT.out.len
              have HLOW := Lib.hid HUT.out.lo
              clear e3
              generalize (G g).2.2[t] = x2 at *
              obtain ⟨x2, rfl⟩ := Int.eq_ofNat_of_zero_le o0
              have hx2 : x2 < m := by omega
              rw [Int.toNat_natCast] at hUN
              have hUN2 := hUN hx2
              have huv := HLOW.out x2 hx2
              have hgr : g * r + t ≤ 40000 := by
                have h1 : g * r ≤ 4096 * 5 := Nat.mul_le_mul (by omega) hr5
                omega
              have hk1 := nums_cell HO.out hx2 hul
              have fr1 := HO.out.frozenAt x2
              obtain ⟨uv, huu⟩ : ∃ v, u.getD x2 0 = v := ⟨_, rfl⟩
              rw [huu] at hUN2 huv hk1
              have hwu : IntKind.i64.wrap (uv + 1) = uv + 1 := wrapI (by omega) (by omega)
              have HO2 := Lib.hid (nums_put HO.out x2 (uv + 1))
              have HB15 : Hid (Below b1 w10 (wr.setCell ⟨b1, x2, none⟩ (.int .i64 (uv + 1)))) := Lib.hid (HB14.out.setCell (p := ⟨b1, x2, none⟩) (Nat.le_refl _) _)
              have HSZ2 : Hid (b1 + 1 ≤ (wr.setCell ⟨b1, x2, none⟩ (.int .i64 (uv + 1))).heap.size) := Lib.hid (by simp only [World.size_setCell]; exact HSZ.out)
              have HUN := Lib.hid hUN2
              have a1 : decide ((m : Int) ≤ (x2 : Int)) = false := by simp; omega
              have a2 : decide (m ≤ x2) = false := by simp; omega
              clear hUN hUN2 hul huv huu hto o0 o1
              cases hb
              · have HUS2 := Lib.hid (hUS (fun e => by have := HHR.out.2 e; cases this))
                clear hUS
                go_wp2
                go_roundw
                case rel => exact ⟨t + 1, _, by omega, by go_num, HO, HUS2, HB14, HSZ⟩
                case measure => simp [intOf]; omega
              · clear hUS
                go_wp2
                go_roundw
                case rel => exact ⟨t + 1, _, by omega, by go_num, HO2, HUN, HB15, HSZ2⟩
                case measure => simp [intOf]; omega
            · have hte : t = r := by omega
              have HU2 : Hid (UsedC (fun g => gi kk = g) (fun g => (G g).2.2) r m (g + 1) 0 u) := Lib.hid (by have h1 := HUT.out; rw [hte] at h1; exact h1.next)
              clear hte
              go_wp2
              subst hQ
              go_wp2
              go_roundw
              case rel => exact ⟨g + 1, u, by omega, by go_num, HO, HU2, HB14, HSZ⟩
              case measure => simp [intOf]; omega
    · have hge : g = cnt := by omega
      have HFIN : Hid (∀ v, v < m → u0.getD v 0 = 0 → dz.getD v 0 = dy.getD v 0) := Lib.hid fun v hv h0 => by
        refine HAP.out v hv fun e => ?_
        have h1 := HPK.out.gO v hv
        obtain ⟨t', h2, h3⟩ := (HPK.out.mO (go v) h1 v hv).1 rfl
        have h4 := HUS.out.met (go v) t' e.symm h2 (.inl (by omega))
        rw [h3] at h4
        omega
      have HUL := Lib.hid HUS.out.len
      have HBB : Hid (Below w.heap.size w wr) := Lib.hid (blT HB10.out HB11'.out)
      have HRYE := Lib.hid (HRY10.out.below HB11'.out)
      have HRZE := Lib.hid (HRZ10.out.below HB11'.out)
      obtain ⟨w15, hw15⟩ : ∃ w15, w15 = wr := ⟨_, rfl⟩
      rw [← hw15] at HO HBB HRYE HRZE
      rw [← hw15]
      clear hw15
      obtain ⟨ya, rfl⟩ := HRYE.out.some_of (nums_ne (by rw [HLY2.out]; omega))
      obtain ⟨zz, rfl⟩ := HRZE.out.some_of (nums_ne (by rw [HLZ2.out]; omega))
      go_wp2
      clear hge hgt hg
      go_loopw [168] (fun q ws => ∃ v : Nat, v ≤ m ∧ q = .int .i64 v ∧ Hid (Below w15.heap.size w15 ws)) (fun q _ => m - (intOf q).toNat)
      case atStart => exact ⟨0, Nat.zero_le _, rfl, Lib.hid (Below.refl _ _)⟩
      case round =>
        obtain ⟨v, hv, rfl, HB16⟩ := hrel
        by_cases hvm : v < m
        · have hk1 := nums_cell (HO.out.grown HB16.out) hvm HUL.out
          have hvy : v < dy.length := by have := HLY2.out; omega
          have hvz : v < dz.length := by have := HLZ2.out; omega
          have hcy := (HRYE.out.below HB16.out).num hvy
          have hcz := (HRZE.out.below HB16.out).num hvz
          have hfi := HFIN.out v hvm
          rw [getD_of hvy, getD_of hvz] at hfi
          generalize dy[v] = dyv at *
          generalize dz[v] = dzv at *
          generalize u0.getD v 0 = uv at *
          by_cases hu0 : uv = 0
          · have he := hfi hu0
            subst hu0
            subst he
            clear hfi
            go_wp2
            go_quiet (fail)
            go_wp2
            go_roundw
            case rel => exact ⟨v + 1, by omega, by go_num, Lib.hid (below_drewN HB16.out _)⟩
            case measure => simp [intOf]; omega
          · have e1 : (uv == 0) = false := by simp; exact hu0
            clear hfi
            go_wp2
            go_quiet (fail)
            go_wp2
            go_roundw
            case rel => exact ⟨v + 1, by omega, by go_num, Lib.hid (below_drewN HB16.out _)⟩
            case measure => simp [intOf]; omega
        · go_wp2
          go_ret
          exact ⟨rfl, blT HBB.out HB16.out⟩
end Go.Proofs.YtohcoidbncbijaaDoor.P
