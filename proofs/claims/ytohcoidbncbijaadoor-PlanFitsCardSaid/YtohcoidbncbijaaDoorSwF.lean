
/- The law PlanFits, walked. Conditions: words of their kinds; slices read as lists; the library's table lies as it was laid. -/
import Derived.Test.YtohcoidbncbijaaDoorPmA
import Derived.Test.YtohcoidbncbijaaDoorPlW
import Derived.Test.YtohcoidbncbijaaDoorStU
import Derived.Test.YtohcoidbncbijaaDoorGrF
import Derived.Test.YtohcoidbncbijaaDoorRound3
namespace Go.Proofs.YtohcoidbncbijaaDoor.P
open Go.RowKit
set_option linter.unusedVariables false
set_option linter.unusedSimpArgs false
/-- The longest of so many. -/
def lgN (l : List Int) : Nat → Int
  | 0 => 0
  | i + 1 => max (lgN l i) (l.getD i 0)
theorem lgN_ge (l : List Int) {j : Nat} : ∀ {i : Nat}, j < i → l.getD j 0 ≤ lgN l i
  | i + 1, h => by
    rw [lgN]
    by_cases e : j = i
    · subst e; omega
    · have := lgN_ge l (j := j) (i := i) (by omega)
      omega
theorem lgN_bound (l : List Int) {b : Int} (hb : 0 ≤ b) (h : ∀ i, l.getD i 0 ≤ b) : ∀ i, 0 ≤ lgN l i ∧ lgN l i ≤ b
  | 0 => ⟨Int.le_refl _, hb⟩
  | i + 1 => by
    have h1 := lgN_bound l hb h i
    have h2 := h i
    rw [lgN]; omega
theorem mostN_ge (f : Stp → Nat) (l : List Stp) {j : Nat} : ∀ {i : Nat}, j < i → f (l.getD j (0, false, 0, 0, 0)) ≤ mostN f l i
  | i + 1, h => by
    rw [mostN]
    by_cases e : j = i
    · subst e; omega
    · have := mostN_ge f l (j := j) (i := i) (by omega)
      omega
theorem mostN_is (f : Stp → Nat) (l : List Stp) : ∀ {i : Nat}, 0 < i → ∃ j, j < i ∧ f (l.getD j (0, false, 0, 0, 0)) = mostN f l i
  | i + 1, _ => by
    rw [mostN]
    by_cases h : mostN f l i ≤ f (l.getD i (0, false, 0, 0, 0))
    · exact ⟨i, by omega, by omega⟩
    · by_cases h0 : 0 < i
      · obtain ⟨j, hj, e⟩ := mostN_is f l h0
        exact ⟨j, by omega, by omega⟩
      · have : i = 0 := by omega
        subst this
        simp [mostN] at h
def metN (f : Stp → Nat) (l : List Stp) (m : Nat) : Nat → Nat
  | 0 => 0
  | i + 1 => metN f l m i + if f (l.getD i (0, false, 0, 0, 0)) = m then 1 else 0
theorem metN_le (f : Stp → Nat) (l : List Stp) (m : Nat) : ∀ i, metN f l m i ≤ i
  | 0 => Nat.le_refl _
  | i + 1 => by have := metN_le f l m i; rw [metN]; split <;> omega
theorem metN_pos (f : Stp → Nat) (l : List Stp) (m : Nat) {j : Nat} (hj : f (l.getD j (0, false, 0, 0, 0)) = m) : ∀ {i : Nat}, j < i → 0 < metN f l m i
  | i + 1, h => by
    rw [metN]
    by_cases e : j = i
    · subst e; rw [if_pos hj]; omega
    · have := metN_pos f l m hj (i := i) (by omega)
      omega
set_option maxRecDepth 100000 in
set_option maxHeartbeats 2000000 in
theorem planFits_walk (p : Int) (A : Option Addr) (ca : Nat) (ax : List (Int × Bool)) (inv : Bool) (w : World) (hp : U64 p) (hr : Row w A (axR ax)) (hla : ax.length * 16 ≤ 140737488351232) (hcap : ax.length ≤ ca) (hwa : ∀ a ∈ ax, (Lit.int .i64 a.1).wf = true) (hT : Tab w) :
    Calls Tryd.prog 8 #[.int .u64 p, .slice A ax.length ca, .bool inv] w fun e w' => e = .returned (.bool true) ∧ Below w.heap.size w w' := by
  have HP := Lib.hid hp
  have HR := Lib.hid hr
  have HT := Lib.hid hT
  have HW : Hid (∀ a ∈ ax, i64 a.1) := Lib.hid fun a ha => i64_wf (hwa a ha)
  clear hp hr hT hwa
  generalize hn : ax.length = n at *
  have HN := Lib.hid hn
  have HL : Hid (n ≤ 8796093022208) := Lib.hid (by omega)
  clear hn hla hcap
  go_enter Tryd.func8, Tryd.ntmps8
  go_wp2_with fail
  refine (live17_calls _ HT.out).mono ?_
  rintro e w1 ⟨rfl, hb1⟩
  have HB1 := Lib.hid hb1
  clear hb1
  go_wp2_with fail
  refine (few7_calls _ _ _ ax _ _ HN.out (HR.out.below HB1.out) HL.out HW.out).mono ?_
  rintro e w2 ⟨r, rfl, hb⟩
  have HB2 := Lib.hid (blT HB1.out hb)
  clear hb HB1
  cases r
  case false =>
    go_wp2
    go_ret
    exact ⟨rfl, HB2.out⟩
  by_cases hc : chk7 p ax = 0
  case neg =>
    have t0 : (chk7 p ax != 0) = true := by simpa using hc
    go_wp2_with fail
    refine (pmake_no p A _ n ax inv w2 HN.out HP.out (HR.out.below HB2.out) HL.out HW.out (HT.out.below HB2.out) hc).mono ?_
    rintro e w3 ⟨rfl, hb⟩
    have HB3 := Lib.hid (blT HB2.out hb)
    clear hb hc
    have HBA : Hid (Below w.heap.size w (w3.alloc (.cells #[.int .i64 0, .int .i64 0, .int .i64 0, .slice none 0 0] 54))) := Lib.hid (HB3.out.alloc HB3.out.size _)
    dsimp only
    go_wp2
    go_ret
    exact ⟨by first | rfl | (simp; done), HBA.out⟩
  have hC7 := chk7_ok hc
  have hcall := pmake_yes p A ca n ax inv w2 HN.out HP.out (HR.out.below HB2.out) HL.out HW.out (HT.out.below HB2.out) hc
  have HMAY : Hid (∀ s ∈ stepsN ax inv n, chk16 p ax s = 0) := Lib.hid fun s hs => steps_may hC7 (by rw [HN.out]; exact Nat.le_refl _) hs
  have hp1 := hC7.dims.pos.prod
  have hp4 := hC7.dims.all
  have hlen : (stepsN ax inv n).length ≤ 56 := by
    have h1 := stepsN_len hC7.smooth inv n (by rw [HN.out]; exact Nat.le_refl _)
    have h2 := hC7.dims.n4
    rw [dimsA_length, HN.out] at h2
    omega
  have hn4 : n ≤ 4 := by have h1 := hC7.dims.n4; rw [dimsA_length, HN.out] at h1; exact h1
  have hdb : ∀ i, (dimsA ax).getD i 0 ≤ 4096 := fun i => by
    by_cases hi : i < (dimsA ax).length
    · rw [getD_of hi]
      have := hC7.dims.pos.at_le hi
      omega
    · rw [List.getD_eq_getElem?_getD, List.getElem?_eq_none (by omega)]; decide
  have HLGB := Lib.hid (lgN_bound (dimsA ax) (by decide) hdb)
  have HTLG : Hid (∀ s ∈ stepsN ax inv n, ((tlen p ax inv s : Nat) : Int) ≤ lgN (dimsA ax) n ∧ tlen p ax inv s ≤ 4096) := Lib.hid fun s hs => by
    obtain ⟨k, N, neg, hK, _, h2⟩ := tlen_le (inv := inv) s (HMAY.out s hs)
    have h3 := hK.lt
    have h4 : k < (dimsA ax).length := by rw [dimsA_length]; exact h3
    have h5 := lgN_ge (dimsA ax) (j := k) (i := n) (by have := HN.out; omega)
    have h6 := hK.dim
    rw [getD_of h4] at h6
    rw [getD_of h4, h6] at h5
    have h7 := hK.c6.n2
    omega
  have HPD : Hid (∀ i, i < n → ∃ d : Int, ∃ b, ax[i]? = some (d, b) ∧ IntKind.i64.wrap (prodL ((dimsA ax).take i) * d) = prodL ((dimsA ax).take (i + 1)) ∧ lgN (dimsA ax) (i + 1) = max (lgN (dimsA ax) i) d) := Lib.hid fun i hi => by
    have hia : i < ax.length := by have := HN.out; omega
    have hid : i < (dimsA ax).length := by rw [dimsA_length]; exact hia
    have e1 : (dimsA ax)[i] = ax[i].1 := by simp [dimsA]
    refine ⟨ax[i].1, ax[i].2, by rw [List.getElem?_eq_getElem hia], ?_, by rw [lgN, getD_of hid, e1]⟩
    have h1 := prodL_take (dimsA ax) i hid
    rw [e1] at h1
    rw [← h1]
    have h2 := hC7.dims.pos.take_le (i + 1)
    have h3 := (hC7.dims.pos.take (i + 1)).prod
    exact wrapI (by omega) (by omega)
  have HPE : Hid (prodL ((dimsA ax).take n) = prodL (dimsA ax)) := Lib.hid (by rw [List.take_of_length_le (by rw [dimsA_length, HN.out]; exact Nat.le_refl _)])
  have HPS : Hid (prodL ((dimsA ax).take 0) = 1) := Lib.hid (by simp [prodL])
  obtain ⟨PD, hPD⟩ : ∃ q, prodL (dimsA ax) = q := ⟨_, rfl⟩
  rw [hPD] at hcall HPE hp1 hp4
  obtain ⟨xa, rfl⟩ := HR.out.some_of (by intro h0; have h1 := axR_length ax; rw [h0] at h1; simp at h1; have h2 := hC7.dims.n1; rw [dimsA_length] at h2; omega)
  clear hPD hc hC7 hdb
  obtain ⟨l, hl2⟩ : ∃ l, stepsN ax inv n = l := ⟨_, rfl⟩
  rw [hl2] at hcall HMAY hlen HTLG
  obtain ⟨K, hK⟩ : ∃ K, l.length = K := ⟨_, rfl⟩
  have HK : Hid (l.length = K) := Lib.hid hK
  rw [hK] at hlen hcall
  have HMB : Hid (mostN (tlen p ax inv) l K ≤ 4096) := Lib.hid (mostN_le _ _ (fun s hs => (HTLG.out s hs).2) K (by omega))
  have HML : Hid (((mostN (tlen p ax inv) l K : Nat) : Int) ≤ lgN (dimsA ax) n) := Lib.hid (by
    have h0 := (HLGB.out n).1
    have h1 := mostN_le (tlen p ax inv) l (b := (lgN (dimsA ax) n).toNat) (fun s hs => by have := (HTLG.out s hs).1; omega) K (by omega)
    omega)
  have HMP : Hid (0 < K → 0 < metN (tlen p ax inv) l (mostN (tlen p ax inv) l K) K) := Lib.hid fun h => by
    obtain ⟨j, hj, e⟩ := mostN_is (tlen p ax inv) l h
    exact metN_pos _ _ _ e hj
  have HMG : Hid (∀ i, i < K → tlen p ax inv (l.getD i (0, false, 0, 0, 0)) ≤ mostN (tlen p ax inv) l K) := Lib.hid fun i h => mostN_ge _ _ h
  obtain ⟨mo, hmo⟩ : ∃ m, mostN (tlen p ax inv) l K = m := ⟨_, rfl⟩
  rw [hmo] at hcall HMB HML HMP HMG
  obtain ⟨wd, hwd⟩ : ∃ x, 2 * (PD + 6) + ((mo : Nat) : Int) = x := ⟨_, rfl⟩
  rw [hwd] at hcall
  have HWD := Lib.hid hwd
  have HCALL := Lib.hid hcall
  clear hl2 hK hmo hwd hcall
  go_wp2_with fail
  refine HCALL.out.mono ?_
  rintro e w3 ⟨B, b, rfl, hrl, hb⟩
  have HB3 := Lib.hid (blT HB2.out hb)
  have HBA : Hid (Below w3.heap.size w3 (w3.alloc (.cells #[.int .i64 PD, .int .i64 (mo : Int), .int .i64 wd, .slice B K b] 54))) := Lib.hid ((Below.refl _ _).alloc (Nat.le_refl _) _)
  have HPL : Hid (Row (w3.alloc (.cells #[.int .i64 PD, .int .i64 (mo : Int), .int .i64 wd, .slice B K b] 54)) (some ⟨w3.heap.size, 0, none⟩) [.int .i64 PD, .int .i64 (mo : Int), .int .i64 wd, .slice B K b]) := Lib.hid (row_new w3 [.int .i64 PD, .int .i64 (mo : Int), .int .i64 wd, .slice B K b] _)
  have HRL := Lib.hid hrl
  clear hrl hb HCALL
  dsimp only
  go_wp2
  have HB4 : Hid (Below w.heap.size w (w3.alloc (.cells #[.int .i64 PD, .int .i64 (mo : Int), .int .i64 wd, .slice B K b] 54))) := Lib.hid (blT HB3.out HBA.out)
  have HRL4 := Lib.hid (HRL.out.below HBA.out)
  generalize (w3.alloc (.cells #[.int .i64 PD, .int .i64 (mo : Int), .int .i64 wd, .slice B K b] 54)) = V at *
  generalize w3.heap.size = pb at *
  have HR4 := Lib.hid (HR.out.below HB4.out)
  go_loopw [9, 10, 47] (fun v g q wr => ∃ i : Nat, i ≤ n ∧ q = .int .i64 i ∧ v = .int .i64 (prodL ((dimsA ax).take i)) ∧ g = .int .i64 (lgN (dimsA ax) i) ∧ Hid (Below V.heap.size V wr)) (fun _ _ q _ => n - (intOf q).toNat)
  case atStart => exact ⟨0, Nat.zero_le _, rfl, by rw [HPS.out], rfl, Lib.hid (Below.refl _ _)⟩
  case round =>
    obtain ⟨i, hi, rfl, rfl, rfl, HB5⟩ := hrel
    by_cases hlt : i < n
    · have hia : i < ax.length := by have := HN.out; omega
      obtain ⟨d, bb, had, hwd, hlg⟩ := HPD.out i hlt
      obtain ⟨c0, c1⟩ := ax_cells (HR4.out.below HB5.out) hia
      rw [List.getElem?_eq_getElem hia] at had
      rw [Option.some.inj had] at c0 c1
      dsimp only at c0 c1
      have hbA : Below wr.heap.size wr (wr.alloc (.cells #[.int .i64 d, .bool bb] 32)) := (Below.refl _ _).alloc (Nat.le_refl _) _
      have HBX : Hid (Below V.heap.size V (wr.alloc (.cells #[.int .i64 d, .bool bb] 32))) := Lib.hid (blT HB5.out hbA)
      clear hbA had
      generalize prodL ((dimsA ax).take i) = q1 at *
      obtain ⟨q2, hq2⟩ : ∃ q, prodL ((dimsA ax).take (i + 1)) = q := ⟨_, rfl⟩
      rw [hq2] at hwd
      have HQ2 := Lib.hid hq2
      have HLG2 := Lib.hid hlg
      clear hq2 hlg
      generalize hl1 : lgN (dimsA ax) i = l1 at *
      go_wp2
      go_roundw
      case rel => exact ⟨i + 1, by omega, by go_num, by rw [HQ2.out], by rw [HLG2.out], HBX⟩
      case measure => simp [intOf]; omega
    · have hie : i = n := by omega
      have HPV : Hid (prodL ((dimsA ax).take i) = PD) := Lib.hid (by rw [hie]; exact HPE.out)
      have HLV : Hid (lgN (dimsA ax) i = lgN (dimsA ax) n) := Lib.hid (by rw [hie])
      rw [HPV.out, HLV.out]
      have HML2 := HML
      have HB6 := Lib.hid (blT HB4.out HB5.out)
      have HPL6 := Lib.hid (HPL.out.below HB5.out)
      have HRL6 := Lib.hid (HRL4.out.below HB5.out)
      obtain ⟨lg, hlg⟩ : ∃ x, lgN (dimsA ax) n = x := ⟨_, rfl⟩
      rw [hlg] at HML2
      rw [hlg]
      obtain ⟨w6, hw6⟩ : ∃ w6, w6 = wr := ⟨_, rfl⟩
      rw [← hw6] at HB6 HPL6 HRL6
      rw [← hw6]
      clear hw6 hlg HPV HLV HB5
      have x3 : w6.cell? ⟨pb, 3, none⟩ = some (.slice B K b) := HPL6.out.cell (i := 3) rfl
      go_wp2
      clear x3 hie hlt hi
      go_loopw [11, 63] (fun v q wr => ∃ i : Nat, i ≤ K ∧ q = .int .i64 i ∧ v = .int .i64 (metN (tlen p ax inv) l mo i : Nat) ∧ Hid (Below w6.heap.size w6 wr)) (fun _ q _ => K - (intOf q).toNat)
      case atStart => exact ⟨0, Nat.zero_le _, rfl, rfl, Lib.hid (Below.refl _ _)⟩
      case round =>
        obtain ⟨i, hi, rfl, rfl, HB7⟩ := hrel
        have hml := metN_le (tlen p ax inv) l mo i
        have HPL7 := Lib.hid (HPL6.out.below HB7.out)
        by_cases hlt : i < K
        · have hil : i < l.length := by have := HK.out; omega
          have HMX : Hid (metN (tlen p ax inv) l mo (i + 1) = metN (tlen p ax inv) l mo i + if tlen p ax inv l[i] = mo then 1 else 0) := Lib.hid (by rw [metN, List.getD_eq_getElem?_getD, List.getElem?_eq_getElem hil]; rfl)
          have hmg := HMG.out i hlt
          rw [List.getD_eq_getElem?_getD, List.getElem?_eq_getElem hil] at hmg
          change tlen p ax inv l[i] ≤ mo at hmg
          obtain ⟨la, rfl⟩ := HRL6.out.some_of (by intro h0; have h1 := spR_length l; rw [h0] at h1; simp at h1; omega)
          obtain ⟨b0, b1, b2, b3, b4⟩ := sp_cells (HRL6.out.below HB7.out) hil
          obtain ⟨ks, N, neg, hKs, htab, hlenT⟩ := tlen_le (inv := inv) _ (HMAY.out _ (List.getElem_mem hil))
          have HTE : Hid ((tabS p ax inv l[i]).1.length = tlen p ax inv l[i]) := Lib.hid rfl
          have HT2 : Hid ((tabS p ax inv l[i]).2 = 0) := Lib.hid (by rw [htab])
          obtain ⟨⟨s0, s1, s2, s3, s4⟩, hs⟩ : ∃ s, l[i] = s := ⟨_, rfl⟩
          rw [hs] at HMX hmg HTE HT2 b0 b1 b2 b3 b4
          dsimp only at b0 b1 b2 b3 b4
          clear hs hil hKs htab hlenT
          generalize tlen p ax inv (s0, s1, s2, s3, s4) = tn at *
          obtain ⟨mt, hmt⟩ : ∃ x, metN (tlen p ax inv) l mo i = x := ⟨_, rfl⟩
          rw [hmt] at HMX hml
          rw [hmt]
          clear hmt
          have hbG : Below wr.heap.size wr (wr.alloc (.cells #[.int .i64 s0, .bool s1, .int .i64 s2, .int .i64 s3, .int .i64 s4] 39)) := (Below.refl _ _).alloc (Nat.le_refl _) _
          have HBG := Lib.hid hbG
          clear hbG
          go_wp2_with fail
          clear b0 b1 b2 b3 b4
          generalize (wr.alloc (.cells #[.int .i64 s0, .bool s1, .int .i64 s2, .int .i64 s3, .int .i64 s4] 39)) = V2 at *
          have HBV : Hid (Below w6.heap.size w6 V2) := Lib.hid (blT HB7.out HBG.out)
          have HBW : Hid (Below w.heap.size w V2) := Lib.hid (blT HB6.out HBV.out)
          refine (stab_calls p (some xa) _ n ax inv s0 s1 s2 s3 s4 V2 HN.out HP.out (HR.out.below HBW.out) HL.out HW.out (HT.out.below HBW.out)).mono ?_
          rw [HTE.out, HT2.out]
          rintro e w9 ⟨T, tc, rfl, ho, hb⟩
          have HB9 : Hid (Below w6.heap.size w6 w9) := Lib.hid (blT HBV.out hb)
          have x1 : w9.cell? ⟨pb, 1, none⟩ = some (.int .i64 (mo : Int)) := ((HPL7.out.below HBG.out).below hb).cell (i := 1) rfl
          clear ho hb
          have d1 : decide ((mo : Int) < (tn : Int)) = false := by simp; omega
          have d2 : decide (mo < tn) = false := by simp; omega
          by_cases htm : tn = mo
          · have HMY : Hid (metN (tlen p ax inv) l mo (i + 1) = mt + 1) := Lib.hid (by rw [HMX.out, if_pos htm])
            subst htm
            go_wp2
            go_roundw
            case rel => exact ⟨i + 1, by omega, by go_num, by rw [HMY.out]; go_num, HB9⟩
            case measure => simp [intOf]; omega
          · have HMY : Hid (metN (tlen p ax inv) l mo (i + 1) = mt) := Lib.hid (by rw [HMX.out, if_neg htm, Nat.add_zero])
            have d3 : ((tn : Int) == (mo : Int)) = false := by simp; omega
            have d4 : (tn == mo) = false := by simp; omega
            go_wp2
            go_roundw
            case rel => exact ⟨i + 1, by omega, by go_num, by rw [HMY.out], HB9⟩
            case measure => simp [intOf]; omega
        · have hie : i = K := by omega
          subst hie
          have x0 : wr.cell? ⟨pb, 0, none⟩ = some (.int .i64 PD) := HPL7.out.cell (i := 0) rfl
          have x1 : wr.cell? ⟨pb, 1, none⟩ = some (.int .i64 (mo : Int)) := HPL7.out.cell (i := 1) rfl
          have x2 : wr.cell? ⟨pb, 2, none⟩ = some (.int .i64 wd) := HPL7.out.cell (i := 2) rfl
          have x3 : wr.cell? ⟨pb, 3, none⟩ = some (.slice B i b) := HPL7.out.cell (i := 3) rfl
          have hmb := HMB.out
          have hml2 := HML2.out
          have hwd := HWD.out
          have o1 : IntKind.i64.wrap (2 * PD) = 2 * PD := wrapI (by omega) (by omega)
          have o2 : IntKind.i64.wrap (2 * PD + 12) = 2 * PD + 12 := wrapI (by omega) (by omega)
          have o3 : IntKind.i64.wrap (2 * PD + 12 + (mo : Int)) = wd := by rw [wrapI (by omega) (by omega)]; omega
          have d1 : decide ((mo : Int) ≤ lg) = true := by simp; omega
          have d2 : decide (wd ≤ 16384) = true := by simp; omega
          have HBE := Lib.hid (blT HB6.out HB7.out)
          have HMP2 := Lib.hid HMP.out
          obtain ⟨mt, hmt⟩ : ∃ x, metN (tlen p ax inv) l mo i = x := ⟨_, rfl⟩
          rw [hmt] at HMP2 hml
          rw [hmt]
          clear hmt hwd
          by_cases hz : i = 0
          · subst hz
            have hm0 : mt = 0 := by omega
            subst hm0
            clear hlt hi
            go_wp2
            go_ret
            exact ⟨by first | rfl | (simp; done), HBE.out⟩
          · have hmp := HMP2.out (by omega)
            have d3 : ((i : Int) == 0) = false := by simp; omega
            have d4 : (i == 0) = false := by simp; omega
            have d5 : decide ((0 : Int) < (mt : Int)) = true := by simp; omega
            have d6 : decide (0 < mt) = true := by simp; omega
            go_wp2
            go_ret
            exact ⟨by first | rfl | (simp; done), HBE.out⟩
end Go.Proofs.YtohcoidbncbijaaDoor.P
