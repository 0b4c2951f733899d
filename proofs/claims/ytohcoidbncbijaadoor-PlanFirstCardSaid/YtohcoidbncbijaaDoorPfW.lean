
/- The law PlanFirst, walked. Conditions: words of their kinds; slices read as lists; the library's table lies as it was laid. -/
import Derived.Test.YtohcoidbncbijaaDoorSpo
namespace Go.Proofs.YtohcoidbncbijaaDoor.P
open Go.RowKit
set_option linter.unusedVariables false
set_option linter.unusedSimpArgs false
/-- A request whose numbers and lists are not too great. -/
structure RqFew (q : Rq) (M : Nat) : Prop where
  p : U64 q.p
  n : q.ax.length ≤ 1000
  ax : ∀ a ∈ q.ax, i64 a.1
  x : q.x.length ≤ M
theorem RqFew.sp {q : Rq} {M : Nat} (h : RqFew q M) (k : Nat) : RqFew (sp q k) (M + 1) := by
  obtain ⟨h1, h2, h3, h4⟩ := h
  have ha : ∀ N : Int, i64 N → ∀ a ∈ axTo N q.ax, i64 a.1 := by
    intro N hN a ha
    cases hq : q.ax with
    | nil => rw [hq] at ha; simp [axTo] at ha
    | cons b l =>
      rw [hq] at ha h3
      simp [axTo] at ha
      rcases ha with rfl | ha
      · exact hN
      · exact h3 a (by simp [ha])
  have p4 : U64 4 := ⟨by decide, by decide⟩
  have p9 : U64 998244353 := ⟨by decide, by decide⟩
  have h7 : i64 7 := ⟨by decide, by decide⟩
  have h3' : i64 3 := ⟨by decide, by decide⟩
  rcases k with _ | _ | _ | _ | _ | _ | _ | k
  · exact ⟨h1, h2, h3, Nat.le_succ_of_le h4⟩
  · exact ⟨p4, h2, h3, Nat.le_succ_of_le h4⟩
  · exact ⟨h1, by simp [P.sp], by simp [P.sp], Nat.le_succ_of_le h4⟩
  · exact ⟨h1, by simpa [P.sp, axTo_len] using h2, ha 7 h7, Nat.le_succ_of_le h4⟩
  · exact ⟨p9, by simpa [P.sp, axTo_len] using h2, ha 3 h3', Nat.le_succ_of_le h4⟩
  · exact ⟨h1, h2, h3, by simpa [P.sp] using h4⟩
  · exact ⟨h1, h2, h3, by simpa [P.sp, xTo_len] using Nat.le_succ_of_le h4⟩
  · exact ⟨h1, h2, h3, Nat.le_succ_of_le h4⟩
theorem itm_none {q : Rq} (h : q.chk ≠ 0) (i : Int) : itmS q.p q.ax q.b q.rt q.ag q.x q.sd i = ([], q.chk) := by
  unfold itmS
  rw [if_neg (show ¬ chk17 q.p q.ax q.b q.rt q.ag q.x q.sd = 0 from h)]
  rfl
set_option maxRecDepth 100000 in
set_option maxHeartbeats 4000000 in
theorem planFirst_walk (p : Int) (A : Option Addr) (ca : Nat) (ax : List (Int × Bool)) (inv : Bool) (b : Int) (X : Option Addr) (cx : Nat) (x : List Int) (S : Option Addr) (cs : Nat) (sd : List Int) (rt ag : Int) (i j : Int) (w : World) (hp : U64 p) (hib : i64 b) (hirt : i64 rt) (hiag : i64 ag)
    (gA : Row w A (axR ax) ∧ ax.length * 16 ≤ 140737488351232 ∧ ax.length ≤ ca ∧ ax.length ≤ 9223372036854775807 ∧ ∀ x ∈ ax, (Lit.int .i64 x.1).wf = true)
    (gX : Row w X (nums .u64 x) ∧ x.length * 8 ≤ 140737488351232 ∧ x.length ≤ cx ∧ x.length ≤ 9223372036854775807 ∧ ∀ y ∈ x, (Lit.int .u64 y).wf = true)
    (gS : Row w S (nums .u64 sd) ∧ sd.length * 8 ≤ 140737488351232 ∧ sd.length ≤ cs ∧ sd.length ≤ 9223372036854775807 ∧ ∀ y ∈ sd, (Lit.int .u64 y).wf = true) (hi : 0 ≤ i ∧ i < 256) (hj : 0 ≤ j ∧ j < 256) (hT : Tab w) :
    Calls Tryd.prog 5 #[.agg #[.int .u64 p, .slice A ax.length ca, .bool inv, .int .i64 b, .slice X x.length cx, .slice S sd.length cs, .int .i64 rt, .int .i64 ag], .int .u8 i, .int .u8 j] w fun e w' => e = .returned (.bool true) ∧ Below w.heap.size w w' := by
  have HP := Lib.hid hp
  have HR := Lib.hid gA.1
  have HRX := Lib.hid gX.1
  have HT := Lib.hid hT
  have HIB := Lib.hid hib
  have HW : Hid (∀ a ∈ ax, i64 a.1) := Lib.hid fun a ha => i64_wf (gA.2.2.2.2 a ha)
  have hla := gA.2.1
  have hlx := gX.2.1
  have hcx := gX.2.2.1
  have hls := gS.2.1
  clear hp gA gX gS hT
  generalize hn : ax.length = n at *
  generalize hm : x.length = m at *
  generalize hs : sd.length = s at *
  have HN := Lib.hid hn
  have HM := Lib.hid hm
  have HS := Lib.hid hs
  have HL : Hid (n ≤ 8796093022208) := Lib.hid (by omega)
  have HLM : Hid (m ≤ 9223372036854775807) := Lib.hid (by omega)
  have HCX := Lib.hid hcx
  clear hn hm hs hla hlx hls hcx
  obtain ⟨KB, hKB⟩ : ∃ KB : World → Prop, KB = fun ws => Below w.heap.size w ws ∧ w.heap.size < ws.heap.size ∧ ws.cell? ⟨w.heap.size, 0, none⟩ = some (.int .u64 p) ∧ ws.cell? ⟨w.heap.size, 1, none⟩ = some (.slice A n ca) ∧ ws.cell? ⟨w.heap.size, 2, none⟩ = some (.bool inv) ∧ ws.cell? ⟨w.heap.size, 3, none⟩ = some (.int .i64 b) ∧ ws.cell? ⟨w.heap.size, 4, none⟩ = some (.slice X m cx) ∧ ws.cell? ⟨w.heap.size, 5, none⟩ = some (.slice S s cs) ∧ ws.cell? ⟨w.heap.size, 6, none⟩ = some (.int .i64 rt) ∧ ws.cell? ⟨w.heap.size, 7, none⟩ = some (.int .i64 ag) := ⟨_, rfl⟩
  have HK0 : Hid (KB (w.alloc (.cells #[.int .u64 p, .slice A n ca, .bool inv, .int .i64 b, .slice X m cx, .slice S s cs, .int .i64 rt, .int .i64 ag] 43))) := Lib.hid (by rw [hKB]; exact ⟨(Below.refl _ _).alloc (Nat.le_refl _) _, by simp, World.news_of_block (cs := #[.int .u64 p, .slice A n ca, .bool inv, .int .i64 b, .slice X m cx, .slice S s cs, .int .i64 rt, .int .i64 ag]) (t := 43) (fr := (0, 0)) (heap_alloc_new w _) 0 _ rfl, World.news_of_block (cs := #[.int .u64 p, .slice A n ca, .bool inv, .int .i64 b, .slice X m cx, .slice S s cs, .int .i64 rt, .int .i64 ag]) (t := 43) (fr := (0, 0)) (heap_alloc_new w _) 1 _ rfl, World.news_of_block (cs := #[.int .u64 p, .slice A n ca, .bool inv, .int .i64 b, .slice X m cx, .slice S s cs, .int .i64 rt, .int .i64 ag]) (t := 43) (fr := (0, 0)) (heap_alloc_new w _) 2 _ rfl, World.news_of_block (cs := #[.int .u64 p, .slice A n ca, .bool inv, .int .i64 b, .slice X m cx, .slice S s cs, .int .i64 rt, .int .i64 ag]) (t := 43) (fr := (0, 0)) (heap_alloc_new w _) 3 _ rfl, World.news_of_block (cs := #[.int .u64 p, .slice A n ca, .bool inv, .int .i64 b, .slice X m cx, .slice S s cs, .int .i64 rt, .int .i64 ag]) (t := 43) (fr := (0, 0)) (heap_alloc_new w _) 4 _ rfl, World.news_of_block (cs := #[.int .u64 p, .slice A n ca, .bool inv, .int .i64 b, .slice X m cx, .slice S s cs, .int .i64 rt, .int .i64 ag]) (t := 43) (fr := (0, 0)) (heap_alloc_new w _) 5 _ rfl, World.news_of_block (cs := #[.int .u64 p, .slice A n ca, .bool inv, .int .i64 b, .slice X m cx, .slice S s cs, .int .i64 rt, .int .i64 ag]) (t := 43) (fr := (0, 0)) (heap_alloc_new w _) 6 _ rfl, World.news_of_block (cs := #[.int .u64 p, .slice A n ca, .bool inv, .int .i64 b, .slice X m cx, .slice S s cs, .int .i64 rt, .int .i64 ag]) (t := 43) (fr := (0, 0)) (heap_alloc_new w _) 7 _ rfl⟩)
  have HKW : Hid (∀ ws, KB ws → Below w.heap.size w ws) := Lib.hid fun ws h => by rw [hKB] at h; exact h.1
  have HKN : Hid (∀ ws ws', KB ws → Below ws.heap.size ws ws' → KB ws') := Lib.hid fun ws ws' h hb => by
    rw [hKB] at h ⊢
    obtain ⟨h1, h4, c0, c1, c2, c3, c4, c5, c6, c7⟩ := h
    exact ⟨h1.trans (hb.mono (Nat.le_of_lt h4)), Nat.lt_of_lt_of_le h4 hb.size, (hb.cell h4).trans c0, (hb.cell h4).trans c1, (hb.cell h4).trans c2, (hb.cell h4).trans c3, (hb.cell h4).trans c4, (hb.cell h4).trans c5, (hb.cell h4).trans c6, (hb.cell h4).trans c7⟩
  have HKS : Hid (∀ ws, KB ws → w.heap.size < ws.heap.size) := Lib.hid fun ws h => by rw [hKB] at h; exact h.2.1
  have HKC : Hid (∀ ws, KB ws → ws.cell? ⟨w.heap.size, 0, none⟩ = some (.int .u64 p) ∧ ws.cell? ⟨w.heap.size, 1, none⟩ = some (.slice A n ca) ∧ ws.cell? ⟨w.heap.size, 2, none⟩ = some (.bool inv) ∧ ws.cell? ⟨w.heap.size, 3, none⟩ = some (.int .i64 b) ∧ ws.cell? ⟨w.heap.size, 4, none⟩ = some (.slice X m cx) ∧ ws.cell? ⟨w.heap.size, 5, none⟩ = some (.slice S s cs) ∧ ws.cell? ⟨w.heap.size, 6, none⟩ = some (.int .i64 rt) ∧ ws.cell? ⟨w.heap.size, 7, none⟩ = some (.int .i64 ag)) := Lib.hid fun ws h => by rw [hKB] at h; exact h.2.2
  have HKM : Hid (∀ B ws ws', KB ws → Below B ws ws' → w.heap.size < B → KB ws') := Lib.hid fun B ws ws' h hb hB => by
    rw [hKB] at h ⊢
    obtain ⟨h1, h4, c0, c1, c2, c3, c4, c5, c6, c7⟩ := h
    exact ⟨h1.trans (hb.mono (Nat.le_of_lt hB)), Nat.lt_of_lt_of_le h4 hb.size, (hb.cell hB).trans c0, (hb.cell hB).trans c1, (hb.cell hB).trans c2, (hb.cell hB).trans c3, (hb.cell hB).trans c4, (hb.cell hB).trans c5, (hb.cell hB).trans c6, (hb.cell hB).trans c7⟩
  clear hKB
  have HI := Lib.hid hi
  have HJ := Lib.hid hj
  clear hi hj
  go_enter Tryd.func5, Tryd.ntmps5
  go_wp2_with fail
  generalize (w.alloc (.cells #[.int .u64 p, .slice A n ca, .bool inv, .int .i64 b, .slice X m cx, .slice S s cs, .int .i64 rt, .int .i64 ag] 43)) = V0 at *
  refine (live17_calls _ (HT.out.below (HKW.out _ HK0.out))).mono ?_
  rintro e w1 ⟨rfl, hb⟩
  have HK1 := Lib.hid (HKN.out _ _ HK0.out hb)
  clear hb
  obtain ⟨hk0, hk1, hk2, hk3, hk4, hk5, hk6, hk7⟩ := HKC.out _ HK1.out
  go_wp2_with fail
  refine (r17few_tells p A ca n inv b X cx m S cs s rt ag ax _ HN.out (HR.out.below (HKW.out _ HK1.out)) HL.out HW.out).mono ?_
  rintro e w2 ⟨r, rfl, h60, hb⟩
  have HK2 := Lib.hid (HKN.out _ _ HK1.out hb)
  have H60 := Lib.hid h60
  clear hb h60 hk0 hk1 hk2 hk3 hk4 hk5 hk6 hk7
  obtain ⟨hk0, hk1, hk2, hk3, hk4, hk5, hk6, hk7⟩ := HKC.out _ HK2.out
  cases r
  case false =>
    go_wp2
    go_ret
    exact ⟨rfl, HKW.out _ HK2.out⟩
  go_wp2_with fail
  refine (chk17_calls p A ca n inv b X cx m S cs s rt ag ax x sd _ HN.out HM.out HS.out HP.out (HR.out.below (HKW.out _ HK2.out)) HL.out HW.out (HRX.out.below (HKW.out _ HK2.out)) HLM.out (HT.out.below (HKW.out _ HK2.out))).mono ?_
  rintro e w3 ⟨rfl, hb⟩
  have HK3 := Lib.hid (HKN.out _ _ HK2.out hb)
  clear hb hk0 hk1 hk2 hk3 hk4 hk5 hk6 hk7
  obtain ⟨hk0, hk1, hk2, hk3, hk4, hk5, hk6, hk7⟩ := HKC.out _ HK3.out
  by_cases hc : chk17 p ax b rt ag x sd = 0
  case neg =>
    have t0 : (chk17 p ax b rt ag x sd != 0) = true := by simpa using hc
    clear hc
    go_wp2
    go_ret
    exact ⟨rfl, HKW.out _ HK3.out⟩
  have h17 := chk17_ok hc
  have hk7 := chk7_ok h17.chk
  have hn4 : n ≤ 4 := by have h1 := hk7.dims.n4; rw [dimsA_length, HN.out] at h1; exact h1
  have h60 := H60.out trivial hk7.dims
  have hm9 : m ≤ 65536 := by
    have h1 := h17.len
    have h2 := h17.b1
    have h3 := h17.b2
    rw [HM.out] at h1
    have h4 := hk7.dims.pos.prod
    have h5 : prodL (dimsA ax) * b ≤ 60 * b := Int.mul_le_mul_of_nonneg_right h60 (by omega)
    omega
  obtain ⟨I, hI, hI2⟩ : ∃ I : Nat, i % 8 = (I : Int) ∧ I < 8 := ⟨(i % 8).toNat, by omega, by omega⟩
  obtain ⟨J, hJ, hJ2⟩ : ∃ J : Nat, j % 8 = (J : Int) ∧ J < 8 := ⟨(j % 8).toNat, by omega, by omega⟩
  obtain ⟨c, hcm⟩ : ∃ c : Nat, c = min I J := ⟨_, rfl⟩
  obtain ⟨d, hdm⟩ : ∃ d : Nat, d = max I J := ⟨_, rfl⟩
  have hcd : c ≤ d := by omega
  have hd8 : d < 8 := by omega
  have hc8 : c < 8 := by omega
  have hq0 : RqFew ⟨p, ax, b, rt, ag, x, sd⟩ 65536 := ⟨HP.out, by show ax.length ≤ 1000; rw [HN.out]; omega, HW.out, by show x.length ≤ 65536; rw [HM.out]; exact hm9⟩
  have hone := sp_one (q := ⟨p, ax, b, rt, ag, x, sd⟩) hc h60 (d := d) hd8
  have htwo := sp_two (q := ⟨p, ax, b, rt, ag, x, sd⟩) hc h60 hcd hd8
  have hq1 := hq0.sp d
  have hq2 := hq1.sp c
  have t0 : (chk17 p ax b rt ag x sd != 0) = false := by rw [hc]; rfl
  obtain ⟨q1, hqq1⟩ : ∃ q1, q1 = sp ⟨p, ax, b, rt, ag, x, sd⟩ d := ⟨_, rfl⟩
  rw [← hqq1] at hone htwo hq1 hq2
  obtain ⟨q2, hqq2⟩ : ∃ q2, q2 = sp q1 c := ⟨_, rfl⟩
  rw [← hqq2] at htwo hq2
  have hit := itm_none (q := q2) (by rw [htwo]; omega) 0
  rw [htwo] at hit
  obtain ⟨p1, ax1, b1, r1, g1, x1, sd1⟩ := q1
  obtain ⟨p2, ax2, b2, r2, g2, x2, sd2⟩ := q2
  dsimp only [Rq.chk] at hone htwo hit
  have HQ1 := Lib.hid hqq1
  have HQ2 := Lib.hid hqq2
  have HONE := Lib.hid hone
  have HTWO := Lib.hid htwo
  have HIT := Lib.hid hit
  have HF1 := Lib.hid hq1
  have HF2 := Lib.hid hq2
  have ri : i.tmod 8 = (I : Int) := by rw [Int.tmod_eq_emod_of_nonneg HI.out.1]; exact hI
  have rj : j.tmod 8 = (J : Int) := by rw [Int.tmod_eq_emod_of_nonneg HJ.out.1]; exact hJ
  have wi : IntKind.u8.wrap (I : Int) = (I : Int) := by
    have h : I = 0 ∨ I = 1 ∨ I = 2 ∨ I = 3 ∨ I = 4 ∨ I = 5 ∨ I = 6 ∨ I = 7 := by omega
    rcases h with h | h | h | h | h | h | h | h <;> subst h <;> rfl
  have wj : IntKind.u8.wrap (J : Int) = (J : Int) := by
    have h : J = 0 ∨ J = 1 ∨ J = 2 ∨ J = 3 ∨ J = 4 ∨ J = 5 ∨ J = 6 ∨ J = 7 := by omega
    rcases h with h | h | h | h | h | h | h | h <;> subst h <;> rfl
  have m1 : min (I : Int) (J : Int) = (c : Int) := by omega
  have m2 : max (I : Int) (J : Int) = (d : Int) := by omega
  rw [hc]
  clear hc h17 hk7 h60 hcm hdm hq0 hone htwo hq1 hq2 hqq1 hqq2 hit t0
  go_wp2_with fail
  refine (spoil_calls d hd8 _ rfl p A ca n inv b X cx m S cs s rt ag ax x sd w3 HN.out HM.out HS.out (by omega) (by omega) (HR.out.below (HKW.out _ HK3.out)) (HRX.out.below (HKW.out _ HK3.out))).mono ?_
  rintro e w4 ⟨A1, n1, c1, X1, n1x, d1, S1, s1, e1, rfl, z1, z2, z3, z4, z5, z6, z7, z8, hb⟩
  rw [← HQ1.out] at z1 z2 z3 z5 z6 ⊢
  dsimp only at z1 z2 z3 z5 z6 ⊢
  have HN1 := Lib.hid z1
  have HM1 := Lib.hid z3
  have HS1 := Lib.hid z6
  have HC1 := Lib.hid z4
  have HK4 := Lib.hid (HKN.out _ _ HK3.out hb)
  have HR4 := Lib.hid z2
  have HX4 := Lib.hid z5
  clear z1 z2 z3 z4 z5 z6 z7 z8 hb hk0 hk1 hk2 hk3 hk4 hk5 hk6 hk7
  have HO1 : Hid (Own (w4.alloc (.cells #[.int .u64 p1, .slice A1 n1 c1, .bool inv, .int .i64 b1, .slice X1 n1x d1, .slice S1 s1 e1, .int .i64 r1, .int .i64 g1] 43)) w4.heap.size 43 1 (some ⟨w4.heap.size, 0, none⟩) 8 8 [.int .u64 p1, .slice A1 n1 c1, .bool inv, .int .i64 b1, .slice X1 n1x d1, .slice S1 s1 e1, .int .i64 r1, .int .i64 g1]) := Lib.hid (own_one w4 w4.heap.size 43 [.int .u64 p1, .slice A1 n1 c1, .bool inv, .int .i64 b1, .slice X1 n1x d1, .slice S1 s1 e1, .int .i64 r1, .int .i64 g1] 8 (Nat.le_refl _) rfl (by decide))
  obtain ⟨k0, k1, k2, k3, k4, k5, k6, k7⟩ := own8_cells HO1.out
  have HK5 : Hid (KB (w4.alloc (.cells #[.int .u64 p1, .slice A1 n1 c1, .bool inv, .int .i64 b1, .slice X1 n1x d1, .slice S1 s1 e1, .int .i64 r1, .int .i64 g1] 43))) := Lib.hid (HKN.out _ _ HK4.out ((Below.refl _ _).alloc (Nat.le_refl _) _))
  have HR5 := Lib.hid (HR4.out.below ((Below.refl _ _).alloc (Nat.le_refl _) (.cells #[.int .u64 p1, .slice A1 n1 c1, .bool inv, .int .i64 b1, .slice X1 n1x d1, .slice S1 s1 e1, .int .i64 r1, .int .i64 g1] 43)))
  have HX5 := Lib.hid (HX4.out.below ((Below.refl _ _).alloc (Nat.le_refl _) (.cells #[.int .u64 p1, .slice A1 n1 c1, .bool inv, .int .i64 b1, .slice X1 n1x d1, .slice S1 s1 e1, .int .i64 r1, .int .i64 g1] 43)))
  have HGB : Hid (w.heap.size < w4.heap.size) := Lib.hid (HKS.out _ HK4.out)
  have HG5 : Hid (w4.heap.size < ((w4.alloc (.cells #[.int .u64 p1, .slice A1 n1 c1, .bool inv, .int .i64 b1, .slice X1 n1x d1, .slice S1 s1 e1, .int .i64 r1, .int .i64 g1] 43))).heap.size) := Lib.hid (by simp)
  have t1 : (((d : Int) + 1) != ((d : Int) + 1)) = false := by simp
  have t2 : (((c : Int) + 1) == ((c : Int) + 1)) = true := by simp
  clear HR4 HX4 HK4
  go_wp2_with fail
  clear k0 k1 k2 k3 k4 k5 k6 k7
  generalize (w4.alloc (.cells #[.int .u64 p1, .slice A1 n1 c1, .bool inv, .int .i64 b1, .slice X1 n1x d1, .slice S1 s1 e1, .int .i64 r1, .int .i64 g1] 43)) = V1 at *
  generalize w4.heap.size = gb at *
  refine (chk17_calls p1 A1 c1 n1 inv b1 X1 d1 n1x S1 e1 s1 r1 g1 ax1 x1 sd1 _ HN1.out HM1.out HS1.out HF1.out.p HR5.out (by have h1 := HF1.out.n; have h2 := HN1.out; dsimp only at h1; omega) HF1.out.ax HX5.out (by have h1 := HF1.out.x; have h2 := HM1.out; dsimp only at h1; omega) (HT.out.below (HKW.out _ HK5.out))).mono ?_
  rw [HONE.out]
  rintro e w5 ⟨rfl, hb⟩
  have HK6 := Lib.hid (HKN.out _ _ HK5.out hb)
  have HO6 := Lib.hid (HO1.out.grown hb)
  have HR6 := Lib.hid (HR5.out.below hb)
  have HX6 := Lib.hid (HX5.out.below hb)
  have HG6 : Hid (gb < w5.heap.size) := Lib.hid (Nat.lt_of_lt_of_le HG5.out hb.size)
  clear hb HK5 HR5 HX5 HO1
  obtain ⟨k0, k1, k2, k3, k4, k5, k6, k7⟩ := own8_cells HO6.out
  go_wp2_with fail
  refine (spoil_calls c hc8 _ rfl p1 A1 c1 n1 inv b1 X1 d1 n1x S1 e1 s1 r1 g1 ax1 x1 sd1 _ HN1.out HM1.out HS1.out (by have h1 := HF1.out.n; have h2 := HN1.out; dsimp only at h1; omega) (by have h1 := HF1.out.x; have h2 := HM1.out; dsimp only at h1; omega) HR6.out HX6.out).mono ?_
  rintro e w6 ⟨A2, n2, c2, X2, n2x, d2, S2, s2, e2, rfl, z1, z2, z3, z4, z5, z6, z7, z8, hb⟩
  rw [← HQ2.out] at z1 z2 z3 z5 z6 ⊢
  dsimp only at z1 z2 z3 z5 z6 ⊢
  clear k0 k1 k2 k3 k4 k5 k6 k7
  have HN2 := Lib.hid z1
  have HM2 := Lib.hid z3
  have HS2 := Lib.hid z6
  have HC2 := Lib.hid z4
  have HK7 := Lib.hid (HKN.out _ _ HK6.out hb)
  have HO7 := Lib.hid (HO6.out.grown hb)
  have HRA := Lib.hid (row8 z2 (b := gb) (fun y hy => by have h1 := z7 y hy; have h2 := HG6.out; omega) (.int .u64 p2) (.slice A2 n2 c2) (.bool inv) (.int .i64 b2) (.slice X2 n2x d2) (.slice S2 s2 e2) (.int .i64 r2) (.int .i64 g2))
  have HRB := Lib.hid (row8 z5 (b := gb) (fun y hy => by have h1 := z8 y hy; have h2 := HG6.out; omega) (.int .u64 p2) (.slice A2 n2 c2) (.bool inv) (.int .i64 b2) (.slice X2 n2x d2) (.slice S2 s2 e2) (.int .i64 r2) (.int .i64 g2))
  have HO8 := Lib.hid (own8 HO7.out (.int .u64 p2) (.slice A2 n2 c2) (.bool inv) (.int .i64 b2) (.slice X2 n2x d2) (.slice S2 s2 e2) (.int .i64 r2) (.int .i64 g2))
  have HB8 : Hid (Below gb w6 ((((((((w6.setCell ⟨gb, 0, none⟩ (.int .u64 p2)).setCell ⟨gb, 1, none⟩ (.slice A2 n2 c2)).setCell ⟨gb, 2, none⟩ (.bool inv)).setCell ⟨gb, 3, none⟩ (.int .i64 b2)).setCell ⟨gb, 4, none⟩ (.slice X2 n2x d2)).setCell ⟨gb, 5, none⟩ (.slice S2 s2 e2)).setCell ⟨gb, 6, none⟩ (.int .i64 r2)).setCell ⟨gb, 7, none⟩ (.int .i64 g2))) := Lib.hid (below8 (Below.refl _ _) (Nat.le_refl _) (.int .u64 p2) (.slice A2 n2 c2) (.bool inv) (.int .i64 b2) (.slice X2 n2x d2) (.slice S2 s2 e2) (.int .i64 r2) (.int .i64 g2))
  have HK8 : Hid (KB ((((((((w6.setCell ⟨gb, 0, none⟩ (.int .u64 p2)).setCell ⟨gb, 1, none⟩ (.slice A2 n2 c2)).setCell ⟨gb, 2, none⟩ (.bool inv)).setCell ⟨gb, 3, none⟩ (.int .i64 b2)).setCell ⟨gb, 4, none⟩ (.slice X2 n2x d2)).setCell ⟨gb, 5, none⟩ (.slice S2 s2 e2)).setCell ⟨gb, 6, none⟩ (.int .i64 r2)).setCell ⟨gb, 7, none⟩ (.int .i64 g2))) := Lib.hid (HKM.out _ _ _ HK7.out HB8.out HGB.out)
  clear z1 z2 z3 z4 z5 z6 z7 z8 hb HB8 HK6 HR6 HX6 HO6
  obtain ⟨k0, k1, k2, k3, k4, k5, k6, k7⟩ := own8_cells HO7.out
  obtain ⟨y0, y1, y2, y3, y4, y5, y6, y7⟩ := own8_free HO7.out
  obtain ⟨j0, j1, j2, j3, j4, j5, j6, j7⟩ := own8_cells HO8.out
  go_wp2_with fail
  clear k0 k1 k2 k3 k4 k5 k6 k7 y0 y1 y2 y3 y4 y5 y6 y7 j0 j1 j2 j3 j4 j5 j6 j7
  generalize ((((((((w6.setCell ⟨gb, 0, none⟩ (.int .u64 p2)).setCell ⟨gb, 1, none⟩ (.slice A2 n2 c2)).setCell ⟨gb, 2, none⟩ (.bool inv)).setCell ⟨gb, 3, none⟩ (.int .i64 b2)).setCell ⟨gb, 4, none⟩ (.slice X2 n2x d2)).setCell ⟨gb, 5, none⟩ (.slice S2 s2 e2)).setCell ⟨gb, 6, none⟩ (.int .i64 r2)).setCell ⟨gb, 7, none⟩ (.int .i64 g2)) = V2 at *
  have HI0 : i64 0 := ⟨by decide, by decide⟩
  refine (pitem_calls p2 A2 c2 n2 inv b2 X2 d2 n2x S2 e2 s2 r2 g2 ax2 x2 sd2 0 _ HN2.out HM2.out HS2.out HF2.out.p HRA.out (by have h1 := HF2.out.n; have h2 := HN2.out; dsimp only at h1; omega) HF2.out.ax HRB.out (by have h1 := HF2.out.x; have h2 := HM2.out; dsimp only at h1; omega) HC2.out HI0 (HT.out.below (HKW.out _ HK8.out))).mono ?_
  rw [HIT.out]
  rintro e w7 ⟨Z, z, rfl, ho, hb⟩
  have HK9 := Lib.hid (HKN.out _ _ HK8.out hb)
  have HO9 := Lib.hid (HO8.out.grown hb)
  have HR9 := Lib.hid (HRA.out.below hb)
  have HX9 := Lib.hid (HRB.out.below hb)
  clear ho hb
  obtain ⟨k0, k1, k2, k3, k4, k5, k6, k7⟩ := own8_cells HO9.out
  dsimp only [List.length_nil]
  go_wp2_with fail
  refine (chk17_calls p2 A2 c2 n2 inv b2 X2 d2 n2x S2 e2 s2 r2 g2 ax2 x2 sd2 _ HN2.out HM2.out HS2.out HF2.out.p HR9.out (by have h1 := HF2.out.n; have h2 := HN2.out; dsimp only at h1; omega) HF2.out.ax HX9.out (by have h1 := HF2.out.x; have h2 := HM2.out; dsimp only at h1; omega) (HT.out.below (HKW.out _ HK9.out))).mono ?_
  rw [HTWO.out]
  rintro e w8 ⟨rfl, hb⟩
  have HKA := Lib.hid (HKN.out _ _ HK9.out hb)
  clear hb
  clear k0 k1 k2 k3 k4 k5 k6 k7
  go_wp2
  go_ret
  exact ⟨by first | rfl | (simp; done), HKW.out _ HKA.out⟩
end Go.Proofs.YtohcoidbncbijaaDoor.P
