
/- The contract of step.Groups. Conditions: words of their kinds; slices read as lists; the library's table lies as it was laid. -/
import Derived.Test.YtohcoidbncbijaaDoorSgA
import Derived.Test.YtohcoidbncbijaaDoorStO
namespace Go.Proofs.YtohcoidbncbijaaDoor.P
open Go.RowKit
set_option linter.unusedVariables false
set_option linter.unusedSimpArgs false
theorem grp1_cf (args : Array Value) (w : World) : (callFunc 89 args).run Tryd.prog w = .ok (.enter 89 args) w := by kernel_rfl
theorem grpC_small {p : Int} {ax : List (Int × Bool)} {s : Stp} {k N : Nat} {neg : Bool} (hK : StepK p ax s k N neg) : grpC (dimsA ax) k s.2.1 s.2.2.2.1.toNat s.2.2.2.2.toNat ≤ 4096 := by
  have h4 := hK.chk.dims.all
  have h1 := hK.chk.dims.pos.prod
  have hN1 := hK.c6.n1
  rcases hK.kind with ⟨ht, _⟩ | ⟨ht, hz⟩
  · unfold grpC; rw [if_pos ht]; omega
  · obtain ⟨R, L, M, hs, hS⟩ := stg_mem hK.c6.smooth hz
    unfold grpC
    rw [if_neg (by rw [ht]; decide), hs, hK.dim]
    simp only [Int.toNat_natCast]
    obtain ⟨K, hKK⟩ := Int.eq_ofNat_of_zero_le (show 0 ≤ prodL (dimsA ax) / (N : Int) from Int.ediv_nonneg (by omega) (by omega))
    rw [hKK, Int.toNat_natCast]
    have h2 : (K : Int) * (N : Int) ≤ prodL (dimsA ax) := by rw [← hKK]; exact Int.ediv_mul_le _ (by omega)
    have h3 : K * N ≤ 4096 := by
      have : ((K * N : Nat) : Int) ≤ 4096 := by push_cast; omega
      omega
    have h5 : M * L ≤ N := by
      have h6 : L * M * 1 ≤ L * M * R := Nat.mul_le_mul_left _ (by have := hS.r2; omega)
      rw [Nat.mul_assoc L M R, hS.all] at h6
      rw [Nat.mul_comm M L]; omega
    have h7 : K * (M * L) ≤ K * N := Nat.mul_le_mul_left _ h5
    rw [Nat.mul_assoc]
    omega
theorem each_grp (p : Int) (A : Option Addr) (c n : Nat) (ax : List (Int × Bool)) (k : Nat) (s1 : Bool) (s2 s3 s4 : Int) (N : Nat) (neg : Bool) (bo : Nat) (w0 V : World)
    (hK : StepK p ax ((k : Int), s1, s2, s3, s4) k N neg) (hn : ax.length = n) (hl : n ≤ 8796093022208) (hw : ∀ a ∈ ax, i64 a.1) (hr : RowM (MineG bo) V A (axR ax))
    (hi : InvG bo w0 (grpG (dimsA ax) k s1 s2.toNat s3.toNat s4.toNat) (grpR s1 s2.toNat) 0 V) :
    Calls Tryd.prog 76 #[.slice A n c, .agg #[.int .i64 (k : Int), .bool s1, .int .i64 s2, .int .i64 s3, .int .i64 s4], .func (.func 89) #[] #[.pointer (some ⟨bo, 0, none⟩)]] V fun e w' =>
      e = .returned (.int .i64 0) ∧ InvG bo w0 (grpG (dimsA ax) k s1 s2.toNat s3.toNat s4.toNat) (grpR s1 s2.toNat) (grpC (dimsA ax) k s1 s3.toNat s4.toNat) w' ∧ Kp (MineG bo) V w' := by
  have hsm := grpC_small hK
  dsimp only at hsm
  have hN1 := hK.c6.n1
  have hp1 := hK.chk.dims.pos.prod
  rcases hK.kind with ⟨ht, hz⟩ | ⟨ht, hz⟩
  · dsimp only at ht hz
    subst ht
    simp only [Prod.mk.injEq] at hz
    obtain ⟨rfl, rfl, rfl⟩ := hz
    have e1 : grpG (dimsA ax) k true (0 : Int).toNat (0 : Int).toNat (0 : Int).toNat = grpT (dimsA ax) k := by funext g; exact grpG_twist ..
    have e2 : grpC (dimsA ax) k true (0 : Int).toNat (0 : Int).toNat = (prodL (dimsA ax)).toNat := by unfold grpC; rw [if_pos rfl]
    rw [e2] at hsm
    rw [e1] at hi ⊢
    rw [e2]
    refine seach_twist _ _ p A c n ax k N neg (prodL (dimsA ax)).toNat _ (MineG bo) V grp1_cf hn hr hl hw hK (tellsG bo w0 (grpT (dimsA ax) k) (grpR true (0 : Int).toNat)) (by omega) ?_ hi
    intro g hg w A1 B1 C1 ca cb cc h1 ra rb rc
    exact sgrp1_calls bo w0 (grpT (dimsA ax) k) (grpR true (0 : Int).toNat) g (prodL (dimsA ax)).toNat w A1 B1 C1 ca cb cc h1 (by omega) ra rb rc
  · dsimp only at ht hz
    subst ht
    obtain ⟨R, L, M, hs, hS⟩ := stg_mem hK.c6.smooth hz
    simp only [Prod.mk.injEq] at hs
    obtain ⟨rfl, rfl, rfl⟩ := hs
    obtain ⟨K, hKK⟩ := Int.eq_ofNat_of_zero_le (show 0 ≤ prodL (dimsA ax) / (N : Int) from Int.ediv_nonneg (by omega) (by omega))
    have e2 : grpC (dimsA ax) k false (L : Int).toNat (M : Int).toNat = K * M * L := by
      unfold grpC
      rw [if_neg (by decide), hK.dim, hKK]
      simp only [Int.toNat_natCast]
    rw [e2] at hsm
    rw [e2]
    simp only [Int.toNat_natCast] at hi ⊢
    refine seach_stage _ _ p A c n ax k N neg R L M K _ (MineG bo) V grp1_cf hn hr hl hw hK hS (tellsG bo w0 (grpG (dimsA ax) k false R L M) (grpR false R)) hKK ?_ hi
    intro g hg w A1 B1 C1 ca cb cc h1 ra rb rc
    exact sgrp1_calls bo w0 (grpG (dimsA ax) k false R L M) (grpR false R) g (K * M * L) w A1 B1 C1 ca cb cc h1 (by omega) ra rb rc
set_option maxRecDepth 100000 in
set_option maxHeartbeats 4000000 in
theorem sgroups_no (p : Int) (A : Option Addr) (c n : Nat) (ax : List (Int × Bool)) (s0 : Int) (s1 : Bool) (s2 s3 s4 : Int) (w : World) (hn : ax.length = n) (hp : U64 p) (hr : Row w A (axR ax)) (hl : n ≤ 8796093022208) (hw : ∀ a ∈ ax, i64 a.1) (hT : Tab w) (hc : chk16 p ax (s0, s1, s2, s3, s4) ≠ 0) :
    Calls Tryd.prog 44 #[.int .u64 p, .slice A n c, .agg #[.int .i64 s0, .bool s1, .int .i64 s2, .int .i64 s3, .int .i64 s4]] w fun e w' =>
      e = .returned (.tuple #[.slice none 0 0, .int .i64 (chk16 p ax (s0, s1, s2, s3, s4))]) ∧ Below w.heap.size w w' := by
  have HP := Lib.hid hp
  have HN := Lib.hid hn
  have HW := Lib.hid hw
  have hb0 : Below w.heap.size w (w.alloc (.cells #[.int .i64 s0, .bool s1, .int .i64 s2, .int .i64 s3, .int .i64 s4] 39)) := (Below.refl _ _).alloc (Nat.le_refl _) _
  have HB0 := Lib.hid hb0
  have HR0 := Lib.hid (hr.below hb0)
  have HT0 := Lib.hid (hT.below hb0)
  have t0 : (chk16 p ax (s0, s1, s2, s3, s4) != 0) = true := by simpa using hc
  clear hn hp hr hw hT hb0 hc
  go_enter Tryd.func44, Tryd.ntmps44
  go_wp2_with fail
  generalize (w.alloc (.cells #[.int .i64 s0, .bool s1, .int .i64 s2, .int .i64 s3, .int .i64 s4] 39)) = V0 at *
  refine (schk_calls p _ _ _ ax s0 s1 s2 s3 s4 V0 HN.out HP.out HR0.out hl HW.out HT0.out).mono ?_
  rintro e w2 ⟨rfl, hb⟩
  have HB2 := Lib.hid (blT HB0.out hb)
  clear hb
  go_wp2
  go_ret2
  exact ⟨rfl, HB2.out⟩
set_option maxRecDepth 100000 in
set_option maxHeartbeats 4000000 in
theorem sgroups_yes (p : Int) (A : Option Addr) (c n : Nat) (ax : List (Int × Bool)) (k : Nat) (s1 : Bool) (s2 s3 s4 : Int) (N : Nat) (neg : Bool) (w : World) (hn : ax.length = n) (hp : U64 p) (hr : Row w A (axR ax)) (hl : n ≤ 8796093022208) (hw : ∀ a ∈ ax, i64 a.1) (hT : Tab w) (hc : chk16 p ax ((k : Int), s1, s2, s3, s4) = 0) (hK : StepK p ax ((k : Int), s1, s2, s3, s4) k N neg) :
    Calls Tryd.prog 44 #[.int .u64 p, .slice A n c, .agg #[.int .i64 (k : Int), .bool s1, .int .i64 s2, .int .i64 s3, .int .i64 s4]] w fun e w' => ∃ Z z hs,
      e = .returned (.tuple #[.slice Z (grpC (dimsA ax) k s1 s3.toNat s4.toNat) z, .int .i64 0]) ∧ Row w' Z (hgR (grpR s1 s2.toNat) hs) ∧ hs.length = grpC (dimsA ax) k s1 s3.toNat s4.toNat ∧
      (∀ i (h : i < hs.length), Row w' hs[i].A (nums .i64 (grpG (dimsA ax) k s1 s2.toNat s3.toNat s4.toNat i).1) ∧ Row w' hs[i].B (nums .i64 (grpG (dimsA ax) k s1 s2.toNat s3.toNat s4.toNat i).2.1) ∧ Row w' hs[i].C (nums .i64 (grpG (dimsA ax) k s1 s2.toNat s3.toNat s4.toNat i).2.2)) ∧ Below w.heap.size w w' := by
  have HP := Lib.hid hp
  have HN := Lib.hid hn
  have HW := Lib.hid hw
  have HKK := Lib.hid hK
  have HC := Lib.hid hc
  have hb0 : Below w.heap.size w (w.alloc (.cells #[.int .i64 (k : Int), .bool s1, .int .i64 s2, .int .i64 s3, .int .i64 s4] 39)) := (Below.refl _ _).alloc (Nat.le_refl _) _
  have HB0 := Lib.hid hb0
  have HR0 := Lib.hid (hr.below hb0)
  have HT0 := Lib.hid (hT.below hb0)
  have hs0 : Row (w.alloc (.cells #[.int .i64 (k : Int), .bool s1, .int .i64 s2, .int .i64 s3, .int .i64 s4] 39)) (some ⟨w.heap.size, 0, none⟩) [.int .i64 (k : Int), .bool s1, .int .i64 s2, .int .i64 s3, .int .i64 s4] := row_new w [.int .i64 (k : Int), .bool s1, .int .i64 s2, .int .i64 s3, .int .i64 s4] _
  have HS0 := Lib.hid hs0
  clear hn hp hr hw hT hb0 hc hK hs0
  go_enter Tryd.func44, Tryd.ntmps44
  go_wp2_with fail
  generalize (w.alloc (.cells #[.int .i64 (k : Int), .bool s1, .int .i64 s2, .int .i64 s3, .int .i64 s4] 39)) = V0 at *
  refine (schk_calls p _ _ _ ax (k : Int) s1 s2 s3 s4 V0 HN.out HP.out HR0.out hl HW.out HT0.out).mono ?_
  rw [HC.out]
  rintro e w1 ⟨rfl, hb⟩
  have HB1 := Lib.hid (blT HB0.out hb)
  have HR1 := Lib.hid (HR0.out.below hb)
  have HS1 := Lib.hid (HS0.out.below hb)
  clear hb
  have hbV : Below w1.heap.size w1 (w1.alloc (.cells #[.slice none 0 0] 65)) := (Below.refl _ _).alloc (Nat.le_refl _) _
  have b0 : (w1.alloc (.cells #[.slice none 0 0] 65)).cell? ⟨w.heap.size, 0, none⟩ = some (.int .i64 (k : Int)) := (HS1.out.below hbV).cell (i := 0) rfl
  have b1 : (w1.alloc (.cells #[.slice none 0 0] 65)).cell? ⟨w.heap.size, 1, none⟩ = some (.bool s1) := (HS1.out.below hbV).cell (i := 1) rfl
  have b2 : (w1.alloc (.cells #[.slice none 0 0] 65)).cell? ⟨w.heap.size, 2, none⟩ = some (.int .i64 s2) := (HS1.out.below hbV).cell (i := 2) rfl
  have b3 : (w1.alloc (.cells #[.slice none 0 0] 65)).cell? ⟨w.heap.size, 3, none⟩ = some (.int .i64 s3) := (HS1.out.below hbV).cell (i := 3) rfl
  have b4 : (w1.alloc (.cells #[.slice none 0 0] 65)).cell? ⟨w.heap.size, 4, none⟩ = some (.int .i64 s4) := (HS1.out.below hbV).cell (i := 4) rfl
  have hown1 : Own (w1.alloc (.cells #[.slice none 0 0] 65)) w1.heap.size 65 1 (some ⟨w1.heap.size, 0, none⟩) 1 1 [.slice none 0 0] := own_one w1 w1.heap.size _ [.slice none 0 0] 1 (Nat.le_refl _) rfl (by decide)
  have HI0 : Hid (InvG w1.heap.size w1 (grpG (dimsA ax) k s1 s2.toNat s3.toNat s4.toNat) (grpR s1 s2.toNat) 0 (w1.alloc (.cells #[.slice none 0 0] 65))) := Lib.hid
    ⟨hbV, Nat.le_refl _, none, 0, [], hown1, Own.nil _ _ _ _, rfl, fun i h => by simp at h⟩
  have HRM : Hid (RowM (MineG w1.heap.size) (w1.alloc (.cells #[.slice none 0 0] 65)) A (axR ax)) := Lib.hid (by
    have h1 := HR1.out.toX (by intro h0; have h1 := axR_length ax; rw [h0] at h1; simp at h1; have h2 := HKK.out.lt; omega) hbV (Nat.le_refl w1.heap.size)
    have hlt : ∀ x, A = some x → x.block < w1.heap.size := fun x hx => by
      subst hx
      have hne : axR ax ≠ [] := by intro h0; have h1 := axR_length ax; rw [h0] at h1; simp at h1; have h2 := HKK.out.lt; omega
      have hr1 := HR1.out
      generalize axR ax = cs at *
      rcases cs with _ | ⟨u, cs⟩
      · exact absurd rfl hne
      · have h3 := World.block_lt_of_cell? w1 _ (hr1.cell (i := 0) rfl)
        rw [add_block] at h3
        exact h3
    refine RowM.of h1.1 fun x hx h2 => ?_
    have h3 := hlt x hx
    rcases h2 with e | ⟨y, n2, c2, h4, h5⟩
    · omega
    · have h6 := hown1.cellAt 0 (by decide)
      rw [h4] at h6
      simp at h6)
  have HBV := Lib.hid hbV
  clear hbV hown1
  go_wp2_with fail
  clear b0 b1 b2 b3 b4
  have HBO := Lib.hid (Nat.le_refl w1.heap.size)
  generalize (w1.alloc (.cells #[.slice none 0 0] 65)) = V at *
  refine (each_grp p A c n ax k s1 s2 s3 s4 N neg w1.heap.size w1 V HKK.out HN.out hl HW.out HRM.out HI0.out).mono ?_
  rintro e w3 ⟨rfl, hi, hk⟩
  obtain ⟨Z, z, hs, h1, h2, h3, h4⟩ := hi.ex
  have HB3 := Lib.hid (blT HB1.out hi.bel)
  have c0 := h1.cellAt 0 (by decide)
  simp at c0
  have HR3 := Lib.hid h2.row
  have HL3 := Lib.hid h3
  have H4 := Lib.hid h4
  clear h1 h2 h3 h4 hi hk
  go_wp2
  go_ret2
  exact ⟨Z, z, hs, rfl, HR3.out, HL3.out, fun i h => ⟨(H4.out i h).1.row, (H4.out i h).2.1.row, (H4.out i h).2.2.row⟩, HB3.out⟩
end Go.Proofs.YtohcoidbncbijaaDoor.P
