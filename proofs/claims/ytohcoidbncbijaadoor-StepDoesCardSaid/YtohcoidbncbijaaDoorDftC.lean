
/- The contracts of package dft's order, Check, all, Forward and Inverse. Conditions: words of their kinds; the slice reads as a list; the library's table lies as it was laid. -/
import Derived.Test.YtohcoidbncbijaaDoorFac1
import Derived.Test.YtohcoidbncbijaaDoorPlainB
import Derived.Test.YtohcoidbncbijaaDoorRound3
import Derived.WalkMore
namespace Go.Proofs.YtohcoidbncbijaaDoor.P
open Go.RowKit
set_option linter.unusedVariables false
set_option linter.unusedSimpArgs false
theorem order6_calls (n : Nat) (neg : Bool) (w : World) (hn : n ≤ 4096) :
    Calls Tryd.prog 135 #[.int .i64 (n : Int), .bool neg] w fun e w' => e = .returned (.int .i64 (ordS n neg)) ∧ w' = w := by
  have hw : IntKind.i64.wrap ((n : Int) * 2) = (n : Int) * 2 := wrapI (by omega) (by omega)
  have hw2 : wrap64 ((n : Int) * 2) = (n : Int) * 2 := wrap64_id ⟨by omega, by omega⟩
  cases neg
  all_goals
    go_enter Tryd.func135, Tryd.ntmps135
    go_wp2
    go_ret
    exact ⟨rfl, rfl⟩
theorem chk6_calls (p : Int) (A : Option Addr) (c n : Nat) (x : List Int) (neg : Bool) (w : World) (hn : x.length = n) (hp : U64 p) (hr : Row w A (nums .u64 x)) (hl : n ≤ 9223372036854775807) (hT : Tab w) :
    Calls Tryd.prog 134 #[.int .u64 p, .slice A n c, .bool neg] w fun e w' => e = .returned (.int .i64 (chk6 p x neg)) ∧ Below w.heap.size w w' := by
  subst hn
  have HP := Lib.hid hp
  have HR := Lib.hid hr
  have HL := Lib.hid hl
  have HT := Lib.hid hT
  have HI : Hid (i64 (x.length : Int)) := Lib.hid ⟨by omega, by omega⟩
  clear hp hr hl hT
  by_cases hk : knownS p = true
  case neg =>
    have HF : Hid (chk6 p x neg = 2) := Lib.hid (by rw [chk6, if_neg hk])
    have hk2 : knownS p = false := by simpa using hk
    rw [HF.out]
    clear hk
    go_enter Tryd.func134, Tryd.ntmps134
    go_wp2_with (go_at_call 58; refine (known_calls _ _).mono ?_; rintro e w' ⟨rfl, rfl⟩)
    go_ret
    exact ⟨rfl, Below.refl _ _⟩
  by_cases hs : smoothS x.length = true
  case neg =>
    have HF : Hid (chk6 p x neg = 4) := Lib.hid (by rw [chk6, if_pos hk, if_neg hs])
    have hs2 : smoothS x.length = false := by simpa using hs
    rw [HF.out]
    clear hs
    go_enter Tryd.func134, Tryd.ntmps134
    go_wp2_with (go_at_call 58; refine (known_calls _ _).mono ?_; rintro e w' ⟨rfl, rfl⟩)
    refine (smooth_calls _ _ HI.out HT.out).mono ?_
    rintro e w2 ⟨rfl, hb⟩
    have HB := Lib.hid hb
    clear hb
    go_wp2
    go_ret
    exact ⟨rfl, HB.out⟩
  have hs4 := (smooth_pos hs).2
  have hn4 : x.length ≤ 4096 := by omega
  by_cases ho : (rootS p (ordS x.length neg)).2 = 0
  case neg =>
    have HF : Hid (chk6 p x neg = (rootS p (ordS x.length neg)).2) := Lib.hid (by rw [chk6, if_pos hk, if_pos hs, if_neg ho])
    have t0 : ((rootS p (ordS x.length neg)).2 != 0) = true := by simpa using ho
    rw [HF.out]
    clear ho hs4
    go_enter Tryd.func134, Tryd.ntmps134
    go_wp2_with (go_at_call 58; refine (known_calls _ _).mono ?_; rintro e w' ⟨rfl, rfl⟩)
    refine (smooth_calls _ _ HI.out HT.out).mono ?_
    rintro e w2 ⟨rfl, hb⟩
    have HB := Lib.hid hb
    clear hb
    go_wp2_with (go_at_call 135; refine (order6_calls _ _ _ hn4).mono ?_; rintro e w' ⟨rfl, rfl⟩)
    refine (root_calls _ _ _ HP.out).mono ?_
    rintro e w3 ⟨rfl, hb⟩
    have HB2 := Lib.hid (blT HB.out hb)
    clear hb
    go_wp2
    go_ret
    exact ⟨rfl, HB2.out⟩
  clear hs4
  cases hin : inS p x
  case' false => have HF : Hid (chk6 p x neg = 7) := Lib.hid (by rw [chk6, if_pos hk, if_pos hs, if_pos ho, hin]; rfl)
  case' true => have HF : Hid (chk6 p x neg = 0) := Lib.hid (by rw [chk6, if_pos hk, if_pos hs, if_pos ho, hin]; rfl)
  all_goals
    rw [HF.out]
    go_enter Tryd.func134, Tryd.ntmps134
    go_wp2_with (go_at_call 58; refine (known_calls _ _).mono ?_; rintro e w' ⟨rfl, rfl⟩)
    refine (smooth_calls _ _ HI.out HT.out).mono ?_
    rintro e w2 ⟨rfl, hb⟩
    have HB := Lib.hid hb
    clear hb
    go_wp2_with (go_at_call 135; refine (order6_calls _ _ _ hn4).mono ?_; rintro e w' ⟨rfl, rfl⟩)
    refine (root_calls _ _ _ HP.out).mono ?_
    rintro e w3 ⟨rfl, hb⟩
    have HB2 := Lib.hid (blT HB.out hb)
    clear hb
    go_wp2_with fail
    refine (in_calls _ _ _ _ _ (HR.out.below HB2.out) HL.out).mono ?_
    rw [hin]
    rintro e w4 ⟨rfl, rfl⟩
    go_wp2
    go_ret
    exact ⟨rfl, HB2.out⟩
/-- The row that is being filled: word i has its sum up to k. -/
def outL (p : Int) (M : Nat → Nat → Int) (x : List Int) (n i k : Nat) : List Int := (fillL (fun i => linF p (M i) x) n i).set i (sumF p (M i) x k)
theorem outL_length (p : Int) (M : Nat → Nat → Int) (x : List Int) (n i k : Nat) : (outL p M x n i k).length = n := by simp [outL, fillL_length]
theorem outL_start (p : Int) (M : Nat → Nat → Int) (x : List Int) (n i : Nat) (h : i < n) : outL p M x n i 0 = fillL (fun i => linF p (M i) x) n i := by
  unfold outL
  rw [sumF_zero]
  apply List.ext_getElem
  · simp
  · intro j h1 h2
    rw [List.getElem_set]
    split
    · rename_i e; subst e; simp [fillL]
    · rfl
theorem outL_end (p : Int) (M : Nat → Nat → Int) (x : List Int) (n i : Nat) (h : i < n) (hn : x.length = n) : outL p M x n i n = fillL (fun i => linF p (M i) x) n (i + 1) := by
  unfold outL
  rw [← fillL_set _ _ _ h, ← hn, sumF_all]
theorem outL_set (p : Int) (M : Nat → Nat → Int) (x : List Int) (n i k j : Nat) : (outL p M x n i k).set i (sumF p (M i) x j) = outL p M x n i j := by
  unfold outL; rw [List.set_set]
theorem outL_at (p : Int) (M : Nat → Nat → Int) (x : List Int) (n i k : Nat) (h : i < n) : (outL p M x n i k)[i]'(by rw [outL_length]; exact h) = sumF p (M i) x k := by
  simp [outL]
set_option maxRecDepth 100000 in
set_option maxHeartbeats 2000000 in
theorem all6_core (fk : Nat) (F : Nat → Nat → Nat) (p b : Int) (A : Option Addr) (c n : Nat) (x : List Int) (w : World)
    (hcf : ∀ (args : Array Value) (w : World), (callFunc fk args).run Tryd.prog w = .ok (.enter fk args) w)
    (hstep : ∀ (i k : Nat) (w : World), i < n → k < n → Calls Tryd.prog fk #[.int .i64 (i : Int), .int .i64 (k : Int)] w fun e w' => e = .returned (.int .i64 ((F i k : Nat) : Int)) ∧ w' = w)
    (hn : x.length = n) (hn1 : 1 ≤ n) (hn4 : n ≤ 4096) (hk : knownS p = true) (hp : U64 p) (hb : U64 b) (hr : Row w A (nums .u64 x)) (hw : ∀ d ∈ x, U64 d) (h2 : redS p (b ^ (2 * n)) = 1) :
    Calls Tryd.prog 136 #[.int .u64 p, .int .u64 b, .slice A n c, .func (.func fk) #[] #[]] w fun e w' => ∃ B cb,
      e = .returned (.slice B n cb) ∧ Own w' w.heap.size 22 1 B n cb (nums .u64 ((List.range n).map fun i => linF p (fun k => b ^ F i k) x)) ∧ Below w.heap.size w w' := by
  have HP := Lib.hid hp
  have HBB := Lib.hid hb
  have HR := Lib.hid hr
  have HW := Lib.hid hw
  have HN := Lib.hid hn
  have H2 : Hid (redS p (b ^ (2 * n)) = redS p 1) := Lib.hid (by rw [h2, one_red hk])
  have HPS : Hid (powersS p b ((2 * n : Nat) : Int) = ((List.range (2 * n)).map (powS p b), 0)) := Lib.hid (by rw [powersS, if_pos hk, if_pos ⟨by omega, by omega⟩, Int.toNat_natCast])
  have HPL : Hid (((List.range (2 * n)).map (powS p b), (0 : Int)).1.length = 2 * n) := Lib.hid (by simp)
  have hi2 : i64 ((2 * n : Nat) : Int) := ⟨by omega, by omega⟩
  have HI2 := Lib.hid hi2
  have hw2 : IntKind.i64.wrap (2 * (n : Int)) = ((2 * n : Nat) : Int) := by rw [wrapI (by omega) (by omega)]; push_cast; rfl
  have hw3 : wrap64 (2 * (n : Int)) = ((2 * n : Nat) : Int) := by rw [wrap64_id ⟨by omega, by omega⟩]; push_cast; rfl
  have hmk := make_u64 n (by omega)
  obtain ⟨xa, rfl⟩ := hr.some_of (by intro h0; have := nums_length .u64 x; rw [h0] at this; simp at this; omega)
  clear hp hb hr hw h2 hi2 hn
  go_enter Tryd.func136, Tryd.ntmps136
  go_wp2_with fail
  refine (powers_calls p b _ _ HP.out HBB.out HI2.out).mono ?_
  rw [HPS.out, HPL.out]
  rintro e w1 ⟨Tb, ct, rfl, ho, hb⟩
  have HB1 := Lib.hid hb
  have HTB : Hid (Row w1 Tb (nums .u64 ((List.range (2 * n)).map (powS p b)))) := Lib.hid ho.row
  have HR1 := Lib.hid (HR.out.below hb)
  clear ho hb
  obtain ⟨tb, rfl⟩ := HTB.out.some_of (by intro h0; have := nums_length .u64 ((List.range (2 * n)).map (powS p b)); rw [h0] at this; simp at this; omega)
  go_wp2
  have hown := own_made w1 w1.heap.size 22 (.int .u64 0) n (Nat.le_refl _) (by omega)
  have hbel : Below w1.heap.size w1 (w1.alloc (.cells (madeCells #[.int .u64 0] n) 22)) := (Below.refl _ _).alloc (Nat.le_refl _) _
  rw [nums_replicate, ← fillL_zero (fun i => linF p (fun k => b ^ F i k) x)] at hown
  generalize (w1.alloc (.cells (madeCells #[.int .u64 0] n) 22)) = W at *
  have HO := Lib.hid hown
  have HB := Lib.hid hbel
  clear hown hbel hmk
  have hmx : Tryd.prog.follows .mixedOrders = true := by kernel_rfl
  have HMX := Lib.hid hmx
  clear hmx
  go_loopw [30] (fun q wr => ∃ i : Nat, i ≤ n ∧ q = .int .i64 i ∧ Hid (Own wr w1.heap.size 22 1 (some ⟨w1.heap.size, 0, none⟩) n n (nums .u64 (fillL (fun i => linF p (fun k => b ^ F i k) x) n i))) ∧ Hid (Below w1.heap.size w1 wr)) (fun q _ => n - (intOf q).toNat)
  case atStart => exact ⟨0, Nat.zero_le _, rfl, HO, HB⟩
  case round =>
    obtain ⟨i, hin, rfl, HO2, HB2⟩ := hrel
    by_cases hilt : i < n
    · have HOS : Hid (Own wr w1.heap.size 22 1 (some ⟨w1.heap.size, 0, none⟩) n n (nums .u64 (outL p (fun i k => b ^ F i k) x n i 0))) := Lib.hid (by rw [outL_start _ _ _ _ _ hilt]; exact HO2.out)
      clear HO2
      go_wp2
      go_hide hQ
      go_loopw [35] (fun q ws => ∃ k : Nat, k ≤ n ∧ q = .int .i64 k ∧ Hid (Own ws w1.heap.size 22 1 (some ⟨w1.heap.size, 0, none⟩) n n (nums .u64 (outL p (fun i k => b ^ F i k) x n i k))) ∧ Hid (Below w1.heap.size w1 ws)) (fun q _ => n - (intOf q).toNat)
      case atStart => exact ⟨0, Nat.zero_le _, rfl, HOS, HB2⟩
      case round =>
        obtain ⟨k, hkn, rfl, HO3, HB3⟩ := hrel
        by_cases hlt : k < n
        · have hkx : k < x.length := by rw [HN.out]; exact hlt
          have hcx : wr.cell? (xa.add k) = some (.int .u64 x[k]) := (HR1.out.below HB3.out).num hkx
          have HU : Hid (U64 x[k]) := Lib.hid (HW.out _ (List.getElem_mem hkx))
          have hm0 : F i k % (2 * n) < 2 * n := Nat.mod_lt _ (by omega)
          have hct : wr.cell? (tb.add (F i k % (2 * n))) = some (.int .u64 (powS p b (F i k % (2 * n)))) := by
            have h1 := (HTB.out.below HB3.out).num (i := F i k % (2 * n)) (by simpa using hm0)
            rw [h1]; simp
          have hrm : ((F i k : Nat) : Int) % ((2 * n : Nat) : Int) = ((F i k % (2 * n) : Nat) : Int) := by push_cast; rfl
          have hrt : ((F i k : Nat) : Int).tmod ((2 * n : Nat) : Int) = ((F i k % (2 * n) : Nat) : Int) := by rw [Int.tmod_eq_emod_of_nonneg (by omega)]; push_cast; rfl
          have hco : wr.cell? ⟨w1.heap.size, i, none⟩ = some (.int .u64 (sumF p (fun k => b ^ F i k) x k)) := by
            rw [HO3.out.cellAt i hilt, nums_get .u64 _ i (by rw [outL_length]; exact hilt), outL_at _ _ _ _ _ _ hilt]
          have hfo : wr.frozen? ⟨w1.heap.size, i, none⟩ = false := HO3.out.frozenAt i
          have HNX : Hid (addS p (sumF p (fun k => b ^ F i k) x k) (mulS p x[k] (powS p b (F i k % (2 * n)))) = sumF p (fun k => b ^ F i k) x (k + 1)) := Lib.hid (by
            have h1 := sumF_step p (fun k => b ^ F i k) x k (pow_table H2.out (F i k))
            rw [List.getD_eq_getElem?_getD, List.getElem?_eq_getElem hkx] at h1
            exact h1)
          have HST : Hid (∀ m, Own ((wr.drewN m).setCell ⟨w1.heap.size, i, none⟩ (.int .u64 (sumF p (fun k => b ^ F i k) x (k + 1)))) w1.heap.size 22 1 (some ⟨w1.heap.size, 0, none⟩) n n (nums .u64 (outL p (fun i k => b ^ F i k) x n i (k + 1)))) := Lib.hid fun m => by
            have h1 := (HO3.out.drewN m).stored i (.int .u64 (sumF p (fun k => b ^ F i k) x (k + 1)))
            rw [nums_set, outL_set p (fun i k => b ^ F i k) x n i k (k + 1)] at h1
            exact h1
          generalize x[k] = d at *
          have hn20 : ¬ ((2 * n : Nat) : Int) = 0 := by omega
          generalize hmm : F i k % (2 * n) = mm at *
          clear hmm
          generalize hnn : ((2 * n : Nat) : Int) = nn at *
          have hlen2 : (mm : Int) < nn := by omega
          go_wp2
          refine region_marks2 (k := 23) (S := (fun w' => w'.cell? ⟨w1.heap.size, i, none⟩ = some (.int .u64 (sumF p (fun k => b ^ F i k) x k)) ∧ w'.cell? (tb.add mm) = some (.int .u64 (powS p b mm)))) (T := fun i => decide (i < 22)) HMX.out rfl ⟨hco, hct⟩ (fun hS => ?_)
          refine wpAnyT_take3 (i := 0) (v := ?v0) rfl (by kernel_rfl) (by kernel_rfl) (by kernel_rfl) (by kernel_rfl) (by kernel_rfl) (fun _ _ _ h => h) hS (Or.inl ⟨by rfl, ?hy0⟩) ?rest0
          case hy0 => (intro w' hSw; (try dsimp only at hSw); go_simp; (try with_reducible rfl))
          (try simp only [Act.put, List.setIfInBounds_toArray, List.set_cons_zero, List.set_cons_succ])
          refine wpAnyT_take3 (i := 1) (v := ?v1) rfl (by kernel_rfl) (by kernel_rfl) (by kernel_rfl) (by kernel_rfl) (by kernel_rfl) (fun _ _ _ h => h) hS (Or.inl ⟨by rfl, ?hy1⟩) ?rest1
          case hy1 => (intro w' hSw; (try dsimp only at hSw); go_simp; (try with_reducible rfl))
          (try simp only [Act.put, List.setIfInBounds_toArray, List.set_cons_zero, List.set_cons_succ])
          refine wpAnyT_take3 (i := 2) (v := ?v2) rfl (by kernel_rfl) (by kernel_rfl) (by kernel_rfl) (by kernel_rfl) (by kernel_rfl) (fun _ _ _ h => h) hS (Or.inl ⟨by rfl, ?hy2⟩) ?rest2
          case hy2 => (intro w' hSw; (try dsimp only at hSw); go_simp; (try with_reducible rfl))
          (try simp only [Act.put, List.setIfInBounds_toArray, List.set_cons_zero, List.set_cons_succ])
          refine wpAnyT_take3 (i := 3) (v := ?v3) rfl (by kernel_rfl) (by kernel_rfl) (by kernel_rfl) (by kernel_rfl) (by kernel_rfl) (fun _ _ _ h => h) hS (Or.inl ⟨by rfl, ?hy3⟩) ?rest3
          case hy3 => (intro w' hSw; (try dsimp only at hSw); go_simp; (try with_reducible rfl))
          (try simp only [Act.put, List.setIfInBounds_toArray, List.set_cons_zero, List.set_cons_succ])
          refine wpAnyT_take3 (i := 4) (v := ?v4) rfl (by kernel_rfl) (by kernel_rfl) (by kernel_rfl) (by kernel_rfl) (by kernel_rfl) (fun _ _ _ h => h) hS (Or.inl ⟨by rfl, ?hy4⟩) ?rest4
          case hy4 => (intro w' hSw; (try dsimp only at hSw); go_simp; (try with_reducible rfl))
          (try simp only [Act.put, List.setIfInBounds_toArray, List.set_cons_zero, List.set_cons_succ])
          refine wpAnyT_take3 (i := 5) (v := ?v5) rfl (by kernel_rfl) (by kernel_rfl) (by kernel_rfl) (by kernel_rfl) (by kernel_rfl) (fun _ _ _ h => h) hS (Or.inl ⟨by rfl, ?hy5⟩) ?rest5
          case hy5 => (intro w' hSw; (try dsimp only at hSw); go_simp; (try with_reducible rfl))
          (try simp only [Act.put, List.setIfInBounds_toArray, List.set_cons_zero, List.set_cons_succ])
          refine wpAnyT_take3 (i := 6) (v := ?v6) rfl (by kernel_rfl) (by kernel_rfl) (by kernel_rfl) (by kernel_rfl) (by kernel_rfl) (fun _ _ _ h => h) hS (Or.inl ⟨by rfl, ?hy6⟩) ?rest6
          case hy6 => (intro w' hSw; (try dsimp only at hSw); go_simp; (try with_reducible rfl))
          (try simp only [Act.put, List.setIfInBounds_toArray, List.set_cons_zero, List.set_cons_succ])
          refine wpAnyT_take3 (i := 7) (v := ?v7) rfl (by kernel_rfl) (by kernel_rfl) (by kernel_rfl) (by kernel_rfl) (by kernel_rfl) (fun _ _ _ h => h) hS (Or.inl ⟨by rfl, ?hy7⟩) ?rest7
          case hy7 => (intro w' hSw; (try dsimp only at hSw); go_simp; (try with_reducible rfl))
          (try simp only [Act.put, List.setIfInBounds_toArray, List.set_cons_zero, List.set_cons_succ])
          refine wpAnyT_take3 (i := 8) (v := ?v8) rfl (by kernel_rfl) (by kernel_rfl) (by kernel_rfl) (by kernel_rfl) (by kernel_rfl) (fun _ _ _ h => h) hS (Or.inl ⟨by rfl, ?hy8⟩) ?rest8
          case hy8 => (intro w' hSw; (try dsimp only at hSw); go_simp; (try with_reducible rfl))
          (try simp only [Act.put, List.setIfInBounds_toArray, List.set_cons_zero, List.set_cons_succ])
          refine wpAnyT_take3 (i := 9) (v := ?v9) rfl (by kernel_rfl) (by kernel_rfl) (by kernel_rfl) (by kernel_rfl) (by kernel_rfl) (fun _ _ _ h => h) hS (Or.inl ⟨by rfl, ?hy9⟩) ?rest9
          case hy9 => (intro w' hSw; (try dsimp only at hSw); go_simp; (try with_reducible rfl))
          (try simp only [Act.put, List.setIfInBounds_toArray, List.set_cons_zero, List.set_cons_succ])
          refine wpAnyT_take3 (i := 10) (v := ?v10) rfl (by kernel_rfl) (by kernel_rfl) (by kernel_rfl) (by kernel_rfl) (by kernel_rfl) (fun _ _ _ h => h) hS (Or.inl ⟨by rfl, ?hy10⟩) ?rest10
          case hy10 => (intro w' hSw; (try dsimp only at hSw); go_simp; (try with_reducible rfl))
          (try simp only [Act.put, List.setIfInBounds_toArray, List.set_cons_zero, List.set_cons_succ])
          refine wpAnyT_take3 (i := 11) (v := ?v11) rfl (by kernel_rfl) (by kernel_rfl) (by kernel_rfl) (by kernel_rfl) (by kernel_rfl) (fun _ _ _ h => h) hS (Or.inl ⟨by rfl, ?hy11⟩) ?rest11
          case hy11 => (intro w' hSw; (try dsimp only at hSw); go_simp; (try with_reducible rfl))
          (try simp only [Act.put, List.setIfInBounds_toArray, List.set_cons_zero, List.set_cons_succ])
          refine wpAnyT_take3 (i := 12) (v := ?v12) rfl (by kernel_rfl) (by kernel_rfl) (by kernel_rfl) (by kernel_rfl) (by kernel_rfl) (fun _ _ _ h => h) hS (Or.inl ⟨by rfl, ?hy12⟩) ?rest12
          case hy12 => (intro w' hSw; (try dsimp only at hSw); go_simp; (try with_reducible rfl))
          (try simp only [Act.put, List.setIfInBounds_toArray, List.set_cons_zero, List.set_cons_succ])
          refine wpAnyT_take3 (i := 14) (v := ?v13) rfl (by kernel_rfl) (by kernel_rfl) (by kernel_rfl) (by kernel_rfl) (by kernel_rfl) (fun _ _ _ h => h) hS (Or.inl ⟨by rfl, ?hy13⟩) ?rest13
          case hy13 => (intro w' hSw; (try dsimp only at hSw); go_simp; (try with_reducible rfl))
          (try simp only [Act.put, List.setIfInBounds_toArray, List.set_cons_zero, List.set_cons_succ])
          refine wpAnyT_take3 (i := 15) (v := ?v14) rfl (by kernel_rfl) (by kernel_rfl) (by kernel_rfl) (by kernel_rfl) (by kernel_rfl) (fun _ _ _ h => h) hS (Or.inl ⟨by rfl, ?hy14⟩) ?rest14
          case hy14 => (intro w' hSw; (try dsimp only at hSw); go_simp; (try with_reducible rfl))
          (try simp only [Act.put, List.setIfInBounds_toArray, List.set_cons_zero, List.set_cons_succ])
          refine wpAnyT_one (i := 13) (by kernel_rfl) rfl (fun K hK => ?_)
          go_simp
          refine (hstep i k _ hilt hlt).mono ?_
          rintro e w2 ⟨rfl, rfl⟩
          refine hK _ _ (fun _ => hS) ?_
          clear hK K
          (try simp only [Act.put, List.setIfInBounds_toArray, List.set_cons_zero, List.set_cons_succ])
          refine wpAnyT_take3 (i := 16) (v := ?v16) rfl (by kernel_rfl) (by kernel_rfl) (by kernel_rfl) (by kernel_rfl) (by kernel_rfl) (fun _ _ _ h => h) hS (Or.inl ⟨by rfl, ?hy16⟩) ?rest16
          case hy16 => (intro w' hSw; (try dsimp only at hSw); go_simp; (try with_reducible rfl))
          (try simp only [Act.put, List.setIfInBounds_toArray, List.set_cons_zero, List.set_cons_succ])
          refine wpAnyT_take3 (i := 17) (v := ?v17) rfl (by kernel_rfl) (by kernel_rfl) (by kernel_rfl) (by kernel_rfl) (by kernel_rfl) (fun _ _ _ h => h) hS (Or.inl ⟨by rfl, ?hy17⟩) ?rest17
          case hy17 => (intro w' hSw; (try dsimp only at hSw); go_simp; (try with_reducible rfl))
          (try simp only [Act.put, List.setIfInBounds_toArray, List.set_cons_zero, List.set_cons_succ])
          refine wpAnyT_take3 (i := 18) (v := ?v18) rfl (by kernel_rfl) (by kernel_rfl) (by kernel_rfl) (by kernel_rfl) (by kernel_rfl) (fun _ _ _ h => h) hS (Or.inl ⟨by rfl, ?hy18⟩) ?rest18
          case hy18 => (intro w' hSw; (try dsimp only at hSw); go_simp; (try with_reducible rfl))
          (try simp only [Act.put, List.setIfInBounds_toArray, List.set_cons_zero, List.set_cons_succ])
          refine wpAnyT_one (i := 19) (by kernel_rfl) rfl (fun K hK => ?_)
          go_simp
          refine (mul_calls _ _ _ _ HP.out HU.out (u64_powS _ _ _)).mono ?_
          rintro e w2 ⟨rfl, ⟨n2, rfl⟩⟩
          refine hK _ _ (fun _ => hS) ?_
          clear hK K
          (try simp only [Act.put, List.setIfInBounds_toArray, List.set_cons_zero, List.set_cons_succ])
          refine wpAnyT_one (i := 20) (by kernel_rfl) rfl (fun K hK => ?_)
          go_simp
          refine (add_calls _ _ _ _ HP.out (u64_sumF _ _ _ _) (u64_mulS _ _ _)).mono ?_
          rintro e w2 ⟨rfl, ⟨n3, rfl⟩⟩
          rw [HNX.out]
          refine hK _ _ (fun _ => hS) ?_
          clear hK K
          (try simp only [Act.put, List.setIfInBounds_toArray, List.set_cons_zero, List.set_cons_succ])
          refine wpAnyT_one (i := 21) (by kernel_rfl) rfl (fun K hK => ?_)
          go_simp
          refine hK _ _ (fun _ => hS) ?_
          clear hK K
          (try simp only [Act.put, List.setIfInBounds_toArray, List.set_cons_zero, List.set_cons_succ])
          refine wpAnyT_one (i := 22) (by kernel_rfl) rfl (fun K hK => ?_)
          go_simp
          refine hK _ _ (fun h => by cases h) ?_
          clear hK K
          (try simp only [Act.put, List.setIfInBounds_toArray, List.set_cons_zero, List.set_cons_succ])
          refine wpAnyT_done (by kernel_rfl) ?_ _
          refine NoPanic.normal ?_
          go_wp2
          go_roundw
          case rel => exact ⟨k + 1, by omega, by go_num, HST.out _, Lib.hid ((below_drewN HB3.out _).setCell (Nat.le_refl _) _)⟩
          case measure => simp [intOf]; omega
        · have hke : k = n := by omega
          subst hke
          have HOE : Hid (Own wr w1.heap.size 22 1 (some ⟨w1.heap.size, 0, none⟩) k k (nums .u64 (fillL (fun i => linF p (fun k => b ^ F i k) x) k (i + 1)))) := Lib.hid (by
            rw [← outL_end p (fun i k => b ^ F i k) x k i hilt HN.out]; exact HO3.out)
          go_wp2
          subst hQ
          go_wp2
          go_roundw
          case rel => exact ⟨i + 1, by omega, by go_num, HOE, HB3⟩
          case measure => simp [intOf]; omega
    · have hie : i = n := by omega
      subst hie
      have HZ : Hid (fillL (fun i => linF p (fun k => b ^ F i k) x) i i = (List.range i).map fun j => linF p (fun k => b ^ F j k) x) := Lib.hid (fillL_all _ _)
      go_wp2
      go_ret
      exact ⟨_, _, rfl, by rw [← HZ.out]; exact HO2.out.mono HB1.out.size, HB1.out.trans (HB2.out.mono HB1.out.size)⟩
end Go.Proofs.YtohcoidbncbijaaDoor.P
