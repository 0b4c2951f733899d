
/- The contracts of package dft's Forward and Inverse. Conditions: words of their kinds; the slice reads as a list; the library's table lies as it was laid. -/
import Derived.Test.YtohcoidbncbijaaDoorDftC
namespace Go.Proofs.YtohcoidbncbijaaDoor.P
open Go.RowKit
set_option linter.unusedVariables false
set_option linter.unusedSimpArgs false
theorem backS_ok0 {p r : Int} (h : (rootS p r).2 = 0) : (backS p r).2 = 0 := by
  obtain ⟨N, rfl, hR⟩ := rootS_is h
  rw [hR.back]
/-- A row whose first k words are turned. -/
def mapL (f : Int → Int) (o : List Int) (k : Nat) : List Int := (o.take k).map f ++ o.drop k
theorem mapL_length (f : Int → Int) (o : List Int) (k : Nat) : (mapL f o k).length = o.length := by simp [mapL]; omega
theorem mapL_zero (f : Int → Int) (o : List Int) : mapL f o 0 = o := by simp [mapL]
theorem mapL_all (f : Int → Int) (o : List Int) : mapL f o o.length = o.map f := by simp [mapL]
theorem mapL_at (f : Int → Int) (o : List Int) (k : Nat) (h : k < o.length) : (mapL f o k)[k]'(by rw [mapL_length]; exact h) = o[k] := by
  unfold mapL
  rw [List.getElem_append_right (by rw [List.length_map, List.length_take]; omega)]
  simp [Nat.min_eq_left (Nat.le_of_lt h)]
theorem mapL_set (f : Int → Int) (o : List Int) (k : Nat) (h : k < o.length) : (mapL f o k).set k (f o[k]) = mapL f o (k + 1) := by
  unfold mapL
  have e : ((o.take k).map f).length = k := by simp; omega
  rw [List.set_append_right _ _ (by omega), e, Nat.sub_self, List.drop_eq_getElem_cons h, List.set_cons_zero, List.take_succ_eq_append_getElem h, List.map_append, List.map_singleton, List.append_assoc, List.singleton_append]
theorem stp_le {neg : Bool} {i k n : Nat} (hi : i < n) (hk : k < n) (hn : n ≤ 4096) : stp neg i k ≤ 33554432 := by
  have h1 : i * (2 * k + 1) ≤ 4096 * 8192 := Nat.mul_le_mul (by omega) (by omega)
  have h2 : i * k ≤ 4096 * 8192 := Nat.mul_le_mul (by omega) (by omega)
  unfold stp
  split <;> omega
theorem fwd1_cf (args : Array Value) (w : World) : (callFunc 137 args).run Tryd.prog w = .ok (.enter 137 args) w := by kernel_rfl
theorem fwd1_step (n : Nat) (hn : n ≤ 4096) (i k : Nat) (w : World) (hi : i < n) (hk : k < n) :
    Calls Tryd.prog 137 #[.int .i64 (i : Int), .int .i64 (k : Int)] w fun e w' => e = .returned (.int .i64 ((stp true k i : Nat) : Int)) ∧ w' = w := by
  have hb := stp_le (neg := true) (i := k) (k := i) hk hi hn
  have e1 : (k : Int) * (2 * (i : Int) + 1) = ((stp true k i : Nat) : Int) := by rw [stp, if_pos rfl]; push_cast; rfl
  have w1 : IntKind.i64.wrap (2 * (i : Int)) = 2 * (i : Int) := wrapI (by omega) (by omega)
  have w2 : wrap64 (2 * (i : Int)) = 2 * (i : Int) := wrap64_id ⟨by omega, by omega⟩
  have w3 : IntKind.i64.wrap (2 * (i : Int) + 1) = 2 * (i : Int) + 1 := wrapI (by omega) (by omega)
  have w4 : wrap64 (2 * (i : Int) + 1) = 2 * (i : Int) + 1 := wrap64_id ⟨by omega, by omega⟩
  generalize stp true k i = v at *
  have w5 : IntKind.i64.wrap (v : Int) = (v : Int) := wrapI (by omega) (by omega)
  have w6 : wrap64 (v : Int) = (v : Int) := wrap64_id ⟨by omega, by omega⟩
  clear hb hi hk
  go_enter Tryd.func137, Tryd.ntmps137
  go_wp2
  go_ret
  exact ⟨rfl, rfl⟩
theorem fwd2_cf (args : Array Value) (w : World) : (callFunc 138 args).run Tryd.prog w = .ok (.enter 138 args) w := by kernel_rfl
theorem fwd2_step (n : Nat) (hn : n ≤ 4096) (i k : Nat) (w : World) (hi : i < n) (hk : k < n) :
    Calls Tryd.prog 138 #[.int .i64 (i : Int), .int .i64 (k : Int)] w fun e w' => e = .returned (.int .i64 ((stp false k i : Nat) : Int)) ∧ w' = w := by
  have hb := stp_le (neg := false) (i := k) (k := i) hk hi hn
  have e1 : (k : Int) * (i : Int) = ((stp false k i : Nat) : Int) := by rw [stp, if_neg (by decide)]; push_cast; rfl
  generalize stp false k i = v at *
  have w5 : IntKind.i64.wrap (v : Int) = (v : Int) := wrapI (by omega) (by omega)
  have w6 : wrap64 (v : Int) = (v : Int) := wrap64_id ⟨by omega, by omega⟩
  clear hb hi hk
  go_enter Tryd.func138, Tryd.ntmps138
  go_wp2
  go_ret
  exact ⟨rfl, rfl⟩
theorem inv1_cf (args : Array Value) (w : World) : (callFunc 139 args).run Tryd.prog w = .ok (.enter 139 args) w := by kernel_rfl
theorem inv1_step (n : Nat) (hn : n ≤ 4096) (i k : Nat) (w : World) (hi : i < n) (hk : k < n) :
    Calls Tryd.prog 139 #[.int .i64 (i : Int), .int .i64 (k : Int)] w fun e w' => e = .returned (.int .i64 ((stp false i k : Nat) : Int)) ∧ w' = w := by
  have hb := stp_le (neg := false) (i := i) (k := k) hi hk hn
  have e1 : (i : Int) * (k : Int) = ((stp false i k : Nat) : Int) := by rw [stp, if_neg (by decide)]; push_cast; rfl
  generalize stp false i k = v at *
  have w5 : IntKind.i64.wrap (v : Int) = (v : Int) := wrapI (by omega) (by omega)
  have w6 : wrap64 (v : Int) = (v : Int) := wrap64_id ⟨by omega, by omega⟩
  clear hb hi hk
  go_enter Tryd.func139, Tryd.ntmps139
  go_wp2
  go_ret
  exact ⟨rfl, rfl⟩
theorem inv2_cf (args : Array Value) (w : World) : (callFunc 140 args).run Tryd.prog w = .ok (.enter 140 args) w := by kernel_rfl
theorem inv2_step (n : Nat) (hn : n ≤ 4096) (i k : Nat) (w : World) (hi : i < n) (hk : k < n) :
    Calls Tryd.prog 140 #[.int .i64 (i : Int), .int .i64 (k : Int)] w fun e w' => e = .returned (.int .i64 ((stp true i k : Nat) : Int)) ∧ w' = w := by
  have hb := stp_le (neg := true) (i := i) (k := k) hi hk hn
  have e1 : (i : Int) * (2 * (k : Int) + 1) = ((stp true i k : Nat) : Int) := by rw [stp, if_pos rfl]; push_cast; rfl
  have w1 : IntKind.i64.wrap (2 * (k : Int)) = 2 * (k : Int) := wrapI (by omega) (by omega)
  have w2 : wrap64 (2 * (k : Int)) = 2 * (k : Int) := wrap64_id ⟨by omega, by omega⟩
  have w3 : IntKind.i64.wrap (2 * (k : Int) + 1) = 2 * (k : Int) + 1 := wrapI (by omega) (by omega)
  have w4 : wrap64 (2 * (k : Int) + 1) = 2 * (k : Int) + 1 := wrap64_id ⟨by omega, by omega⟩
  generalize stp true i k = v at *
  have w5 : IntKind.i64.wrap (v : Int) = (v : Int) := wrapI (by omega) (by omega)
  have w6 : wrap64 (v : Int) = (v : Int) := wrap64_id ⟨by omega, by omega⟩
  clear hb hi hk
  go_enter Tryd.func140, Tryd.ntmps140
  go_wp2
  go_ret
  exact ⟨rfl, rfl⟩
theorem trL_fwd (p : Int) (neg : Bool) (x : List Int) : trL p neg false x = (List.range x.length).map fun i => linF p (fun k => (rootS p (ordS x.length neg)).1 ^ stp neg k i) x := by
  unfold trL trF wgt
  simp only [Bool.false_eq_true, if_false]
theorem trL_inv (p : Int) (neg : Bool) (x : List Int) : trL p neg true x = ((List.range x.length).map fun i => linF p (fun k => (backS p (ordS x.length neg)).1 ^ stp neg i k) x).map fun a => mulS p a (invS p x.length).1 := by
  unfold trL trF wgt
  simp only [if_true, List.map_map]
  apply List.map_congr_left
  intro i _
  simp only [Function.comp]
  unfold linF mulS
  rw [redS_mul_left, ← S_mulr]
  congr 1
  exact S_congr fun k _ => by rw [Int.mul_assoc]
set_option maxRecDepth 100000 in
set_option maxHeartbeats 2000000 in
theorem fwd6_calls (p : Int) (A : Option Addr) (c n : Nat) (x : List Int) (neg : Bool) (w : World) (hn : x.length = n) (hp : U64 p) (hr : Row w A (nums .u64 x)) (hl : n ≤ 9223372036854775807) (hw : ∀ d ∈ x, U64 d) (hT : Tab w) :
    Calls Tryd.prog 100 #[.int .u64 p, .slice A n c, .bool neg] w fun e w' => ∃ B b,
      e = .returned (.tuple #[.slice B (trS p neg false x).1.length b, .int .i64 (trS p neg false x).2]) ∧ Own w' w.heap.size 22 1 B (trS p neg false x).1.length b (nums .u64 (trS p neg false x).1) ∧ Below w.heap.size w w' := by
  have HP := Lib.hid hp
  have HR := Lib.hid hr
  have HL := Lib.hid hl
  have HW := Lib.hid hw
  have HN := Lib.hid hn
  have HT := Lib.hid hT
  clear hp hr hl hw hT hn
  by_cases hc : chk6 p x neg = 0
  case neg =>
    have HF : Hid (trS p neg false x = ([], chk6 p x neg)) := Lib.hid (by rw [trS, if_neg hc])
    have t0 : (chk6 p x neg != 0) = true := by simpa using hc
    rw [HF.out]
    clear hc
    go_enter Tryd.func100, Tryd.ntmps100
    go_wp2_with fail
    refine (chk6_calls _ _ _ _ x _ _ HN.out HP.out HR.out HL.out HT.out).mono ?_
    rintro e w1 ⟨rfl, hb⟩
    have HB := Lib.hid hb
    clear hb
    go_wp2
    go_ret2
    exact ⟨none, 0, rfl, Own.nil _ _ _ _, HB.out⟩
  have HF : Hid (trS p neg false x = (trL p neg false x, 0)) := Lib.hid (by rw [trS, if_pos hc])
  obtain ⟨hk, hin⟩ := chk6_ok hc
  obtain ⟨a, a', c', d, hL⟩ := hk.lk
  have hn1 := hk.n1
  have hn4 := hk.n2
  have ho := hk.root
  have hkn := hk.known
  have hTL := trL_fwd p neg x
  have HLL : Hid ((trL p neg false x).length = n) := Lib.hid (by rw [trL_length]; exact HN.out)
  rw [HF.out, show ((trL p neg false x, (0 : Int)).1) = trL p neg false x from rfl, show ((trL p neg false x, (0 : Int)).2) = 0 from rfl, HLL.out]
  rw [HN.out] at hn1 hn4 ho hTL hL
  have HKN := Lib.hid hkn
  have HTL := Lib.hid hTL
  have HUW := Lib.hid hL.uw
  have HW2 := Lib.hid hL.w2
  have HRT : Hid (∀ w, Calls Tryd.prog 62 #[.int .u64 p, .int .i64 (ordS n neg)] w fun e w' => e = .returned (.tuple #[.int .u64 (rootS p (ordS n neg)).1, .int .i64 0]) ∧ Below w.heap.size w w') := Lib.hid fun w => by
    have := root_calls p (ordS n neg) w HP.out
    rw [ho] at this
    exact this
  clear hk hin hL hkn ho
  generalize (rootS p (ordS n neg)).1 = b at *
  have HA2 : Hid (neg = false → ∀ w2, Row w2 A (nums .u64 x) → Calls Tryd.prog 136 #[.int .u64 p, .int .u64 b, .slice A n c, .func (.func 138) #[] #[]] w2 fun e w' => ∃ B cb,
      e = .returned (.slice B n cb) ∧ Own w' w2.heap.size 22 1 B n cb (nums .u64 (trL p neg false x)) ∧ Below w2.heap.size w2 w') := Lib.hid fun h w2 hr => by
    subst h
    rw [hTL]
    exact all6_core 138 (fun i k => stp false k i) p b A c n x w2 fwd2_cf (fwd2_step n hn4) HN.out hn1 hn4 HKN.out HP.out HUW.out hr HW.out HW2.out
  have HA1 : Hid (neg = true → ∀ w2, Row w2 A (nums .u64 x) → Calls Tryd.prog 136 #[.int .u64 p, .int .u64 b, .slice A n c, .func (.func 137) #[] #[]] w2 fun e w' => ∃ B cb,
      e = .returned (.slice B n cb) ∧ Own w' w2.heap.size 22 1 B n cb (nums .u64 (trL p neg false x)) ∧ Below w2.heap.size w2 w') := Lib.hid fun h w2 hr => by
    subst h
    rw [hTL]
    exact all6_core 137 (fun i k => stp true k i) p b A c n x w2 fwd1_cf (fwd1_step n hn4) HN.out hn1 hn4 HKN.out HP.out HUW.out hr HW.out HW2.out
  clear hTL
  cases neg
  all_goals
    go_enter Tryd.func100, Tryd.ntmps100
    go_wp2_with fail
    refine (chk6_calls _ _ _ _ x _ _ HN.out HP.out HR.out HL.out HT.out).mono ?_
    rw [hc]
    rintro e w1 ⟨rfl, hb⟩
    have HB := Lib.hid hb
    clear hb
    go_wp2_with (go_at_call 135; refine (order6_calls _ _ _ hn4).mono ?_; rintro e w' ⟨rfl, rfl⟩)
    refine (HRT.out _).mono ?_
    rintro e w2 ⟨rfl, hb⟩
    have HB2 := Lib.hid (blT HB.out hb)
    clear hb
    go_wp2_with fail
    first
      | refine (HA2.out trivial _ (HR.out.below HB2.out)).mono ?_
      | refine (HA1.out trivial _ (HR.out.below HB2.out)).mono ?_
    rintro e w3 ⟨Z, cz, rfl, ho, hb⟩
    have HB3 := Lib.hid (blT HB2.out hb)
    have HO3 := Lib.hid (ho.mono HB2.out.size)
    clear ho hb
    go_wp2
    go_ret2
    exact ⟨_, _, rfl, HO3.out, HB3.out⟩
set_option maxRecDepth 100000 in
set_option maxHeartbeats 2000000 in
theorem inv6_calls (p : Int) (A : Option Addr) (c n : Nat) (x : List Int) (neg : Bool) (w : World) (hn : x.length = n) (hp : U64 p) (hr : Row w A (nums .u64 x)) (hl : n ≤ 9223372036854775807) (hw : ∀ d ∈ x, U64 d) (hT : Tab w) :
    Calls Tryd.prog 101 #[.int .u64 p, .slice A n c, .bool neg] w fun e w' => ∃ B b,
      e = .returned (.tuple #[.slice B (trS p neg true x).1.length b, .int .i64 (trS p neg true x).2]) ∧ Own w' w.heap.size 22 1 B (trS p neg true x).1.length b (nums .u64 (trS p neg true x).1) ∧ Below w.heap.size w w' := by
  have HP := Lib.hid hp
  have HR := Lib.hid hr
  have HL := Lib.hid hl
  have HW := Lib.hid hw
  have HN := Lib.hid hn
  have HT := Lib.hid hT
  clear hp hr hl hw hT hn
  by_cases hc : chk6 p x neg = 0
  case neg =>
    have HF : Hid (trS p neg true x = ([], chk6 p x neg)) := Lib.hid (by rw [trS, if_neg hc])
    have t0 : (chk6 p x neg != 0) = true := by simpa using hc
    rw [HF.out]
    clear hc
    go_enter Tryd.func101, Tryd.ntmps101
    go_wp2_with fail
    refine (chk6_calls _ _ _ _ x _ _ HN.out HP.out HR.out HL.out HT.out).mono ?_
    rintro e w1 ⟨rfl, hb⟩
    have HB := Lib.hid hb
    clear hb
    go_wp2
    go_ret2
    exact ⟨none, 0, rfl, Own.nil _ _ _ _, HB.out⟩
  have HF : Hid (trS p neg true x = (trL p neg true x, 0)) := Lib.hid (by rw [trS, if_pos hc])
  obtain ⟨hk, hin⟩ := chk6_ok hc
  obtain ⟨a, a', c', d, hL⟩ := hk.lk
  have hn1 := hk.n1
  have hn4 := hk.n2
  have ho := backS_ok0 hk.root
  have hkn := hk.known
  have hTL := trL_inv p neg x
  have HLL : Hid ((trL p neg true x).length = n) := Lib.hid (by rw [trL_length]; exact HN.out)
  rw [HF.out, show ((trL p neg true x, (0 : Int)).1) = trL p neg true x from rfl, show ((trL p neg true x, (0 : Int)).2) = 0 from rfl, HLL.out]
  rw [HN.out] at hn1 hn4 ho hTL hL
  have hIV := invS_ok hkn hn1 (show n ≤ 8192 by omega)
  have HKN := Lib.hid hkn
  have HUW := Lib.hid hL.ub
  have HUL := Lib.hid hL.ul
  have HW2 := Lib.hid hL.b2
  have HRT : Hid (∀ w, Calls Tryd.prog 111 #[.int .u64 p, .int .i64 (ordS n neg)] w fun e w' => e = .returned (.tuple #[.int .u64 (backS p (ordS n neg)).1, .int .i64 0]) ∧ Below w.heap.size w w') := Lib.hid fun w => by
    have := back_calls p (ordS n neg) w HP.out
    rw [ho] at this
    exact this
  have hun : U64 (n : Int) := ⟨by omega, by omega⟩
  have HUN := Lib.hid hun
  have HIV : Hid (invS p (n : Int) = ((invS p (n : Int)).1, 0)) := Lib.hid (by rw [hIV])
  have hcv : IntKind.u64.wrap (n : Int) = (n : Int) := by rw [IntKind.wrap_u64]; omega
  generalize hlv : (invS p (n : Int)).1 = lv at *
  clear hk hin hL hkn ho hIV hun hlv
  generalize (backS p (ordS n neg)).1 = b at *
  have HU2 : Hid (∀ d ∈ (List.range n).map fun i => linF p (fun k => b ^ stp neg i k) x, U64 d) := Lib.hid (fun d hd => by
    simp only [List.mem_map] at hd
    obtain ⟨u, _, rfl⟩ := hd
    exact u64_linF _ _ _)
  have HUL2 : Hid (((List.range n).map fun i => linF p (fun k => b ^ stp neg i k) x).length = n) := Lib.hid (by simp)
  generalize hoL : ((List.range n).map fun i => linF p (fun k => b ^ stp neg i k) x) = o at *
  have HTL := Lib.hid hTL
  have HA1 : Hid (neg = false → ∀ w2, Row w2 A (nums .u64 x) → Calls Tryd.prog 136 #[.int .u64 p, .int .u64 b, .slice A n c, .func (.func 139) #[] #[]] w2 fun e w' => ∃ B cb,
      e = .returned (.slice B n cb) ∧ Own w' w2.heap.size 22 1 B n cb (nums .u64 o) ∧ Below w2.heap.size w2 w') := Lib.hid fun h w2 hr => by
    subst h
    rw [← hoL]
    exact all6_core 139 (fun i k => stp false i k) p b A c n x w2 inv1_cf (inv1_step n hn4) HN.out hn1 hn4 HKN.out HP.out HUW.out hr HW.out HW2.out
  have HA2 : Hid (neg = true → ∀ w2, Row w2 A (nums .u64 x) → Calls Tryd.prog 136 #[.int .u64 p, .int .u64 b, .slice A n c, .func (.func 140) #[] #[]] w2 fun e w' => ∃ B cb,
      e = .returned (.slice B n cb) ∧ Own w' w2.heap.size 22 1 B n cb (nums .u64 o) ∧ Below w2.heap.size w2 w') := Lib.hid fun h w2 hr => by
    subst h
    rw [← hoL]
    exact all6_core 140 (fun i k => stp true i k) p b A c n x w2 inv2_cf (inv2_step n hn4) HN.out hn1 hn4 HKN.out HP.out HUW.out hr HW.out HW2.out
  clear hTL hoL
  cases neg
  all_goals
    go_enter Tryd.func101, Tryd.ntmps101
    go_wp2_with fail
    refine (chk6_calls _ _ _ _ x _ _ HN.out HP.out HR.out HL.out HT.out).mono ?_
    rw [hc]
    rintro e w1 ⟨rfl, hb⟩
    have HB := Lib.hid hb
    clear hb
    go_wp2_with (go_at_call 135; refine (order6_calls _ _ _ hn4).mono ?_; rintro e w' ⟨rfl, rfl⟩)
    refine (HRT.out _).mono ?_
    rintro e w2 ⟨rfl, hb⟩
    have HB2 := Lib.hid (blT HB.out hb)
    clear hb
    go_wp2_with fail
    refine (inv_calls _ _ _ HP.out HUN.out).mono ?_
    rw [HIV.out]
    rintro e w3 ⟨rfl, ⟨q, rfl⟩⟩
    have HB3 : Hid (Below w.heap.size w (w2.drewN q)) := Lib.hid (below_drewN HB2.out q)
    generalize w2.drewN q = w3 at *
    go_wp2_with fail
    first
      | refine (HA1.out trivial _ (HR.out.below HB3.out)).mono ?_
      | refine (HA2.out trivial _ (HR.out.below HB3.out)).mono ?_
    rintro e w4 ⟨Z, cz, rfl, ho, hb⟩
    have HB4 := Lib.hid (blT HB3.out hb)
    have HO4 := Lib.hid (ho.mono HB3.out.size)
    clear ho hb
    obtain ⟨g, cpz, hzv, _, _⟩ := World.ownsRow.form HO4.out (show 0 < n by omega)
    cases hzv
    have HG := Lib.hid HO4.out.base
    have HO5 : Hid (Own w4 w.heap.size 22 1 (some ⟨g, 0, none⟩) n cz (nums .u64 (mapL (fun a => mulS p a lv) o 0))) := Lib.hid (by rw [mapL_zero]; exact HO4.out)
    clear HO4
    go_wp2
    go_loopw [54] (fun q wr => ∃ k : Nat, k ≤ n ∧ q = .int .i64 k ∧ Hid (Own wr w.heap.size 22 1 (some ⟨g, 0, none⟩) n cz (nums .u64 (mapL (fun a => mulS p a lv) o k))) ∧ Hid (Below w.heap.size w wr)) (fun q _ => n - (intOf q).toNat)
    case atStart => exact ⟨0, Nat.zero_le _, rfl, HO5, HB4⟩
    case round =>
      obtain ⟨k, hkn, rfl, HO6, HB6⟩ := hrel
      by_cases hlt : k < n
      · have hko : k < o.length := by rw [HUL2.out]; exact hlt
        have hcc : wr.cell? ⟨g, k, none⟩ = some (.int .u64 o[k]) := by
          rw [HO6.out.cellAt k hlt, nums_get .u64 _ k (by rw [mapL_length]; exact hko), mapL_at _ _ _ hko]
        have hff : wr.frozen? ⟨g, k, none⟩ = false := HO6.out.frozenAt k
        have HUO : Hid (U64 o[k]) := Lib.hid (HU2.out _ (List.getElem_mem hko))
        have HST : Hid (∀ m, Own ((wr.drewN m).setCell ⟨g, k, none⟩ (.int .u64 (mulS p o[k] lv))) w.heap.size 22 1 (some ⟨g, 0, none⟩) n cz (nums .u64 (mapL (fun a => mulS p a lv) o (k + 1)))) := Lib.hid fun m => by
          have h1 := (HO6.out.drewN m).stored k (.int .u64 (mulS p o[k] lv))
          rw [nums_set, mapL_set (fun a => mulS p a lv) o k hko] at h1
          exact h1
        generalize o[k] = d at *
        go_wp2_with (go_at_call 41; refine (mul_calls _ _ _ _ HP.out HUO.out HUL.out).mono ?_; rintro e w7 ⟨rfl, ⟨n7, rfl⟩⟩)
        go_roundw
        case rel => exact ⟨k + 1, by omega, by go_num, HST.out _, Lib.hid ((below_drewN HB6.out _).setCell HG.out.1 _)⟩
        case measure => simp [intOf]; omega
      · have hke : k = n := by omega
        subst hke
        have HZ : Hid (mapL (fun a => mulS p a lv) o k = o.map fun a => mulS p a lv) := Lib.hid (by rw [← HUL2.out]; exact mapL_all _ _)
        go_wp2
        go_ret2
        exact ⟨_, _, rfl, by rw [HTL.out, ← HZ.out]; exact HO6.out, HB6.out⟩
end Go.Proofs.YtohcoidbncbijaaDoor.P
