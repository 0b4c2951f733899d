
/- The contracts of grid.Check and grid's words. Conditions: words of their kinds; slices read as lists; the library's table lies as it was laid. -/
import Derived.Test.YtohcoidbncbijaaDoorGrA
import Derived.Test.YtohcoidbncbijaaDoorDftL
namespace Go.Proofs.YtohcoidbncbijaaDoor.P
open Go.RowKit
set_option linter.unusedVariables false
set_option linter.unusedSimpArgs false
theorem all_n (A : Option Addr) (c n : Nat) (l : List Int) (w : World) (hn : l.length = n) (hr : Row w A (nums .i64 l)) (hl : n ≤ 9223372036854775807) (hw : ∀ d ∈ l, i64 d) :
    Calls Tryd.prog 59 #[.slice A n c] w fun e w' => e = .returned (.tuple #[.int .i64 (allS l).1, .int .i64 (allS l).2]) ∧ w' = w := by
  subst hn; exact all_calls A c l w hr hl hw
theorem dimsA_i64 {ax : List (Int × Bool)} (h : ∀ a ∈ ax, i64 a.1) : ∀ d ∈ dimsA ax, i64 d := by
  intro d hd
  simp only [dimsA, List.mem_map] at hd
  obtain ⟨a, ha, rfl⟩ := hd
  exact h a ha
/-- What is told once k axes are looked at. -/
def errN (p : Int) (ax : List (Int × Bool)) (k : Nat) : Int := if ∀ a ∈ ax.take k, (rootS p (ordA a)).2 = 0 then 0 else 5
theorem take_all {α : Type} {P : α → Prop} {l : List α} {k : Nat} (h : k < l.length) : (∀ a ∈ l.take (k + 1), P a) ↔ ((∀ a ∈ l.take k, P a) ∧ P l[k]) := by
  rw [List.take_add_one, List.getElem?_eq_getElem h]
  simp only [Option.toList, List.mem_append, List.mem_singleton]
  constructor
  · intro h1; exact ⟨fun a ha => h1 a (.inl ha), h1 _ (.inr rfl)⟩
  · rintro ⟨h1, h2⟩ a (ha | rfl)
    · exact h1 a ha
    · exact h2
theorem errN_good {p : Int} {ax : List (Int × Bool)} {k : Nat} (h : k < ax.length) (hg : (rootS p (ordA ax[k])).2 = 0) : errN p ax (k + 1) = errN p ax k := by
  unfold errN
  by_cases h1 : ∀ a ∈ ax.take k, (rootS p (ordA a)).2 = 0
  · rw [if_pos h1, if_pos ((take_all h).2 ⟨h1, hg⟩)]
  · rw [if_neg h1, if_neg (fun h2 => h1 ((take_all h).1 h2).1)]
theorem errN_bad {p : Int} {ax : List (Int × Bool)} {k : Nat} (h : k < ax.length) (hg : ¬ (rootS p (ordA ax[k])).2 = 0) : errN p ax (k + 1) = 5 := by
  unfold errN
  rw [if_neg (fun h2 => hg ((take_all h).1 h2).2)]
set_option maxRecDepth 100000 in
set_option maxHeartbeats 2000000 in
theorem chk7_calls (p : Int) (A : Option Addr) (c n : Nat) (ax : List (Int × Bool)) (w : World) (hn : ax.length = n) (hp : U64 p) (hr : Row w A (axR ax)) (hl : n ≤ 8796093022208) (hw : ∀ a ∈ ax, i64 a.1) (hT : Tab w) :
    Calls Tryd.prog 23 #[.int .u64 p, .slice A n c] w fun e w' => e = .returned (.int .i64 (chk7 p ax)) ∧ Below w.heap.size w w' := by
  have HP := Lib.hid hp
  have HR := Lib.hid hr
  have HN := Lib.hid hn
  have HW := Lib.hid hw
  have HT := Lib.hid hT
  have HDN : Hid ((dimsA ax).length = n) := Lib.hid (by rw [dimsA_length]; exact hn)
  have HDW := Lib.hid (dimsA_i64 hw)
  have hl2 : n ≤ 9223372036854775807 := by omega
  clear hp hr hn hw hT
  by_cases hk : knownS p = true
  case neg =>
    have HF : Hid (chk7 p ax = 2) := Lib.hid (by rw [chk7, if_neg hk])
    have hk2 : knownS p = false := by simpa using hk
    rw [HF.out]
    clear hk
    go_enter Tryd.func23, Tryd.ntmps23
    go_wp2_with (go_at_call 58; refine (known_calls _ _).mono ?_; rintro e w ⟨rfl, rfl⟩)
    go_ret
    exact ⟨rfl, Below.refl _ _⟩
  by_cases hd : Dims (dimsA ax)
  case neg =>
    have HF : Hid (chk7 p ax = 3) := Lib.hid (by rw [chk7, if_pos hk, if_neg hd])
    have HA := Lib.hid (allS_no hd)
    rw [HF.out]
    clear hd
    go_enter Tryd.func23, Tryd.ntmps23
    go_wp2_with (go_at_call 58; refine (known_calls _ _).mono ?_; rintro e w ⟨rfl, rfl⟩)
    refine (dims7_calls _ _ _ _ _ HN.out HR.out hl).mono ?_
    rintro e w1 ⟨B, rfl, ho, hb⟩
    have HB := Lib.hid hb
    have HO := Lib.hid ho.row
    clear ho hb
    go_wp2_with fail
    refine (all_n _ _ _ _ _ HDN.out HO.out hl2 HDW.out).mono ?_
    rw [HA.out]
    rintro e w2 ⟨rfl, rfl⟩
    go_wp2
    go_ret
    exact ⟨rfl, HB.out⟩
  have HA := Lib.hid (allS_yes hd)
  have HD := Lib.hid hd
  have HPOS : Hid (∀ j, (hj : j < ax.length) → 1 ≤ ax[j].1 ∧ ax[j].1 ≤ 4096) := Lib.hid fun j hj => by
    have h1 : j < (dimsA ax).length := by rw [dimsA_length]; exact hj
    have h2 := HD.out.pos.at h1
    have h3 := HD.out.pos.at_le h1
    have h4 := HD.out.all
    have e : (dimsA ax)[j] = ax[j].1 := by simp [dimsA]
    rw [e] at h2 h3
    omega
  have HK := Lib.hid hk
  clear hd
  go_enter Tryd.func23, Tryd.ntmps23
  go_wp2_with (go_at_call 58; refine (known_calls _ _).mono ?_; rintro e w ⟨rfl, rfl⟩)
  refine (dims7_calls _ _ _ _ _ HN.out HR.out hl).mono ?_
  rintro e w1 ⟨B, rfl, ho, hb⟩
  have HB := Lib.hid hb
  have HO := Lib.hid ho.row
  clear ho hb
  go_wp2_with fail
  refine (all_n _ _ _ _ _ HDN.out HO.out hl2 HDW.out).mono ?_
  rw [HA.out]
  rintro e w2 ⟨rfl, rfl⟩
  generalize prodL (dimsA ax) = P0 at *
  clear hk
  go_wp2
  go_loopw [7, 26] (fun v q wr => ∃ k : Nat, k ≤ n ∧ q = .int .i64 k ∧ v = .int .i64 (errN p ax k) ∧ Hid (∀ a ∈ ax.take k, smoothS a.1 = true) ∧ Hid (Below w.heap.size w wr)) (fun _ q _ => n - (intOf q).toNat)
  case atStart => exact ⟨0, Nat.zero_le _, rfl, by simp [errN], Lib.hid (by simp), HB⟩
  case round =>
    obtain ⟨k, hk, rfl, rfl, HS, HB2⟩ := hrel
    by_cases hlt : k < n
    · have hka : k < ax.length := by have := HN.out; omega
      obtain ⟨x, rfl⟩ := HR.out.some_of (by intro h0; have h1 := axR_length ax; rw [h0] at h1; simp at h1; omega)
      obtain ⟨hc0, hc1⟩ := ax_cells (HR.out.below HB2.out) hka
      obtain ⟨hp1, hp2⟩ := HPOS.out k hka
      have HI := Lib.hid (HW.out _ (List.getElem_mem hka))
      have HSF : Hid (¬ smoothS ax[k].1 = true → chk7 p ax = 4) := Lib.hid fun h => by
        rw [chk7, if_pos HK.out, if_pos HD.out, if_neg (fun h2 => h (h2 _ (List.getElem_mem hka)))]
      have HSS : Hid (smoothS ax[k].1 = true → ∀ a ∈ ax.take (k + 1), smoothS a.1 = true) := Lib.hid fun h => (take_all hka).2 ⟨HS.out, h⟩
      have HEG : Hid ((rootS p (ordA ax[k])).2 = 0 → errN p ax (k + 1) = errN p ax k) := Lib.hid fun h => errN_good hka h
      have HEB : Hid (¬ (rootS p (ordA ax[k])).2 = 0 → errN p ax (k + 1) = 5) := Lib.hid fun h => errN_bad hka h
      generalize ax[k] = a at *
      obtain ⟨a0, a1⟩ := a
      dsimp only at hc0 hc1 hp1 hp2
      have HB3 := Lib.hid (HB2.out.alloc HB2.out.size (.cells #[.int .i64 a0, .bool a1] 32))
      have HRT : Hid (∀ w, Calls Tryd.prog 62 #[.int .u64 p, .int .i64 (ordA (a0, a1))] w fun e w' => e = .returned (.tuple #[.int .u64 (rootS p (ordA (a0, a1))).1, .int .i64 (rootS p (ordA (a0, a1))).2]) ∧ Below w.heap.size w w') := Lib.hid fun w => root_calls p _ w HP.out
      have w1 : IntKind.i64.wrap (a0 * 2) = a0 * 2 := wrapI (by omega) (by omega)
      have w2 : wrap64 (a0 * 2) = a0 * 2 := wrap64_id ⟨by omega, by omega⟩
      cases hs : smoothS a0
      case' false => have HF := Lib.hid (HSF.out (by simp [hs]))
      case' true =>
        have HS2 := Lib.hid (HSS.out hs)
        generalize rootS p (ordA (a0, a1)) = rt at *
        obtain ⟨r0, r1⟩ := rt
        by_cases hr1 : r1 = 0
        case' pos =>
          have HE := Lib.hid (HEG.out hr1)
          have t0 : (r1 != 0) = false := by simpa using hr1
        case' neg =>
          have HE := Lib.hid (HEB.out hr1)
          have t0 : (r1 != 0) = true := by simpa using hr1
      all_goals
        clear HSF HSS HEG HEB
        cases a1
        all_goals
          go_wp2_with fail
          refine (smooth_calls _ _ HI.out (HT.out.below HB3.out)).mono ?_
          rw [hs]
          rintro e w3 ⟨rfl, hb⟩
          have HB4 := Lib.hid (blT HB3.out hb)
          clear hb
          first
            | (go_wp2
               go_ret
               exact ⟨by rw [HF.out]; rfl, HB4.out⟩)
            | (go_wp2_with fail
               refine (HRT.out _).mono ?_
               rintro e w5 ⟨rfl, hb⟩
               have HB5 := Lib.hid (blT HB4.out hb)
               clear hb
               go_wp2
               go_roundw
               case rel => exact ⟨k + 1, by omega, by go_num, by rw [HE.out], HS2, HB5⟩
               case measure => simp [intOf]; omega)
    · have hke : k = n := by omega
      have HF : Hid (chk7 p ax = errN p ax k) := Lib.hid (by
        have e : ax.take k = ax := List.take_of_length_le (by rw [HN.out]; omega)
        have hs := HS.out
        rw [e] at hs
        rw [chk7, if_pos HK.out, if_pos HD.out, if_pos hs, errN, e])
      clear hke
      go_wp2
      go_ret
      exact ⟨by rw [HF.out]; rfl, HB2.out⟩
set_option maxRecDepth 100000 in
set_option maxHeartbeats 2000000 in
theorem wrd7_calls (p : Int) (A : Option Addr) (c n : Nat) (ax : List (Int × Bool)) (B : Option Addr) (cb m : Nat) (x : List Int) (w : World) (hn : ax.length = n) (hm : x.length = m) (hp : U64 p) (hr : Row w A (axR ax)) (hl : n ≤ 8796093022208) (hw : ∀ a ∈ ax, i64 a.1) (hrx : Row w B (nums .u64 x)) (hlm : m ≤ 9223372036854775807) (hT : Tab w) :
    Calls Tryd.prog 99 #[.int .u64 p, .slice A n c, .slice B m cb] w fun e w' => e = .returned (.int .i64 (wrd7 p ax x)) ∧ Below w.heap.size w w' := by
  have HP := Lib.hid hp
  have HR := Lib.hid hr
  have HRX := Lib.hid hrx
  have HN := Lib.hid hn
  have HM := Lib.hid hm
  have HW := Lib.hid hw
  have HT := Lib.hid hT
  have HDN : Hid ((dimsA ax).length = n) := Lib.hid (by rw [dimsA_length]; exact hn)
  have HDW := Lib.hid (dimsA_i64 hw)
  have hl2 : n ≤ 9223372036854775807 := by omega
  clear hp hr hn hw hT hrx hm
  by_cases hc : chk7 p ax = 0
  case neg =>
    have HF : Hid (wrd7 p ax x = chk7 p ax) := Lib.hid (by rw [wrd7, if_neg hc])
    have t0 : (chk7 p ax != 0) = true := by simpa using hc
    rw [HF.out]
    clear hc
    go_enter Tryd.func99, Tryd.ntmps99
    go_wp2_with fail
    refine (chk7_calls _ _ _ _ _ _ HN.out HP.out HR.out hl HW.out HT.out).mono ?_
    rintro e w1 ⟨rfl, hb⟩
    have HB := Lib.hid hb
    clear hb
    go_wp2
    go_ret
    exact ⟨rfl, HB.out⟩
  have HC := Lib.hid hc
  have hk7 := chk7_ok hc
  have HA := Lib.hid (allS_yes hk7.dims)
  clear hc hk7
  by_cases he : prodL (dimsA ax) = (m : Int)
  case' neg =>
    have HF : Hid (wrd7 p ax x = 6) := Lib.hid (by rw [wrd7, if_pos HC.out, HM.out, if_neg he])
    have t1 : (prodL (dimsA ax) != (m : Int)) = true := by simpa using he
    clear he
    generalize prodL (dimsA ax) = P0 at *
  case' pos =>
    cases hin : inS p x
    case' false => have HF : Hid (wrd7 p ax x = 7) := Lib.hid (by rw [wrd7, if_pos HC.out, HM.out, if_pos he, hin]; rfl)
    case' true => have HF : Hid (wrd7 p ax x = 0) := Lib.hid (by rw [wrd7, if_pos HC.out, HM.out, if_pos he, hin]; rfl)
    all_goals
      have HIN := Lib.hid hin
      rw [he] at HA
      have t1 : ((m : Int) != (m : Int)) = false := by simp
      clear he hin
  all_goals
    rw [HF.out]
    go_enter Tryd.func99, Tryd.ntmps99
    go_wp2_with fail
    refine (chk7_calls _ _ _ _ _ _ HN.out HP.out HR.out hl HW.out HT.out).mono ?_
    rw [HC.out]
    rintro e w1 ⟨rfl, hb⟩
    have HB := Lib.hid hb
    have HR1 := Lib.hid (HR.out.below hb)
    have HRX1 := Lib.hid (HRX.out.below hb)
    clear hb
    go_wp2_with fail
    refine (dims7_calls _ _ _ _ _ HN.out HR1.out hl).mono ?_
    rintro e w2 ⟨D, rfl, ho, hb⟩
    have HB2 := Lib.hid (blT HB.out hb)
    have HRX2 := Lib.hid (HRX1.out.below hb)
    have HO := Lib.hid ho.row
    clear ho hb
    go_wp2_with fail
    refine (all_n _ _ _ _ _ HDN.out HO.out hl2 HDW.out).mono ?_
    rw [HA.out]
    rintro e w3 ⟨rfl, rfl⟩
    first
      | (go_wp2
         go_ret
         exact ⟨rfl, HB2.out⟩)
      | (go_wp2_with fail
         refine (in_n _ _ _ _ _ _ HM.out HRX2.out hlm).mono ?_
         rw [HIN.out]
         rintro e w4 ⟨rfl, rfl⟩
         go_wp2
         go_ret
         exact ⟨rfl, HB2.out⟩)
end Go.Proofs.YtohcoidbncbijaaDoor.P
