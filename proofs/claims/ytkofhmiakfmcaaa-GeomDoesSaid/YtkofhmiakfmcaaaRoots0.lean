/- Seeds of which numbers are nothing: plainly, and the contract of package geom's Roots. Conditions: words of their kinds; the slices read as lists. -/
import Derived.Test.YtkofhmiakfmcaaaEvalN
import Derived.Maps.OwnSet
namespace Go.Proofs.Ytkofhmiakfmcaaa.P
open Go.RowKit Go.Maps
set_option linter.unusedVariables false
set_option linter.unusedSimpArgs false
/-- The different seeds, among the first ones, of which the numbers are nothing. -/
def setL (p : Int) (l ss : List Int) : Nat → List Int
  | 0 => []
  | k + 1 => if evalG p (ss.getD k 0) l = 0 ∧ redS p (ss.getD k 0) ∉ setL p l ss k then setL p l ss k ++ [redS p (ss.getD k 0)] else setL p l ss k
theorem setL_yes {p : Int} {l ss : List Int} {k : Nat} (h : evalG p (ss.getD k 0) l = 0) (hn : redS p (ss.getD k 0) ∉ setL p l ss k) : setL p l ss (k + 1) = setL p l ss k ++ [redS p (ss.getD k 0)] := by
  rw [setL, if_pos ⟨h, hn⟩]
theorem setL_in {p : Int} {l ss : List Int} {k : Nat} (hn : redS p (ss.getD k 0) ∈ setL p l ss k) : setL p l ss (k + 1) = setL p l ss k := by
  rw [setL, if_neg (fun h => h.2 hn)]
theorem setL_no {p : Int} {l ss : List Int} {k : Nat} (h : evalG p (ss.getD k 0) l ≠ 0) : setL p l ss (k + 1) = setL p l ss k := by
  rw [setL, if_neg (fun h2 => h h2.1)]
theorem setL_mem {p : Int} {l ss : List Int} {z : Int} : ∀ {k : Nat}, z ∈ setL p l ss k → ∃ j, j < k ∧ z = redS p (ss.getD j 0) ∧ evalG p (ss.getD j 0) l = 0
  | 0, h => by cases h
  | k + 1, h => by
    rw [setL] at h
    split at h
    · rename_i h1
      rw [List.mem_append] at h
      rcases h with h | h
      · obtain ⟨j, hj, h2⟩ := setL_mem h
        exact ⟨j, by omega, h2⟩
      · rw [List.mem_singleton] at h
        exact ⟨k, by omega, h, h1.1⟩
    · obtain ⟨j, hj, h2⟩ := setL_mem h
      exact ⟨j, by omega, h2⟩
theorem setL_has {p : Int} {l ss : List Int} {j : Nat} (h : evalG p (ss.getD j 0) l = 0) : ∀ {k : Nat}, j < k → redS p (ss.getD j 0) ∈ setL p l ss k
  | k + 1, hj => by
    by_cases e : j = k
    · subst e
      by_cases hm : redS p (ss.getD j 0) ∈ setL p l ss j
      · rw [setL_in hm]; exact hm
      · rw [setL_yes h hm]; simp
    · have ih := setL_has h (show j < k by omega)
      rw [setL]
      split
      · exact List.mem_append_left _ ih
      · exact ih
theorem setL_nodup (p : Int) (l ss : List Int) : ∀ k, (setL p l ss k).Nodup
  | 0 => List.nodup_nil
  | k + 1 => by
    rw [setL]
    split
    · rename_i h
      rw [List.nodup_append]
      refine ⟨setL_nodup p l ss k, by simp, ?_⟩
      intro a ha b hb e
      rw [List.mem_singleton] at hb
      subst e; subst hb
      exact h.2 ha
    · exact setL_nodup p l ss k
theorem setL_le (p : Int) (l ss : List Int) : ∀ k, (setL p l ss k).length ≤ k
  | 0 => Nat.le_refl _
  | k + 1 => by
    have ih := setL_le p l ss k
    rw [setL]
    split
    · rw [List.length_append]; simp; omega
    · omega
theorem sub_length : ∀ (xs ys : List Int), xs.Nodup → (∀ x ∈ xs, x ∈ ys) → xs.length ≤ ys.length
  | [], ys, _, _ => Nat.zero_le _
  | x :: xs, ys, hn, h => by
    rw [List.nodup_cons] at hn
    have hx := h x List.mem_cons_self
    have ih := sub_length xs (ys.erase x) hn.2 fun y hy => (List.mem_erase_of_ne (fun e => hn.1 (by rw [← e]; exact hy))).2 (h y (List.mem_cons_of_mem _ hy))
    rw [List.length_erase_of_mem hx] at ih
    have : 0 < ys.length := List.length_pos_of_mem hx
    simp; omega
theorem ev_cong {p a b : Int} (h : redS p a = redS p b) : ∀ l, redS p (ev a l) = redS p (ev b l)
  | [] => rfl
  | c :: l => by rw [ev, ev]; exact red_add (red_mul (ev_cong h l) h) rfl
theorem evalG_cong {p a b : Int} (h : redS p a = redS p b) (l : List Int) : evalG p a l = evalG p b l := by rw [evalG_ev, evalG_ev, ev_cong h]
/-- A seed is new just if none ahead of it is the same. -/
theorem setL_iff {p : Int} {l ss : List Int} {k : Nat} (h : evalG p (ss.getD k 0) l = 0) : redS p (ss.getD k 0) ∈ setL p l ss k ↔ ∃ j, j < k ∧ redS p (ss.getD j 0) = redS p (ss.getD k 0) := by
  constructor
  · intro hm
    obtain ⟨j, hj, h1, _⟩ := setL_mem hm
    exact ⟨j, hj, h1.symm⟩
  · rintro ⟨j, hj, h1⟩
    rw [← h1]
    exact setL_has (by rw [evalG_cong h1]; exact h) hj
theorem ev_noughts {p r : Int} : ∀ {l : List Int}, (∀ a ∈ l, redS p a = 0) → redS p (ev r l) = 0
  | [], _ => redS_zero p
  | a :: l, h => by
    rw [ev, ← redS_add_left, ← redS_mul_left, ev_noughts (fun b hb => h b (List.mem_cons_of_mem _ hb)), Int.zero_mul, redS_zero, Int.zero_add]
    exact h a List.mem_cons_self
theorem setL_noughts {p : Int} {l : List Int} (h : ∀ a ∈ l, redS p a = 0) (ss : List Int) : ∀ k, setL p l ss k = setL p [] ss k
  | 0 => rfl
  | k + 1 => by
    have e1 : evalG p (ss.getD k 0) l = 0 := by rw [evalG_ev]; exact ev_noughts h
    have e2 : evalG p (ss.getD k 0) [] = 0 := rfl
    rw [setL, setL, setL_noughts h ss k, e1, e2]
theorem setL_few {p : Int} (hk : knownS p = true) {l : List Int} (h : ¬ ∀ a ∈ l, redS p a = 0) (ss : List Int) (k : Nat) : (setL p l ss k).length < l.length := by
  refine few_seeds hk l (setL p l ss k) (setL_nodup p l ss k) ?_ ?_ h
  · intro r hr
    obtain ⟨j, _, rfl, _⟩ := setL_mem hr
    exact ⟨redS_lo _ _, redS_hi _ hk⟩
  · intro r hr
    obtain ⟨j, _, rfl, h2⟩ := setL_mem hr
    rw [ev_cong (redS_redS p _), ← evalG_ev]; exact h2
theorem setL_all (p : Int) (l ss : List Int) (k : Nat) : (setL p l ss k).length ≤ (setL p [] ss k).length := by
  refine sub_length _ _ (setL_nodup p l ss k) fun x hx => ?_
  obtain ⟨j, hj, rfl, _⟩ := setL_mem hx
  exact setL_has rfl hj
def rootsS (p : Int) (l ss : List Int) : Int × Int :=
  if knownS p then (if l.length ≤ 65536 ∧ ss.length ≤ 65536 then (((setL p l ss ss.length).length : Int), 0) else (0, 1)) else (0, 2)
theorem lawU : Keyed Try.prog 37 := int_keyed Try.underlying37
theorem zeroI (w : World) : (zeroValue 3).run Try.prog w = .ok (.int .i64 0) w := by kernel_rfl
/-- What the map holds: the seeds of the set. -/
structure Met (D : DataW Unit) (L : List Int) : Prop where
  has : ∀ z, Maps.has D (.int .u64 z) = decide (z ∈ L)
  size : Maps.size D = L.length
theorem Met.put {D : DataW Unit} {L : List Int} (h : Met D L) (ht : Tidy D) (hm : IsMap D) (z : Int) (d : DataW Unit) : Met (D.put (.int .u64 z) d) (if z ∈ L then L else L ++ [z]) := by
  constructor
  · intro y
    by_cases e : y = z
    · subst e
      rw [has_put_same hm (by simp [WideAt.IsKeyLit])]
      symm
      rw [decide_eq_true_iff]
      split
      · assumption
      · simp
    · rw [has_put_other (by intro h1; injection h1 with _ h2; exact e h2), h.has]
      congr 1
      rw [eq_iff_iff]
      split
      · exact Iff.rfl
      · rw [List.mem_append, List.mem_singleton]
        exact ⟨fun h1 => .inl h1, fun h1 => h1.resolve_right e⟩
  · rw [size_put ht, h.has]
    by_cases hz : z ∈ L
    · rw [if_pos (by simpa using hz), if_pos hz]; exact h.size
    · rw [if_neg (by simpa using hz), if_neg hz, h.size]; simp
theorem met_nil : Met (.map []) [] := ⟨fun z => rfl, rfl⟩
set_option maxRecDepth 100000 in
set_option maxHeartbeats 2000000 in
theorem roots_calls (p : Int) (A C : Option Addr) (n ca m cc : Nat) (l ss : List Int) (w : World) (hn : l.length = n) (hm : ss.length = m) (hp : U64 p) (hr : Row w A (nums .u64 l)) (hl : n ≤ 9223372036854775807) (hw : ∀ a ∈ l, U64 a) (hrs : Row w C (nums .u64 ss)) (hls : m ≤ 9223372036854775807) (hws : ∀ a ∈ ss, U64 a) :
    Calls Try.prog 81 #[.int .u64 p, .slice A n ca, .slice C m cc] w fun e w' => e = .returned (.tuple #[.int .i64 (rootsS p l ss).1, .int .i64 (rootsS p l ss).2]) ∧ Below w.heap.size w w' := by
  have HP := Lib.hid hp
  have HN := Lib.hid hn
  have HM := Lib.hid hm
  have HR := Lib.hid hr
  have HW := Lib.hid hw
  have HRS := Lib.hid hrs
  have HWS := Lib.hid hws
  have HL := Lib.hid hl
  clear hp hr hw hrs hws
  have hmm := @run_makeMap Try.prog
  by_cases hk : knownS p = true
  case neg =>
    have HF : Hid (rootsS p l ss = (0, 2)) := Lib.hid (by rw [rootsS, if_neg hk])
    have hk2 : knownS p = false := by simpa using hk
    rw [HF.out]
    clear hk hn hm
    go_enter Try.func81, Try.ntmps81
    go_wp2_with (go_at_call 43; refine (known_calls _ _).mono ?_; rintro e w' ⟨rfl, rfl⟩)
    go_ret2
    exact ⟨rfl, Below.refl _ _⟩
  have hmax : max (n : Int) (m : Int) = ((max n m : Nat) : Int) := by omega
  by_cases hlen : n ≤ 65536 ∧ m ≤ 65536
  case neg =>
    have HF : Hid (rootsS p l ss = (0, 1)) := Lib.hid (by rw [rootsS, if_pos hk, if_neg (by rw [hn, hm]; exact hlen)])
    have f0 : decide (65536 < (max n m : Nat)) = true := by simp; omega
    have f1 : decide (65536 < ((max n m : Nat) : Int)) = true := by simp; omega
    rw [HF.out]
    clear hn hm hlen
    go_enter Try.func81, Try.ntmps81
    go_wp2_with (go_at_call 43; refine (known_calls _ _).mono ?_; rintro e w' ⟨rfl, rfl⟩)
    go_ret2
    exact ⟨rfl, Below.refl _ _⟩
  obtain ⟨hn6, hm6⟩ := hlen
  have HF : Hid (rootsS p l ss = (((setL p l ss m).length : Int), 0)) := Lib.hid (by rw [rootsS, if_pos hk, if_pos ⟨by rw [hn]; exact hn6, by rw [hm]; exact hm6⟩, hm])
  have HE : Hid (∀ r, evalS p r l = (evalG p r l, 0)) := Lib.hid fun r => evalS_ok hk (by rw [hn]; exact hn6)
  have f0 : decide (65536 < (max n m : Nat)) = false := by simp; omega
  have f1 : decide (65536 < ((max n m : Nat) : Int)) = false := by simp; omega
  rw [HF.out]
  clear hn hm
  go_enter Try.func81, Try.ntmps81
  go_wp2_with (go_at_call 43; refine (known_calls _ _).mono ?_; rintro e w' ⟨rfl, rfl⟩)
  have HM0 : Hid ((w'.alloc (.map #[] 0)).ownsMap Try.prog 37 (plainElem (H := Unit) Try.prog 3) w'.heap.size 0 (.map [])) := Lib.hid (World.ownsMap_made _ _ _ _)
  have HB0 : Hid (Below w'.heap.size w' (w'.alloc (.map #[] 0))) := Lib.hid ((Below.refl _ _).alloc (Nat.le_refl _) _)
  generalize (w'.alloc (.map #[] 0)) = w2 at *
  go_loopw [27] (fun q wr => ∃ (k : Nat) (D : DataW Unit), k ≤ m ∧ q = .int .i64 k ∧ Hid (wr.ownsMap Try.prog 37 (plainElem Try.prog 3) w'.heap.size k D) ∧ Hid (Met D (setL p l ss k)) ∧ Hid (Below w'.heap.size w' wr)) (fun q _ => m - (intOf q).toNat)
  case atStart => exact ⟨0, .map [], Nat.zero_le _, rfl, HM0, Lib.hid met_nil, HB0⟩
  case round =>
    obtain ⟨k, D, hkm, rfl, HMP, HMT, HBW⟩ := hrel
    by_cases hlt : k < m
    · obtain ⟨x, rfl⟩ := HRS.out.some_of (by intro h0; have h1 := nums_length .u64 ss; rw [h0, HM.out] at h1; simp at h1; omega)
      have hlts : k < ss.length := by have := HM.out; omega
      have hc := (HRS.out.below HBW.out).num hlts
      have HU : Hid (U64 ss[k]) := Lib.hid (HWS.out _ (List.getElem_mem hlts))
      have HG : Hid (ss.getD k 0 = ss[k]) := Lib.hid (by rw [List.getD_eq_getElem?_getD, List.getElem?_eq_getElem hlts]; rfl)
      have HRW := Lib.hid (HR.out.below HBW.out)
      generalize ss[k] = r at *
      go_wp2_with fail
      refine (eval_n p r A n ca l _ HN.out HP.out HU.out HRW.out HL.out HW.out).mono ?_
      rw [HE.out r]
      rintro e w3 ⟨rfl, hb3⟩
      have HB3 : Hid (Below w'.heap.size w' w3) := Lib.hid (HBW.out.trans (hb3.mono HBW.out.size))
      have HMP3 : Hid (w3.ownsMap Try.prog 37 (plainElem Try.prog 3) w'.heap.size k D) := Lib.hid (HMP.out.kept (row := none) ⟨hb3.os, hb3.tape, hb3.output, hb3.size, fun b hb _ => hb3.block b hb⟩ (by simp))
      clear hb3
      by_cases hz : evalG p r l = 0
      · rw [hz]
        have hkey : keyOf Try.prog 37 (.int .u64 (redS p r)) = some (.int .u64 (redS p r)) := keyOf_int_mk Try.underlying37 (by have := u64_redS p r; unfold U64 at this; simp [Lit.wf, IntKind.min, IntKind.max, IntKind.signed, IntKind.bits]; omega)
        have HNX : Hid (∀ d, Met (D.put (.int .u64 (redS p r)) d) (setL p l ss (k + 1))) := Lib.hid fun d => by
          have h1 := HMT.out.put (HMP3.out.tidy lawU) HMP3.out.isMap (redS p r) d
          by_cases hm : redS p r ∈ setL p l ss k
          · rw [if_pos hm] at h1
            rw [setL_in (by rw [HG.out]; exact hm)]; exact h1
          · rw [if_neg hm] at h1
            have h2 := setL_yes (p := p) (l := l) (ss := ss) (k := k) (by rw [HG.out]; exact hz) (by rw [HG.out]; exact hm)
            rw [HG.out] at h2
            rw [h2]; exact h1
        have hmp3 := HMP3.out
        go_wp2_with (first
          | (go_at_call 45; refine (reduce_calls p r _ HP.out HU.out).mono ?_; rintro e w5 ⟨rfl, rfl⟩)
          | (at_lookup; refine wpList_lookup_own_int _ rfl _ _ 95 rfl 37 3 .i64 lawU Try.underlying95 Try.underlying3 (zeroI _) w'.heap.size k _ rfl hmp3 _ _ rfl hkey ?_; intro c hat hwc)
          | (at_mapUpdate; refine wpList_mapUpdate_own _ rfl _ _ _ 95 rfl 37 3 lawU Try.underlying95 _ w'.heap.size k _ rfl hmp3 (by unfold maxLen; omega) _ _ _ rfl rfl hkey _ [] (plainElem_int Try.underlying3 (wrap64_wf _)) ?_; intro w4 hown4 hgrow4))
        go_roundw
        case rel => exact ⟨k + 1, _, by omega, by go_num, Lib.hid hown4, HNX.out _, Lib.hid (HB3.out.grown hgrow4 HB3.out.size (fun j hj => by cases hj; exact Nat.le_refl _))⟩
        case measure => simp [intOf]; omega
      · have t0 : (evalG p r l == 0) = false := by simpa using hz
        have HSN : Hid (setL p l ss (k + 1) = setL p l ss k) := Lib.hid (setL_no (by rw [HG.out]; exact hz))
        clear hz
        go_wp2
        go_roundw
        case rel => exact ⟨k + 1, D, by omega, by go_num, Lib.hid (HMP3.out.mono (Nat.le_succ k)), by rw [HSN.out]; exact HMT, HB3⟩
        case measure => simp [intOf]; omega
    · have hke : k = m := by omega
      subst hke
      have hmp := HMP.out
      go_wp2_with (at_len; refine wpList_len_own _ rfl _ 95 rfl 37 3 Try.underlying95 _ w'.heap.size k D rfl hmp ?_)
      go_ret2
      exact ⟨by rw [HMT.out.size]; rfl, HBW.out⟩
end Go.Proofs.Ytkofhmiakfmcaaa.P
