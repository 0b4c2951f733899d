/- The contract of package power's All. Conditions: words of their kinds; the slice reads as a list. -/
import Derived.Test.YtkofhmiakfmcaaaAllF
namespace Go.Proofs.Ytkofhmiakfmcaaa.P
open Go.RowKit Go.Shelf
set_option linter.unusedVariables false
set_option linter.unusedSimpArgs false
attribute [local go_sem] Oper.semAt_some
theorem own_far {w : World} {B : Nat} {E : TypeId} {s g n c : Nat} {cs : List Value} (h : P.Own w B E s (some ⟨g, 0, none⟩) n c cs) {a : Addr} (ha : a.block ≠ g) (v : Value) : P.Own (w.setCell a v) B E s (some ⟨g, 0, none⟩) n c cs := by
  rcases h.2 with ⟨hv, _⟩ | ⟨g', cap, cur, hv, hb, hh, r⟩
  · cases hv
  · cases hv
    refine ⟨h.1, .inr ⟨g, c, cur, rfl, hb, ?_, r⟩⟩
    rw [Below.heap_setCell _ _ _ _ (fun e => ha e.symm)]; exact hh
theorem own_kept {w w' : World} {B : Nat} {E : TypeId} {s : Nat} {A : Option Addr} {n c : Nat} {cs : List Value} {row : Option Nat} (h : P.Own w B E s A n c cs) (hg : w.grownBy w' row)
    (hrow : ∀ r, row = some r → ∃ o : Obj, w.heap[r]? = some o ∧ o.isCells = false) : P.Own w' B E s A n c cs := by
  refine World.ownsRow.kept h hg ?_
  rcases h.2 with ⟨hv, _⟩ | ⟨g, cap, cur, hv, _, hh, _⟩
  · rw [hv]; exact .inl rfl
  · rw [hv]
    refine .inr fun e => ?_
    obtain ⟨o, ho, hc⟩ := hrow g e.symm
    rw [hh] at ho; cases ho; cases hc
set_option maxRecDepth 100000 in
set_option maxHeartbeats 2000000 in
set_option pp.deepTerms true in
set_option pp.maxSteps 1000000 in
theorem all_calls (p : Int) (A : Option Addr) (c : Nat) (l : List Int) (w : World) (hp : U64 p) (hr : Row w A (nums .u64 l)) (hl : l.length ≤ 9223372036854775807) (hw : ∀ a ∈ l, U64 a) :
    Calls Try.prog 63 #[.int .u64 p, .slice A l.length c] w fun e w' => ∃ B b,
      e = .returned (.tuple #[.slice B (undoS p l).1.length b, .int .i64 (undoS p l).2]) ∧ Own w' w.heap.size 37 1 B (undoS p l).1.length b (nums .u64 (undoS p l).1) ∧ Below w.heap.size w w' := by
  have HP := Lib.hid hp
  have HR := Lib.hid hr
  have HW := Lib.hid hw
  clear hp hr hw
  have HB1 : Hid (Below w.heap.size w (w.alloc (.cells #[.int .u64 p] 37))) := Lib.hid ((Below.refl _ w).alloc (Nat.le_refl _) _)
  by_cases hk : knownS p = true
  case neg =>
    have HF : Hid (undoS p l = ([], 2)) := Lib.hid (by rw [undoS, if_neg hk])
    have hk2 : knownS p = false := by simpa using hk
    clear hk
    rw [HF.out]
    go_enter Try.func63, Try.ntmps63
    go_wp2_with (go_at_call 43; refine (known_calls _ _).mono ?_; rintro e w' ⟨rfl, rfl⟩)
    go_ret2
    exact ⟨none, 0, rfl, Own.nil _ _ _ _, HB1.out⟩
  by_cases hlen : l.length ≤ 65536
  case neg =>
    have HF : Hid (undoS p l = ([], 1)) := Lib.hid (by rw [undoS, if_pos hk, if_neg hlen])
    have f1 : decide (65536 < (l.length : Int)) = true := by simp; omega
    rw [HF.out]
    go_enter Try.func63, Try.ntmps63
    go_wp2_with (go_at_call 43; refine (known_calls _ _).mono ?_; rintro e w' ⟨rfl, rfl⟩)
    go_ret2
    exact ⟨none, 0, rfl, Own.nil _ _ _ _, HB1.out⟩
  have f1 : decide (65536 < (l.length : Int)) = false := by simp; omega
  have HF1 : Hid ((∀ a ∈ l, redS p a ≠ 0) → undoS p l = (l.map fun a => powS p a (p - 2).toNat, 0)) := Lib.hid fun h => by rw [undoS, if_pos hk, if_pos hlen, if_pos h]
  have HF2 : Hid (¬ (∀ a ∈ l, redS p a ≠ 0) → undoS p l = ([], 9)) := Lib.hid fun h => by rw [undoS, if_pos hk, if_pos hlen, if_neg h]
  have hmk := make_u64 l.length (by omega) (w.alloc (.cells #[.int .u64 p] 37))
  have HK := Lib.hid hk
  refine (callsIn_wide (n := 6)).1 ?_
  refine callsIn_of_wp_marks Try.func63 rfl trivial ?_ rfl
  simp only [Try.ntmps63, List.size_toArray, List.length_cons, List.length_nil, Nat.reduceAdd, Nat.reduceSub, Array.replicate_succ, Array.replicate_zero, List.push_toArray, List.append_toArray, List.nil_append, List.cons_append]
  refine wpIn_wide.2 ?_
  go_wp2_with (go_at_call 43; refine (known_calls _ _).mono ?_; rintro e w' ⟨rfl, rfl⟩)
  have hO0 := own_made (w.alloc (.cells #[.int .u64 p] 37)) w.heap.size 37 (.int .u64 0) l.length (by simp) (by omega)
  rw [nums_replicate, ← fillL_zero (preS p l), World.size_alloc] at hO0
  have hO1 := hO0.grown ((Below.refl _ _).alloc (Nat.le_refl _) (.cells #[.slice (some ⟨w.heap.size + 1, 0, none⟩) l.length l.length] 47))
  have hB1 : Below w.heap.size w (((w.alloc (.cells #[.int .u64 p] 37)).alloc (.cells (madeCells #[.int .u64 0] l.length) 37)).alloc (.cells #[.slice (some ⟨w.heap.size + 1, 0, none⟩) l.length l.length] 47)) := (((Below.refl _ w).alloc (Nat.le_refl _) _).alloc (by simp) _).alloc (by simp; omega) _
  have bP := (((Boxed.new w 37 (.int .u64 p)).alloc (.cells (madeCells #[.int .u64 0] l.length) 37)).alloc (.cells #[.slice (some ⟨w.heap.size + 1, 0, none⟩) l.length l.length] 47)).cell
  have bS := (Boxed.new ((w.alloc (.cells #[.int .u64 p] 37)).alloc (.cells (madeCells #[.int .u64 0] l.length) 37)) 47 (.slice (some ⟨w.heap.size + 1, 0, none⟩) l.length l.length)).cell
  have hsz : (((w.alloc (.cells #[.int .u64 p] 37)).alloc (.cells (madeCells #[.int .u64 0] l.length) 37)).alloc (.cells #[.slice (some ⟨w.heap.size + 1, 0, none⟩) l.length l.length] 47)).heap.size = w.heap.size + 3 := by simp
  simp only [World.size_alloc] at bS
  generalize hW0 : (((w.alloc (.cells #[.int .u64 p] 37)).alloc (.cells (madeCells #[.int .u64 0] l.length) 37)).alloc (.cells #[.slice (some ⟨w.heap.size + 1, 0, none⟩) l.length l.length] 47)) = W0 at *
  have HO := Lib.hid hO1
  have HB := Lib.hid hB1
  have HS := Lib.hid hsz
  clear hO0 hO1 hB1 hsz hmk hW0
  go_loopw [7, 27] (fun x q wr => ∃ k : Nat, k ≤ l.length ∧ q = .int .i64 k ∧ x = .int .u64 (preS p l k) ∧ Hid (Own wr w.heap.size 37 1 (some ⟨w.heap.size + 1, 0, none⟩) l.length l.length (nums .u64 (fillL (preS p l) l.length k))) ∧ Hid (Below w.heap.size w wr) ∧ Hid (wr.heap.size = w.heap.size + 3) ∧ wr.cell? ⟨w.heap.size, 0, none⟩ = some (.int .u64 p) ∧ wr.cell? ⟨w.heap.size + 1 + 1, 0, none⟩ = some (.slice (some ⟨w.heap.size + 1, 0, none⟩) l.length l.length)) (fun _ q _ => l.length - (intOf q).toNat)
  case atStart => exact ⟨0, Nat.zero_le _, rfl, rfl, HO, HB, HS, bP, bS⟩
  case round =>
    obtain ⟨k, hkn, rfl, rfl, HO2, HB2, HS2, hcp, hcs⟩ := hrel
    by_cases hlt : k < l.length
    · obtain ⟨x, rfl⟩ := HR.out.some_of (by intro h0; have := nums_length .u64 l; rw [h0] at this; simp at this; omega)
      have hcx := (HR.out.below HB2.out).num hlt
      have HU : Hid (U64 l[k]) := Lib.hid (HW.out _ (List.getElem_mem hlt))
      have HNX : Hid (mulS p (preS p l k) l[k] = preS p l (k + 1)) := Lib.hid (by rw [preS, List.getD_eq_getElem?_getD, List.getElem?_eq_getElem hlt]; rfl)
      have hc : wr.cell? ⟨w.heap.size + 1, k, none⟩ = some (.int .u64 ((fillL (preS p l) l.length k)[k]'(by rw [fillL_length]; exact hlt))) := by
        rw [HO2.out.cellAt k hlt]; exact nums_get .u64 _ k (by rw [fillL_length]; exact hlt)
      have hf : wr.frozen? ⟨w.heap.size + 1, k, none⟩ = false := HO2.out.frozenAt k
      have HST : Hid (∀ n2, Own ((wr.drewN n2).setCell ⟨w.heap.size + 1, k, none⟩ (.int .u64 (preS p l k))) w.heap.size 37 1 (some ⟨w.heap.size + 1, 0, none⟩) l.length l.length (nums .u64 (fillL (preS p l) l.length (k + 1)))) := Lib.hid fun n2 => by
        have h1 := (HO2.out.drewN n2).stored k (.int .u64 (preS p l k))
        rw [nums_set, fillL_set _ _ _ hlt] at h1
        exact h1
      generalize l[k] = d at *
      generalize (fillL (preS p l) l.length k)[k]'(by rw [fillL_length]; exact hlt) = old at *
      have hmx : Try.prog.follows .mixedOrders = true := by kernel_rfl
      go_wp2
      refine region_marks2 (k := 10) (S := (fun w' => w'.cell? ⟨w.heap.size, 0, none⟩ = some (.int .u64 p) ∧ w'.cell? ⟨w.heap.size + 1 + 1, 0, none⟩ = some (.slice (some ⟨w.heap.size + 1, 0, none⟩) l.length l.length))) (T := fun i => decide (i < 8)) hmx rfl ⟨hcp, hcs⟩ (fun hS => ?_)
      refine wpAnyT_take2 (i := 0) (v := ?v0) rfl (by kernel_rfl) (by kernel_rfl) (by kernel_rfl) (by kernel_rfl) (by kernel_rfl) (fun _ _ _ h => h) hS (Or.inl ⟨by rfl, ?hy0⟩) ?rest0
      case hy0 => (intro w' hSw; (try dsimp only at hSw); go_simp; (try with_reducible rfl))
      (try simp only [Act.put, List.setIfInBounds_toArray, List.set_cons_zero, List.set_cons_succ])
      refine wpAnyT_take2 (i := 1) (v := ?v1) rfl (by kernel_rfl) (by kernel_rfl) (by kernel_rfl) (by kernel_rfl) (by kernel_rfl) (fun _ _ _ h => h) hS (Or.inl ⟨by rfl, ?hy1⟩) ?rest1
      case hy1 => (intro w' hSw; (try dsimp only at hSw); go_simp; (try with_reducible rfl))
      (try simp only [Act.put, List.setIfInBounds_toArray, List.set_cons_zero, List.set_cons_succ])
      refine wpAnyT_take2 (i := 2) (v := ?v2) rfl (by kernel_rfl) (by kernel_rfl) (by kernel_rfl) (by kernel_rfl) (by kernel_rfl) (fun _ _ _ h => h) hS (Or.inl ⟨by rfl, ?hy2⟩) ?rest2
      case hy2 => (intro w' hSw; (try dsimp only at hSw); go_simp; (try with_reducible rfl))
      (try simp only [Act.put, List.setIfInBounds_toArray, List.set_cons_zero, List.set_cons_succ])
      refine wpAnyT_take2 (i := 3) (v := ?v3) rfl (by kernel_rfl) (by kernel_rfl) (by kernel_rfl) (by kernel_rfl) (by kernel_rfl) (fun _ _ _ h => h) hS (Or.inl ⟨by rfl, ?hy3⟩) ?rest3
      case hy3 => (intro w' hSw; (try dsimp only at hSw); go_simp; (try with_reducible rfl))
      (try simp only [Act.put, List.setIfInBounds_toArray, List.set_cons_zero, List.set_cons_succ])
      refine wpAnyT_take2 (i := 4) (v := ?v4) rfl (by kernel_rfl) (by kernel_rfl) (by kernel_rfl) (by kernel_rfl) (by kernel_rfl) (fun _ _ _ h => h) hS (Or.inl ⟨by rfl, ?hy4⟩) ?rest4
      case hy4 => (intro w' hSw; (try dsimp only at hSw); go_simp; (try with_reducible rfl))
      (try simp only [Act.put, List.setIfInBounds_toArray, List.set_cons_zero, List.set_cons_succ])
      refine wpAnyT_take2 (i := 5) (v := ?v5) rfl (by kernel_rfl) (by kernel_rfl) (by kernel_rfl) (by kernel_rfl) (by kernel_rfl) (fun _ _ _ h => h) hS (Or.inl ⟨by rfl, ?hy5⟩) ?rest5
      case hy5 => (intro w' hSw; (try dsimp only at hSw); go_simp; (try with_reducible rfl))
      (try simp only [Act.put, List.setIfInBounds_toArray, List.set_cons_zero, List.set_cons_succ])
      refine wpAnyT_one (i := 6) (by kernel_rfl) rfl (fun K hK => ?_)
      go_simp
      refine (mul_calls _ _ _ _ HP.out (u64_preS _ _ _) HU.out).mono ?_
      rintro e w2 ⟨rfl, ⟨n2, rfl⟩⟩
      refine hK _ _ (fun _ => hS) ?_
      clear hK K
      (try simp only [Act.put, List.setIfInBounds_toArray, List.set_cons_zero, List.set_cons_succ])
      refine wpAnyT_one (i := 7) (by kernel_rfl) rfl (fun K hK => ?_)
      go_simp
      refine hK _ _ (fun _ => hS) ?_
      clear hK K
      (try simp only [Act.put, List.setIfInBounds_toArray, List.set_cons_zero, List.set_cons_succ])
      refine wpAnyT_one (i := 8) (by kernel_rfl) rfl (fun K hK => ?_)
      go_simp
      refine hK _ _ (fun h => by cases h) ?_
      clear hK K
      (try simp only [Act.put, List.setIfInBounds_toArray, List.set_cons_zero, List.set_cons_succ])
      refine wpAnyT_one (i := 9) (by kernel_rfl) rfl (fun K hK => ?_)
      go_simp
      refine hK _ _ (fun h => by cases h) ?_
      clear hK K
      (try simp only [Act.put, List.setIfInBounds_toArray, List.set_cons_zero, List.set_cons_succ])
      refine wpAnyT_done (by kernel_rfl) ?_ _
      refine NoPanic.normal ?_
      go_wp2
      go_roundw
      case rel => exact ⟨k + 1, by omega, by go_num, by rw [HNX.out], HST.out _, Lib.hid ((below_drewN HB2.out (1 + n2)).setCell (by simp) _), Lib.hid (by rw [World.size_setCell]; exact HS2.out),
        by rw [World.cell?_setCell_far _ _ _ _ (by simp)]; exact hcp, by rw [World.cell?_setCell_far _ _ _ _ (by simp)]; exact hcs⟩
      case measure => simp [intOf]; omega
    · have hke : k = l.length := by omega
      subst hke
      by_cases hz : ∀ a ∈ l, redS p a ≠ 0
      case neg =>
        have HI : Hid (invS p (preS p l l.length) = (0, 9)) := Lib.hid (by rw [invS, if_pos HK.out, if_pos (all_not hz)])
        have HF : Hid (undoS p l = ([], 9)) := Lib.hid (HF2.out hz)
        clear hz
        go_wp2_with fail
        refine (inv_calls _ _ _ HP.out (u64_preS _ _ _)).mono ?_
        rw [HI.out]
        rintro e w3 ⟨rfl, ⟨q, rfl⟩⟩
        have HBQ : Hid (Below w.heap.size w (wr.drewN q)) := Lib.hid (below_drewN HB2.out q)
        have bN := (Boxed.new (wr.drewN q) 37 (.int .u64 0)).cell
        have fN := (Boxed.new (wr.drewN q) 37 (.int .u64 0)).frozen
        generalize wr.drewN q = wq at *
        go_wp2
        refine ⟨_, results_tmp2 rfl _ _ _, ?_⟩
        refine ⟨none, 0, by rw [HF.out]; rfl, by rw [HF.out]; exact Own.nil _ _ _ _, ?_⟩
        have := HBQ.out.size
        first
          | exact HBQ.out.alloc this _
          | exact (HBQ.out.alloc this _).setCell this _
      have HI : Hid (invS p (preS p l l.length) = (invP p (preS p l l.length), 0)) := Lib.hid (by rw [invS, if_pos HK.out, if_neg (preS_ne HK.out (all_ne hz))]; rfl)
      have HF : Hid (undoS p l = (l.map fun a => powS p a (p - 2).toNat, 0)) := Lib.hid (HF1.out hz)
      have HZ := Lib.hid hz
      clear hz
      go_wp2_with fail
      refine (inv_calls _ _ _ HP.out (u64_preS _ _ _)).mono ?_
      rw [HI.out]
      rintro e w3 ⟨rfl, ⟨q, rfl⟩⟩
      have HBQ : Hid (Below w.heap.size w (wr.drewN q)) := Lib.hid (below_drewN HB2.out q)
      have HSQ : Hid ((wr.drewN q).heap.size = w.heap.size + 3) := HS2
      have HOQ : Hid (Own (wr.drewN q) w.heap.size 37 1 (some ⟨w.heap.size + 1, 0, none⟩) l.length l.length (nums .u64 (fillL (preS p l) l.length l.length))) := Lib.hid (HO2.out.drewN q)
      have hcpq : (wr.drewN q).cell? ⟨w.heap.size, 0, none⟩ = some (.int .u64 p) := hcp
      have hcsq : (wr.drewN q).cell? ⟨w.heap.size + 1 + 1, 0, none⟩ = some (.slice (some ⟨w.heap.size + 1, 0, none⟩) l.length l.length) := hcs
      have bN := (Boxed.new (wr.drewN q) 37 (.int .u64 0)).cell
      have fN := (Boxed.new (wr.drewN q) 37 (.int .u64 0)).frozen
      clear hcp hcs HO2 HB2 HS2
      generalize wr.drewN q = wq at *
      go_wp2
      have hA : ∀ x, A = some x → l ≠ [] → x.block < w.heap.size := fun x hx hne => by
        subst hx
        have h0 : 0 < l.length := List.length_pos_iff.2 hne
        have := World.block_lt_of_cell? w _ (HR.out.num h0)
        unfold Addr.add at this
        split at this <;> exact this
      have bB := (Boxed.new (wq.alloc (.cells #[.int .u64 (invP p (preS p l l.length))] 37)) 47 (.slice A l.length c)).cell
      have bI := (Boxed.new wq 37 (.int .u64 (invP p (preS p l l.length)))).alloc (.cells #[.slice A l.length c] 47)
      have hcp2 := hcpq
      have hqs := HSQ.out
      have hzp : w.heap.size < wq.heap.size := by omega
      have hzs : w.heap.size + 1 + 1 < wq.heap.size := by omega
      have hqp : ((wq.alloc (.cells #[.int .u64 (invP p (preS p l l.length))] 37)).alloc (.cells #[.slice A l.length c] 47)).cell? ⟨w.heap.size, 0, none⟩ = some (.int .u64 p) := by
        rw [World.cell?_alloc_old _ _ _ (by simp; omega), World.cell?_alloc_old _ _ _ (Nat.ne_of_lt hzp)]; exact hcpq
      have hqc : ((wq.alloc (.cells #[.int .u64 (invP p (preS p l l.length))] 37)).alloc (.cells #[.slice A l.length c] 47)).cell? ⟨w.heap.size + 1 + 1, 0, none⟩ = some (.slice (some ⟨w.heap.size + 1, 0, none⟩) l.length l.length) := by
        rw [World.cell?_alloc_old _ _ _ (by simp; omega), World.cell?_alloc_old _ _ _ (Nat.ne_of_lt hzs)]; exact hcsq
      have hOQ := (HOQ.out.grown ((Below.refl _ _).alloc (Nat.le_refl _) (.cells #[.int .u64 (invP p (preS p l l.length))] 37))).grown ((Below.refl _ _).alloc (Nat.le_refl _) (.cells #[.slice A l.length c] 47))
      have hB0 : Below w.heap.size w ((wq.alloc (.cells #[.int .u64 (invP p (preS p l l.length))] 37)).alloc (.cells #[.slice A l.length c] 47)) := (HBQ.out.alloc (by omega) _).alloc (by simp; omega) _
      have hRN := HR.out.below hB0
      simp only [World.size_alloc] at bB
      clear hqs
      refine (wpIn_wide (n := 6)).1 ?_
      refine wpIn_rangeFunc_ownG rfl (by omega) (gf := 107) (lb := #[.pointer (some ⟨wq.heap.size + 1, 0, none⟩)]) rfl trivial (enters_of Try.func107 (by kernel_rfl) rfl)
        (back_stops Fence.wide (6 - 1) trivial rfl (by omega) (wq.heap.size + 1) w.heap.size c A l _ (by simp) (by simp; omega) hl bB hA hRN HW.out) (fun h k => K2.trans h k) (k2_b (by simp; omega) (by simp)) (Below.refl _ _) (fun _ => rfl)
        (fun pre W => ((W.cell? ⟨wq.heap.size, 0, none⟩ = some (.int .u64 (foldA p l (pre.map BW.val)).2) ∧ W.frozen? ⟨wq.heap.size, 0, none⟩ = false ∧ W.cell? ⟨w.heap.size, 0, none⟩ = some (.int .u64 p) ∧ W.cell? ⟨w.heap.size + 1 + 1, 0, none⟩ = some (.slice (some ⟨w.heap.size + 1, 0, none⟩) l.length l.length)) ∧ P.Own W w.heap.size 37 1 (some ⟨w.heap.size + 1, 0, none⟩) l.length l.length (nums .u64 (foldA p l (pre.map BW.val)).1)) ∧ Below w.heap.size w W)
        (fun _ _ _ => False)
        (OwnFrom.and (OwnFrom.and (Own.from (fun s A B row hs hg hr => ⟨cell_kept hs.1 hg hr, (frozen_kept hs.1 hg hr).trans hs.2.1, cell_kept hs.2.2.1 hg hr, cell_kept hs.2.2.2 hg hr⟩) _) (fun s A B row hs hg hr => own_kept hs hg (fun r e => (hr r e).2))) (ownFrom_below (Nat.le_refl _) (by simp; omega)))
        (fun _ _ _ _ _ hs _ _ => hs)
        ⟨⟨⟨bI.cell, bI.frozen, hqp, hqc⟩, hOQ⟩, hB0⟩
        (fun x => { tmps := #[.int .u64 p, .slice A l.length c, .pointer (some ⟨w.heap.size, 0, none⟩), undef, .slice none 0 0, .int .i64 0, .pointer (some ⟨w.heap.size + 1 + 1, 0, none⟩), .int .u64 (preS p l l.length), u8, u9, .pointer (some ⟨wq.heap.size, 0, none⟩), .int .i64 0, .int .i64 (x.i : Int), .int .u64 x.u, .bool false, .int .u64 p, .bool true, .bool false, .bool false, .slice A l.length c, .int .i64 l.length, .bool false, .slice A l.length c, .int .i64 l.length, .slice (some ⟨w.heap.size + 1, 0, none⟩) l.length l.length, .slice A l.length c, .int .i64 l.length, .int .i64 l.length, .bool false, u29, u30, u31, u32, u33, u34, u35, u36, u37, u38, u39, u40, .tuple #[.int .u64 (invP p (preS p l l.length)), .int .i64 0], .int .u64 p, .int .u64 (preS p l l.length), .tuple #[.int .u64 (invP p (preS p l l.length)), .int .i64 0], .int .u64 (invP p (preS p l l.length)), .int .i64 0, .int .i64 0, .bool false, undef, .slice A l.length c, .func (.func 107) #[] #[.pointer (some ⟨wq.heap.size + 1, 0, none⟩)], .int .i64 (x.i : Int), .int .u64 x.u, undef, undef, undef, undef, undef, undef, undef, undef, undef, undef, undef, undef, undef, undef, undef], defers := [] }) ?assign ?body ?done ?stop
      case assign =>
        intro li x W K hK
        gi_wp2
        exact hK
      case body =>
        rintro li pre ⟨xi, xu, hxi, hxu⟩ W ⟨⟨⟨hc, hf, hcp, hcs⟩, hO⟩, hB⟩ hpre
        have HXU := Lib.hid hxu
        have HBU := Lib.hid (foldA_u64 p l (pre.map BW.val))
        have hLn := foldA_len p l (pre.map BW.val)
        have HVU : Hid (U64 ((foldA p l (pre.map BW.val)).1.getD xi 0)) := Lib.hid (by
          rw [List.getD_eq_getElem?_getD, List.getElem?_eq_getElem (by rw [hLn]; exact hxi)]
          exact foldA_u64s p l _ _ (List.getElem_mem _))
        have hcx : W.cell? ⟨w.heap.size + 1, xi, none⟩ = some (.int .u64 ((foldA p l (pre.map BW.val)).1.getD xi 0)) := by
          have h1 : xi < (foldA p l (pre.map BW.val)).1.length := by rw [hLn]; exact hxi
          rw [hO.cellAt xi hxi, nums_get .u64 _ xi h1, List.getD_eq_getElem?_getD, List.getElem?_eq_getElem h1]; rfl
        have hfx : W.frozen? ⟨w.heap.size + 1, xi, none⟩ = false := hO.frozenAt xi
        have HE : Hid (foldA p l ((pre ++ [BW.mk xi xu hxi hxu]).map BW.val) = ((foldA p l (pre.map BW.val)).1.set xi (mulS p ((foldA p l (pre.map BW.val)).1.getD xi 0) (foldA p l (pre.map BW.val)).2), mulS p (foldA p l (pre.map BW.val)).2 xu)) := Lib.hid (by
          rw [List.map_append, List.map_singleton, foldA_snoc]; rfl)
        have HOS : Hid (∀ q v, P.Own ((W.drewN q).setCell ⟨w.heap.size + 1, xi, none⟩ (.int .u64 v)) w.heap.size 37 1 (some ⟨w.heap.size + 1, 0, none⟩) l.length l.length (nums .u64 ((foldA p l (pre.map BW.val)).1.set xi v))) := Lib.hid fun q v => by
          have h1 := (hO.drewN q).stored xi (.int .u64 v)
          rw [nums_set] at h1
          exact h1
        generalize (foldA p l (pre.map BW.val)).1.getD xi 0 = av at *
        generalize (foldA p l (pre.map BW.val)).1 = L at *
        generalize (foldA p l (pre.map BW.val)).2 = bv at *
        have hmx : Try.prog.follows .mixedOrders = true := by kernel_rfl
        have HBH := Lib.hid hB
        have hxl : (xi : Int) < (l.length : Int) := by omega
        clear hB hpre hA bB bI hB0 hRN HW HR HF HF1 HF2 hlen HZ hO hOQ hqp hqc hcsq hcpq bN fN
        gi_wp2
        refine region_round (k := 16) (S := (fun w' => w'.cell? ⟨w.heap.size, 0, none⟩ = some (.int .u64 p) ∧ w'.cell? ⟨w.heap.size + 1 + 1, 0, none⟩ = some (.slice (some ⟨w.heap.size + 1, 0, none⟩) l.length l.length) ∧ w'.cell? ⟨w.heap.size + 1, xi, none⟩ = some (.int .u64 av) ∧ w'.cell? ⟨wq.heap.size, 0, none⟩ = some (.int .u64 bv))) (T := fun i => decide (i < 14)) hmx (by kernel_rfl) rfl ⟨hcp, hcs, hcx, hc⟩ (fun hS => ?_)
        refine wpAnyT_take2 (i := 0) (v := ?vb0) rfl (by kernel_rfl) (by kernel_rfl) (by kernel_rfl) (by kernel_rfl) (by kernel_rfl) (fun _ _ _ h => h) hS (Or.inl ⟨by rfl, ?hyb0⟩) ?restb0
        case hyb0 => (intro w' hSw; (try dsimp only at hSw); go_simp; (try with_reducible rfl))
        (try simp only [Act.put, List.setIfInBounds_toArray, List.set_cons_zero, List.set_cons_succ])
        refine wpAnyT_take2 (i := 1) (v := ?vb1) rfl (by kernel_rfl) (by kernel_rfl) (by kernel_rfl) (by kernel_rfl) (by kernel_rfl) (fun _ _ _ h => h) hS (Or.inl ⟨by rfl, ?hyb1⟩) ?restb1
        case hyb1 => (intro w' hSw; (try dsimp only at hSw); go_simp; (try with_reducible rfl))
        (try simp only [Act.put, List.setIfInBounds_toArray, List.set_cons_zero, List.set_cons_succ])
        refine wpAnyT_take2 (i := 2) (v := ?vb2) rfl (by kernel_rfl) (by kernel_rfl) (by kernel_rfl) (by kernel_rfl) (by kernel_rfl) (fun _ _ _ h => h) hS (Or.inl ⟨by rfl, ?hyb2⟩) ?restb2
        case hyb2 => (intro w' hSw; (try dsimp only at hSw); go_simp; (try with_reducible rfl))
        (try simp only [Act.put, List.setIfInBounds_toArray, List.set_cons_zero, List.set_cons_succ])
        refine wpAnyT_take2 (i := 3) (v := ?vb3) rfl (by kernel_rfl) (by kernel_rfl) (by kernel_rfl) (by kernel_rfl) (by kernel_rfl) (fun _ _ _ h => h) hS (Or.inl ⟨by rfl, ?hyb3⟩) ?restb3
        case hyb3 => (intro w' hSw; (try dsimp only at hSw); go_simp; (try with_reducible rfl))
        (try simp only [Act.put, List.setIfInBounds_toArray, List.set_cons_zero, List.set_cons_succ])
        refine wpAnyT_take2 (i := 4) (v := ?vb4) rfl (by kernel_rfl) (by kernel_rfl) (by kernel_rfl) (by kernel_rfl) (by kernel_rfl) (fun _ _ _ h => h) hS (Or.inl ⟨by rfl, ?hyb4⟩) ?restb4
        case hyb4 => (intro w' hSw; (try dsimp only at hSw); go_simp; (try with_reducible rfl))
        (try simp only [Act.put, List.setIfInBounds_toArray, List.set_cons_zero, List.set_cons_succ])
        refine wpAnyT_take2 (i := 5) (v := ?vb5) rfl (by kernel_rfl) (by kernel_rfl) (by kernel_rfl) (by kernel_rfl) (by kernel_rfl) (fun _ _ _ h => h) hS (Or.inl ⟨by rfl, ?hyb5⟩) ?restb5
        case hyb5 => (intro w' hSw; (try dsimp only at hSw); go_simp; (try with_reducible rfl))
        (try simp only [Act.put, List.setIfInBounds_toArray, List.set_cons_zero, List.set_cons_succ])
        refine wpAnyT_take2 (i := 6) (v := ?vb6) rfl (by kernel_rfl) (by kernel_rfl) (by kernel_rfl) (by kernel_rfl) (by kernel_rfl) (fun _ _ _ h => h) hS (Or.inl ⟨by rfl, ?hyb6⟩) ?restb6
        case hyb6 => (intro w' hSw; (try dsimp only at hSw); go_simp; (try with_reducible rfl))
        (try simp only [Act.put, List.setIfInBounds_toArray, List.set_cons_zero, List.set_cons_succ])
        refine wpAnyT_take2 (i := 7) (v := ?vb7) rfl (by kernel_rfl) (by kernel_rfl) (by kernel_rfl) (by kernel_rfl) (by kernel_rfl) (fun _ _ _ h => h) hS (Or.inl ⟨by rfl, ?hyb7⟩) ?restb7
        case hyb7 => (intro w' hSw; (try dsimp only at hSw); go_simp; (try with_reducible rfl))
        (try simp only [Act.put, List.setIfInBounds_toArray, List.set_cons_zero, List.set_cons_succ])
        refine wpAnyT_take2 (i := 9) (v := ?vb8) rfl (by kernel_rfl) (by kernel_rfl) (by kernel_rfl) (by kernel_rfl) (by kernel_rfl) (fun _ _ _ h => h) hS (Or.inl ⟨by rfl, ?hyb8⟩) ?restb8
        case hyb8 => (intro w' hSw; (try dsimp only at hSw); go_simp; (try with_reducible rfl))
        (try simp only [Act.put, List.setIfInBounds_toArray, List.set_cons_zero, List.set_cons_succ])
        refine wpAnyT_take2 (i := 10) (v := ?vb9) rfl (by kernel_rfl) (by kernel_rfl) (by kernel_rfl) (by kernel_rfl) (by kernel_rfl) (fun _ _ _ h => h) hS (Or.inl ⟨by rfl, ?hyb9⟩) ?restb9
        case hyb9 => (intro w' hSw; (try dsimp only at hSw); go_simp; (try with_reducible rfl))
        (try simp only [Act.put, List.setIfInBounds_toArray, List.set_cons_zero, List.set_cons_succ])
        refine wpAnyT_take2 (i := 11) (v := ?vb10) rfl (by kernel_rfl) (by kernel_rfl) (by kernel_rfl) (by kernel_rfl) (by kernel_rfl) (fun _ _ _ h => h) hS (Or.inl ⟨by rfl, ?hyb10⟩) ?restb10
        case hyb10 => (intro w' hSw; (try dsimp only at hSw); go_simp; (try with_reducible rfl))
        (try simp only [Act.put, List.setIfInBounds_toArray, List.set_cons_zero, List.set_cons_succ])
        refine wpAnyT_one (i := 8) (by kernel_rfl) rfl (fun K hK => ?_)
        go_simp
        refine (mul_calls _ _ _ _ HP.out HVU.out HBU.out).mono ?_
        rintro e w' ⟨rfl, ⟨q1, rfl⟩⟩
        refine hK _ _ (fun _ => hS) ?_
        clear hK K
        (try simp only [Act.put, List.setIfInBounds_toArray, List.set_cons_zero, List.set_cons_succ])
        refine wpAnyT_one (i := 12) (by kernel_rfl) rfl (fun K hK => ?_)
        go_simp
        refine (mul_calls _ _ _ _ HP.out HBU.out HXU.out).mono ?_
        rintro e w' ⟨rfl, ⟨q2, rfl⟩⟩
        refine hK _ _ (fun _ => hS) ?_
        clear hK K
        (try simp only [Act.put, List.setIfInBounds_toArray, List.set_cons_zero, List.set_cons_succ])
        refine wpAnyT_one (i := 13) (by kernel_rfl) rfl (fun K hK => ?_)
        go_simp
        refine hK _ _ (fun _ => hS) ?_
        clear hK K
        (try simp only [Act.put, List.setIfInBounds_toArray, List.set_cons_zero, List.set_cons_succ])
        refine wpAnyT_one (i := 14) (by kernel_rfl) rfl (fun K hK => ?_)
        go_simp
        refine hK _ _ (fun h => by cases h) ?_
        clear hK K
        (try simp only [Act.put, List.setIfInBounds_toArray, List.set_cons_zero, List.set_cons_succ])
        refine wpAnyT_one (i := 15) (by kernel_rfl) rfl (fun K hK => ?_)
        go_simp
        refine hK _ _ (fun h => by cases h) ?_
        clear hK K
        (try simp only [Act.put, List.setIfInBounds_toArray, List.set_cons_zero, List.set_cons_succ])
        refine wpAnyT_done (by kernel_rfl) ?_ _
        have HBX := HBH.out
        have hzz := HSQ.out
        have hB2 : Below w.heap.size w ((W.drewN (1 + q1 + q2)).setCell ⟨w.heap.size + 1, xi, none⟩ (.int .u64 (mulS p av bv))) := (below_drewN HBX _).setCell (by show _ ≤ w.heap.size + 1; omega) _
        refine ⟨(keeps_set (W := W) (X := W.drewN (1 + q1 + q2)) rfl _ _).trans (keeps_set (W := _) (X := _) rfl _ _), ⟨((below_drewN (Below.refl _ W) (1 + q1 + q2)).setCell (by show _ ≤ w.heap.size + 1; omega) _).setCell (by show _ ≤ wq.heap.size; omega) _, ?_⟩, ⟨⟨?_, ?_, ?_, ?_⟩, ?_⟩, hB2.setCell (by show _ ≤ wq.heap.size; omega) _⟩
        · rw [World.cell?_setCell_far _ _ _ _ (show wq.heap.size ≠ wq.heap.size + 1 by omega), World.cell?_setCell_far _ _ _ _ (show w.heap.size + 1 ≠ wq.heap.size + 1 by omega)]; rfl
        · rw [HE.out]
          refine World.cell?_setCell_same' _ _ _ ?_
          rw [World.cell?_setCell_far _ _ _ _ (show w.heap.size + 1 ≠ wq.heap.size by omega)]
          show (W.cell? ⟨wq.heap.size, 0, none⟩).isSome = true
          rw [hc]; rfl
        · rw [World.frozen?_setCell, World.frozen?_setCell]; exact hf
        · rw [World.cell?_setCell_far _ _ _ _ (show wq.heap.size ≠ w.heap.size by omega), World.cell?_setCell_far _ _ _ _ (show w.heap.size + 1 ≠ w.heap.size by omega)]; exact hcp
        · rw [World.cell?_setCell_far _ _ _ _ (show wq.heap.size ≠ w.heap.size + 1 + 1 by omega), World.cell?_setCell_far _ _ _ _ (show w.heap.size + 1 ≠ w.heap.size + 1 + 1 by omega)]; exact hcs
        · rw [HE.out]
          have h1 := HOS.out (1 + q1 + q2) (mulS p av bv)
          exact own_far h1 (show wq.heap.size ≠ w.heap.size + 1 by omega) _
      case done =>
        rintro D ys W hD hys ⟨⟨⟨hc, hf, hcp, hcs⟩, hO⟩, hB⟩ hK
        rw [hys, foldA_all HK.out HZ.out] at hO
        have HO3 := Lib.hid hO
        clear hO
        have hLM : (l.map fun a => powS p a (p - 2).toNat).length = l.length := by simp
        go_wp2
        refine ⟨by simp, .inl ⟨_, _, rfl, run_takeDeferred hK, ?_⟩⟩
        refine ⟨_, results_tmp2 rfl _ _ _, some ⟨w.heap.size + 1, 0, none⟩, l.length, ?_, ?_, ?_⟩
        · rw [HF.out]; simp only [hLM]; rfl
        · rw [HF.out]; simp only [hLM]
          exact own_kept HO3.out (grownBy_putObj' W D _) (fun r e => by cases e; exact ⟨_, hK, rfl⟩)
        · exact hB.trans (belowK_b (w := w) (Nat.le_refl _) W D _ _ (by simp at hD; omega) hK rfl rfl)
      case stop =>
        rintro D c pre W _ _ h _
        exact h.elim
end Go.Proofs.Ytkofhmiakfmcaaa.P
