/- Several texts as one: Rk, CellF, Tz, Rad1, Round, Round2, Rad0. Conditions: those of each lemma. -/
import Derived.RangeFuncBox
import Derived.RangeFuncLeaves
import Derived.RangeFuncNested
import Derived.RangeFuncBound
import Derived.RangeFuncCalls
import Derived.Shelf.Abstract
import Derived.Shelf.RegionOpen
import Derived.WalkKit
import Derived.OwnWalkIn
import Derived.TacticsInMore
import Derived.LoopNIn
import Derived.LoopIn
import Derived.Test.YtohcoidbncbijaaDoorBaseB
import Derived.Lib.TrailingZeros
import Derived.Laws.Bits64b
import Derived.KernelRfl
import Derived.Test.YtohcoidbncbijaaDoorProg
import Derived.Deep.RegionHeld3
import Derived.Laws.ResultCell
import Derived.Laws.EntriesVeiled
/- What the texts on ranges over a function share: what a round keeps, what has come. Under no condition beside those of each lemma. -/
namespace Go.Proofs.YtohcoidbncbijaaDoor.P
open Go.RowKit Go.Shelf
set_option linter.unusedVariables false
/-- What a round keeps: what lay below n₀, and the box of the slice. -/
def K2 (n₀ Bs : Nat) (W W' : World) : Prop := Below n₀ W W' ∧ W'.cell? ⟨Bs, 0, none⟩ = W.cell? ⟨Bs, 0, none⟩
theorem K2.refl (n₀ Bs : Nat) (W : World) : K2 n₀ Bs W W := ⟨Below.refl _ _, rfl⟩
theorem K2.trans {n₀ Bs : Nat} {A B C : World} (h : K2 n₀ Bs A B) (k : K2 n₀ Bs B C) : K2 n₀ Bs A C := ⟨h.1.trans k.1, k.2.trans h.2⟩
theorem k2_b {n₀ Bs : Nat} {w : World} (h : n₀ ≤ w.heap.size) (hb : Bs < w.heap.size) (W : World) (l : Nat) (o o' : Obj) (hl : w.heap.size ≤ l) (ho : W.heap[l]? = some o) (hc : o.isCells = false) (hw : o.isWalk = false) : K2 n₀ Bs W (W.putObj l o') :=
  ⟨belowK_b (w := w) h W l o o' hl ho hc hw, (belowK_b (w := w) (n₀ := Bs + 1) hb W l o o' hl ho hc hw).cell (p := ⟨Bs, 0, none⟩) (Nat.lt_succ_self _)⟩
/-- What has come when k rounds are over. -/
def upto {α : Type} (f : Nat → α) (k : Nat) : List α := (List.range k).map f
theorem upto_succ {α : Type} (f : Nat → α) (k : Nat) : upto f (k + 1) = upto f k ++ [f k] := by simp [upto, List.range_succ]
theorem upto_length {α : Type} (f : Nat → α) (k : Nat) : (upto f k).length = k := by simp [upto]
end Go.Proofs.YtohcoidbncbijaaDoor.P
/- A range over a function whose iterator writes a variable of its own (block Bs, that lay ahead of the loop): what the caller's invariant must bear of it is said. Conditions: the iterator's contract (SeqCell); what the body keeps. -/
namespace Go.Proofs.YtohcoidbncbijaaDoor.P
open Go.RowKit
set_option linter.unusedVariables false
/-- What outlives a store into block Bs. -/
def Bears {β : Type} (Bs : Nat) (J : β → World → Prop) : Prop := ∀ s W v, J s W → J s (W.setCell ⟨Bs, 0, none⟩ v)
/-- The iterator's contract: it stores into block Bs alone, besides what its yields do. -/
def SeqCell {α : Type} (F : Fence) (n : Nat) (P : Program) (g : Nat) (lb : Array Value) (encs : α → Array Value) (Kp : World → World → Prop) (S Sp : List α → Prop) (N Bs : Nat) (w : World) : Prop :=
  ∀ (l : Nat) (J Jx : List α → World → Prop) (W : World), Below w.heap.size w W → Bears Bs J → Bears Bs Jx →
    (∀ pre x W1, J pre W1 → pre.length < N → YieldAt F (n - 1) P l (encs x) W1 fun e W' =>
      (e = .returned (.bool true) ∧ J (pre ++ [x]) W' ∧ Kp W1 W') ∨ (e = .returned (.bool false) ∧ Jx (pre ++ [x]) W')) →
    J [] W →
    CallsIn F n P g (#[.func (.yield l) #[] #[]] ++ lb) W fun e W' => (∃ v, e = .returned v) ∧ ((∃ xs, S xs ∧ J xs W') ∨ (∃ pre, Sp pre ∧ Jx pre W'))
section
variable {F : Fence} {n : Nat} {P : Program}
theorem wpIn_rangeFunc_cell {α : Type} {g : Operand} {ps : Array Tmp} {assign body : Code} {Q : Exit → Act → World → Prop} {a : Act} {w : World} (Bs : Nat) (hBs : Bs < w.heap.size)
    (hro : F.round = none) (h1 : 1 ≤ n) {gf : Nat} {lb : Array Value} (hg : a.eval g = .func (.func gf) #[] lb) (hFg : F.fn gf) (eg : ∀ args w, (callFunc gf args).run P w = .ok (.enter gf args) w)
    {encs : α → Array Value} {Kp : World → World → Prop} {S Sp : List α → Prop} {N : Nat} {w0 : World} (hseq : SeqCell F (n - 1) P gf lb encs Kp S Sp N Bs w0)
    (hKt : ∀ {A B C : World}, Kp A B → Kp B C → Kp A C) (hKb : ∀ (W : World) (l : Nat) (o o' : Obj), w.heap.size ≤ l → W.heap[l]? = some o → o.isCells = false → o.isWalk = false → Kp W (W.putObj l o')) (hb0 : Below w0.heap.size w0 w) (hps : ∀ x, (encs x).size = ps.size)
    (I : List α → World → Prop) (Ix : Code → List α → World → Prop) (hI : OwnFrom w.heap.size I) (hIx : ∀ c, OwnFrom w.heap.size (Ix c)) (hIs : Bears Bs I) (hIxs : ∀ c, Bears Bs (Ix c)) (h0 : I [] w) (a₁ : α → Act)
    (hassign : ∀ (l : Nat) (x : α) (W : World) (K : Act → World → Prop), K (a₁ x) W →
      assign.wpIn (F.inRound l) (n - 1 - 1) P (Exit.then K (fun _ _ _ => False)) { tmps := (ps.zip (encs x)).foldl (fun t (p, v) => t.setIfInBounds p v) a.tmps, defers := [] } W)
    (hbody : ∀ (l : Nat) (pre : List α) (x : α) (W : World), I pre W → pre.length < N → body.wpIn (F.inRound l) (n - 1 - 1) P (ownPostG w.heap.size Kp I Ix (pre ++ [x]) W) (a₁ x) W)
    (hdone : ∀ (D : Nat) (xs : List α) (W : World), w.heap.size ≤ D → S xs → I xs W → W.heap[D]? = some (.deferred (some [])) → Q .normal { a with defers := { target := .collected D, args := #[] } :: a.defers } W)
    (hstop : ∀ (D : Nat) (c : Code) (pre : List α) (W : World), w.heap.size ≤ D → Sp pre → Ix c pre W → W.heap[D]? = some (.deferred (some [])) → c.wpIn F n P Q { a with defers := { target := .collected D, args := #[] } :: a.defers } W) :
    (Code.rangeFunc g ps assign body).wpIn F n P Q a w := by
  refine wpIn_rangeFunc fun fn hfn => ?_
  rw [hro]
  -- the loop's record and the block of the rounds' deferred calls, laid ahead of the first round
  generalize hD : w.heap.size = D at *
  obtain ⟨rec, hrec⟩ : ∃ rec : LoopState → Option Code → Loop, rec = fun st pe => { state := st, pending := pe, fn, tmps := a.tmps, params := ps, assign, body, defers := D } := ⟨_, rfl⟩
  obtain ⟨W1, hW1⟩ : ∃ W1, (w.alloc (.deferred (some []))).alloc (.loop (rec .ready none)) = W1 := ⟨_, rfl⟩
  have hL1 : W1.heap[D + 1]? = some (.loop (rec .ready none)) := by
    have h := World.alloc_heap_new (w.alloc (.deferred (some []))) (.loop (rec .ready none))
    rw [World.size_alloc, hW1, hD] at h
    exact h
  have hD1 : W1.heap[D]? = some (.deferred (some [])) := by
    rw [← hW1, ← hD]
    exact (Below.heap_alloc _ _ _ (by simp)).trans (World.alloc_heap_new w _)
  have hb1 : Below w0.heap.size w0 W1 := by
    rw [← hW1]
    exact (hb0.alloc hb0.size _).alloc (by rw [World.size_alloc]; have := hb0.size; omega) _
  have hI1 : I [] W1 := by rw [← hW1]; exact hI.alloc _ (hI.alloc _ h0)
  refine ⟨D + 1, [{ target := .collected D, args := #[] }], W1, { target := .fn (.func gf) lb, args := #[.func (.yield (D + 1)) #[] #[]] }, W1, gf,
    #[.func (.yield (D + 1)) #[] #[]] ++ lb, W1, ?_, ?_, ?_, ?_, fun _ => h1, ?_⟩
  · rw [← hW1, hrec, ← hD]; exact run_enterLoop_outer _ _ _ _ _
  · simp only [resolve, hg]
    simp [go_sem]
  · intro f' hf'
    simp [Target.leads] at hf'
    subst hf'; exact hFg
  · simp [invoke, go_sem, eg]
  have hfar : ∀ (W : World) (v : Value) (k : Nat), Bs < k → (W.setCell ⟨Bs, 0, none⟩ v).heap[k]? = W.heap[k]? := fun W v k hk => Below.heap_setCell W ⟨Bs, 0, none⟩ v k (by show k ≠ Bs; omega)
  refine (hseq (D + 1)
    (fun pre W => I pre W ∧ W.heap[D + 1]? = some (.loop (rec .ready none)) ∧ W.heap[D]? = some (.deferred (some [])))
    (fun pre W => ∃ c, Ix c pre W ∧ W.heap[D + 1]? = some (.loop (rec .done (some c))) ∧ W.heap[D]? = some (.deferred (some [])))
    W1 hb1
    (fun s W v hs => ⟨hIs s W v hs.1, (hfar W v _ (by omega)).trans hs.2.1, (hfar W v _ hBs).trans hs.2.2⟩)
    (fun s W v hs => by
      obtain ⟨c, hc, hl, hk⟩ := hs
      exact ⟨c, hIxs c s W v hc, (hfar W v _ (by omega)).trans hl, (hfar W v _ hBs).trans hk⟩)
    ?round ⟨hI1, hL1, hD1⟩).mono ?behind
  case round =>
    rintro pre x W ⟨hi, hl, hk⟩ hlen
    have hlt : D + 1 < W.heap.size := (Array.getElem?_eq_some_iff.1 hl).1
    have hy := run_yield (P := P) (args := encs x) hl (by rw [hrec]; exact hps x)
    rw [hrec] at hy
    refine ⟨fn, _, assign, body, hy, roundIn_of_wpIn hfn (hassign _ x W _ ⟨_, run_beginRound hl (by rw [hrec]), ?_⟩)⟩
    generalize hB : W.putObj (D + 1) (.loop { rec .ready none with state := .busy }) = WB
    have hl2 : WB.heap[D + 1]? = some (.loop { rec .ready none with state := .busy }) := by rw [← hB]; exact World.putObj_heap_same hlt
    have hk2 : WB.heap[D]? = some (.deferred (some [])) := by rw [← hB]; exact (World.putObj_heap_other (by omega)).trans hk
    have hw2 : Kp W WB := by rw [← hB]; exact hKb _ _ _ _ (by omega) hl rfl rfl
    have hi2 : I pre WB := by rw [← hB]; exact hI.putObj _ hi (by omega) hl rfl
    refine wpIn_mono (hbody _ pre x _ hi2 hlen) ?_
    -- what the round's end leaves
    have fin : ∀ (jump : Option Code) (W3 : World), KeepsFrom D WB W3 →
        (Instr.endRound (D + 1) jump).run P W3 = .ok (.bool jump.isNone) (W3.putObj (D + 1) (.loop (rec (if jump.isNone then .ready else .done) jump))) ∧
        W3.heap[D + 1]? = some (.loop { rec .ready none with state := .busy }) ∧
        (W3.putObj (D + 1) (.loop (rec (if jump.isNone then .ready else .done) jump))).heap[D + 1]? = some (.loop (rec (if jump.isNone then .ready else .done) jump)) ∧
        (W3.putObj (D + 1) (.loop (rec (if jump.isNone then .ready else .done) jump))).heap[D]? = some (.deferred (some [])) := fun jump W3 hk3 => by
      have hl3 := hk3.same _ _ (by omega) hl2 rfl
      have hr := run_endRound (P := P) jump hl3
      rw [hrec] at hr ⊢
      exact ⟨hr, by rw [hrec] at hl3; exact hl3, World.putObj_heap_same (Array.getElem?_eq_some_iff.1 hl3).1, (World.putObj_heap_other (by omega)).trans (hk3.same _ _ (Nat.le_refl _) hk2 rfl)⟩
    rintro e a3 W3 hp
    cases e with
    | normal =>
      obtain ⟨hk3, hkp3, hi3⟩ := hp
      obtain ⟨hr, hl3, hl4, hk4⟩ := fin none W3 hk3
      exact ⟨_, _, hr, .inl ⟨rfl, ⟨hI.putObj _ hi3 (by omega) hl3 rfl, hl4, hk4⟩, hKt (hKt hw2 hkp3) (hKb _ _ _ _ (by omega) hl3 rfl rfl)⟩⟩
    | ret =>
      obtain ⟨hk3, hi3⟩ := hp
      obtain ⟨hr, hl3, hl4, hk4⟩ := fin (some .ret) W3 hk3
      exact ⟨_, _, hr, .inr ⟨rfl, .ret, (hIx _).putObj _ hi3 (by omega) hl3 rfl, hl4, hk4⟩⟩
    | exit id =>
      obtain ⟨hk3, hi3⟩ := hp
      obtain ⟨hr, hl3, hl4, hk4⟩ := fin (some (.exit id)) W3 hk3
      exact ⟨_, _, hr, .inr ⟨rfl, .exit id, (hIx _).putObj _ hi3 (by omega) hl3 rfl, hl4, hk4⟩⟩
    | goto t =>
      obtain ⟨hk3, hi3⟩ := hp
      obtain ⟨hr, hl3, hl4, hk4⟩ := fin (some (.goto t)) W3 hk3
      exact ⟨_, _, hr, .inr ⟨rfl, .goto t, (hIx _).putObj _ hi3 (by omega) hl3 rfl, hl4, hk4⟩⟩
    | panic ch => exact hp.elim
    | outgrown => exact hp.elim
  case behind =>
    rintro e W2 ⟨⟨v, rfl⟩, (⟨xs, hS, hi, hl, hk⟩ | ⟨pre, hSp, c, hi, hl, hk⟩)⟩
    · have hr := run_endLoop (P := P) hl (by rw [hrec]; simp)
      rw [hrec] at hr
      exact ⟨none, _, hr, hdone _ xs _ (Nat.le_refl _) hS (hI.putObj _ hi (by omega) hl rfl) ((World.putObj_heap_other (by omega)).trans hk)⟩
    · have hr := run_endLoop (P := P) hl (by rw [hrec]; simp)
      rw [hrec] at hr
      exact ⟨some c, _, hr, hstop _ c pre _ (Nat.le_refl _) hSp ((hIx c).putObj _ hi (by omega) hl rfl) ((World.putObj_heap_other (by omega)).trans hk)⟩
end
/-- What a round keeps: what lay below n₀, and the iterator's variable. -/
def K3 (n₀ Bs : Nat) (W W' : World) : Prop := Below n₀ W W' ∧ W'.cell? ⟨Bs, 0, none⟩ = W.cell? ⟨Bs, 0, none⟩ ∧ W'.frozen? ⟨Bs, 0, none⟩ = W.frozen? ⟨Bs, 0, none⟩
theorem K3.refl (n₀ Bs : Nat) (W : World) : K3 n₀ Bs W W := ⟨Below.refl _ _, rfl, rfl⟩
theorem K3.trans {n₀ Bs : Nat} {A B C : World} (h : K3 n₀ Bs A B) (k : K3 n₀ Bs B C) : K3 n₀ Bs A C := ⟨h.1.trans k.1, k.2.1.trans h.2.1, k.2.2.trans h.2.2⟩
theorem k3_b {n₀ Bs : Nat} {w : World} (h : n₀ ≤ w.heap.size) (hb : Bs < w.heap.size) (W : World) (l : Nat) (o o' : Obj) (hl : w.heap.size ≤ l) (ho : W.heap[l]? = some o) (hc : o.isCells = false) (hw : o.isWalk = false) : K3 n₀ Bs W (W.putObj l o') := by
  have h1 := (belowK_b (w := w) (n₀ := Bs + 1) hb W l o o' hl ho hc hw).block Bs (Nat.lt_succ_self _)
  exact ⟨belowK_b (w := w) h W l o o' hl ho hc hw, World.cell?_of_block h1, World.frozen?_of_block h1⟩
end Go.Proofs.YtohcoidbncbijaaDoor.P
/- math/bits.TrailingZeros at numbers that are not 0. Conditions: the library's table lies as its initialiser laid it (Tab). -/
namespace Go.Proofs.YtohcoidbncbijaaDoor.P
open Go.RowKit
set_option linter.unusedVariables false
/-- The library's table. -/
def Tab (w : World) : Prop := ∀ j, j < 64 → w.cell? ⟨3, j, none⟩ = some (.int .u8 (Lib.deBruijn64tab.getD j 0))
theorem Tab.below {w w' : World} (h : Tab w) (hb : Below w.heap.size w w') : Tab w' := fun j hj =>
  (hb.cell (World.block_lt_of_cell? w _ (h j hj))).trans (h j hj)
theorem Tab.drewN {w : World} (h : Tab w) (n : Nat) : Tab (w.drewN n) := h
theorem Tab.size {w : World} (h : Tab w) : 3 < w.heap.size := World.block_lt_of_cell? w _ (h 0 (by decide))
theorem tz_core (x k idx : Nat) (w : World) (hx0 : ((x : Int) == 0) = false)
    (key : IntKind.u64.wrap (bits BinOp.and IntKind.u64 (x : Int) (IntKind.u64.wrap (-(x : Int))) * 285870213051353865) / 288230376151711744 = (idx : Int))
    (hi : idx < 64) (hk : k < 64) (hcell : w.cell? ⟨3, idx, none⟩ = some (.int .u8 k)) :
    Calls Tryd.prog 150 #[.int .u64 x] w fun e w' => e = .returned (.int .i64 k) ∧ w' = w := by
  go_enter Tryd.func150, Tryd.ntmps150
  go_wp2_with (simp only [key])
  go_ret
  exact ⟨rfl, rfl⟩
theorem tz_key (x a : Nat) (hx : x < 18446744073709551616) (hx0 : x ≠ 0) (hlow : x &&& (18446744073709551616 - x) = a) :
    IntKind.u64.wrap (bits BinOp.and IntKind.u64 (x : Int) (IntKind.u64.wrap (-(x : Int))) * 285870213051353865) / 288230376151711744 = ((a * 285870213051353865 % 18446744073709551616 / 288230376151711744 : Nat) : Int) := by
  have e1 : IntKind.u64.wrap (-(x : Int)) = ((18446744073709551616 - x : Nat) : Int) := by rw [IntKind.wrap_u64]; omega
  rw [e1, bits_and_u64_nat x _ hx (by omega), hlow, IntKind.wrap_u64]
  omega
theorem tz64_calls (x : Nat) (hx : x < 18446744073709551616) (hx0 : x ≠ 0) (w : World) (hT : Tab w) :
    Calls Tryd.prog 150 #[.int .u64 x] w fun e w' => e = .returned (.int .i64 (Lib.ctz 64 x)) ∧ w' = w := by
  obtain ⟨hlow, hk⟩ := Lib.lowest_bit 64 x hx0 hx
  obtain ⟨hi, htab⟩ := Lib.deBruijn64_at _ hk
  have hcell := hT _ hi
  rw [htab] at hcell
  exact tz_core x _ _ w (by simp; omega) (tz_key x _ hx hx0 hlow) hi hk hcell
theorem tz_calls (x : Nat) (hx : x < 18446744073709551616) (hx0 : x ≠ 0) (w : World) (hT : Tab w) :
    Calls Tryd.prog 143 #[.int .u64 x] w fun e w' => e = .returned (.int .i64 (Lib.ctz 64 x)) ∧ w' = w := by
  have hc := tz64_calls x hx hx0 w hT
  have HC := Lib.hid hc
  clear hc
  go_enter Tryd.func143, Tryd.ntmps143
  go_wp2_with (go_at_call 150; refine HC.out.mono ?_; rintro e w' ⟨rfl, rfl⟩)
  go_ret
  exact ⟨rfl, rfl⟩
end Go.Proofs.YtohcoidbncbijaaDoor.P
/- The contract of package factor's iterator: the function that it hands back tells the radices of the size in its variable. Conditions: a size up to 4096; the library's table lies as it was laid. -/
namespace Go.Proofs.YtohcoidbncbijaaDoor.P
open Go.RowKit Go.Shelf
set_option linter.unusedVariables false
set_option linter.unusedSimpArgs false
attribute [local go_sem] Oper.semAt_some
theorem idx35 (w : World) : ∀ i, i < 2 → (Instr.index 150 (.agg #[.int .i64 3, .int .i64 5]) (.int .i64 (i : Nat))).run Tryd.prog w = .ok (.int .i64 (radI i : Nat)) w
  | 0, _ => by kernel_rfl
  | 1, _ => by kernel_rfl
theorem wpIn_hide {F : Fence} {n : Nat} {P : Program} {c : Code} {Q : Exit → Act → World → Prop} {a : Act} {w : World} (h : ∀ Q', Q' = Q → c.wpIn F n P Q' a w) : c.wpIn F n P Q a w := h Q rfl
theorem pre_take {pre rest R : List Int} (h : pre ++ rest = R) : ∃ k, k ≤ R.length ∧ pre = R.take k := ⟨pre.length, by rw [← h]; simp, by rw [← h]; simp⟩
theorem pre_lt {pre rest R : List Int} {v : Int} (h : pre ++ v :: rest = R) : pre.length < R.length := by rw [← h]; simp
theorem pre_next {pre rest R : List Int} {v : Int} (h : pre ++ v :: rest = R) : (pre ++ [v]) ++ rest = R := by rw [← h]; simp
set_option maxRecDepth 100000 in
set_option maxHeartbeats 2000000 in
theorem rad1_in (f : Nat) (hf : 1 ≤ f) (li Bs n₀ : Nat) (n : Nat) (h0 : 0 < n) (hn : n ≤ 4096) (J Jx : List Int → World → Prop) (hJ : Bears Bs J) (hJx : Bears Bs Jx)
    (hB : n₀ ≤ Bs)
    (hY : ∀ pre v W, J pre W → pre.length < (radL n).length → YieldAt Fence.wide (f - 1) Tryd.prog li #[.int .i64 v] W fun e W' =>
      (e = .returned (.bool true) ∧ J (pre ++ [v]) W' ∧ K3 n₀ Bs W W') ∨ (e = .returned (.bool false) ∧ Jx (pre ++ [v]) W'))
    (W : World) (hBs : W.cell? ⟨Bs, 0, none⟩ = some (.int .i64 (n : Int))) (hBf : W.frozen? ⟨Bs, 0, none⟩ = false) (hT : Tab W) (hj : J [] W) :
    CallsIn Fence.wide f Tryd.prog 142 #[.func (.yield li) #[] #[], .pointer (some ⟨Bs, 0, none⟩)] W fun e W' => (∃ v, e = .returned v) ∧
      ((∃ ys, ys = radL n ∧ J ys W') ∨ (∃ pre, (∃ k, k ≤ (radL n).length ∧ pre = (radL n).take k) ∧ Jx pre W')) := by
  have HTZ := Lib.hid (fac_tz h0 hn)
  have HRL : Hid (radL n = List.replicate (cn n 2 / 2) 4 ++ (twoL (cn n 2) ++ tailI 0 (n / 2 ^ cn n 2))) := Lib.hid rfl
  obtain ⟨t12, m0, m1, hlen⟩ := fac_odd h0 hn
  have HM : Hid (n / 2 ^ cn n 2 = n / 2 ^ cn n 2) := Lib.hid rfl
  generalize hm : n / 2 ^ cn n 2 = m at *
  generalize ht : cn n 2 = t at *
  generalize radL n = R at *
  refine callsIn_of_wp Tryd.func142 rfl trivial ?_ rfl
  simp only [Tryd.ntmps142, List.size_toArray, List.length_cons, List.length_nil, Nat.reduceAdd, Nat.reduceSub, Array.replicate_succ, Array.replicate_zero, List.push_toArray, List.append_toArray, List.nil_append, List.cons_append]
  gi_wp2
  refine ⟨trivial, ?_⟩
  refine (callsIn_wide.2 (tz_calls n (by omega) (by omega) W hT)).mono ?_
  rw [HTZ.out]
  rintro e W0 ⟨rfl, rfl⟩
  have HK0 : Hid (List.replicate (t / 2) 4 ++ (twoL t ++ tailI 0 m) = R) := Lib.hid HRL.out.symm
  have hq : (t : Int) / 2 = ((t / 2 : Nat) : Int) := by omega
  have hpar : t % 2 = 0 ∨ t % 2 = 1 := by omega
  clear hT HRL
  generalize hh : t / 2 = h at *
  have hh6 : h ≤ 6 := by omega
  have hsh : (n : Int) / 2 ^ t = (m : Int) := by rw [← hm]; push_cast; rfl
  clear hm HM
  gi_wp2
  gi_loopw [11] (fun q wr => ∃ k : Nat, k ≤ h ∧ q = .int .i64 k ∧ J (List.replicate k 4) wr ∧ wr.cell? ⟨Bs, 0, none⟩ = some (.int .i64 (n : Int)) ∧ wr.frozen? ⟨Bs, 0, none⟩ = false) (fun q _ => h - (intOf q).toNat)
  case atStart => exact ⟨0, Nat.zero_le _, rfl, hj, hBs, hBf⟩
  case round =>
    obtain ⟨k, hk, rfl, hJk, hBk, hFk⟩ := hrel
    by_cases hlt : k < h
    · have HN : Hid (List.replicate k 4 ++ (4 : Int) :: (List.replicate (h - (k + 1)) 4 ++ (twoL t ++ tailI 0 m)) = R) := Lib.hid (by
        obtain ⟨d, hd⟩ : ∃ d, h = k + (d + 1) := ⟨h - (k + 1), by omega⟩
        rw [← HK0.out, show h - (k + 1) = d by omega, hd, ← List.replicate_append_replicate, List.replicate_succ, List.append_assoc]; rfl)
      obtain ⟨fn, tmps, assign, body, hy, hR⟩ := hY _ 4 wr hJk (pre_lt HN.out)
      (try dsimp only at hy)
      have HNN := Lib.hid (pre_next HN.out)
      gi_wp2
      refine hR.mono ?_
      rintro e W3 (⟨rfl, hJ3, hk3⟩ | ⟨rfl, hJx3⟩)
      · have hB3 := hk3.2.1.trans hBk
        have hF3 := hk3.2.2.trans hFk
        clear hk3
        gi_wp2
        go_roundw
        case rel => exact ⟨k + 1, by omega, by go_num, by rw [List.replicate_succ']; exact hJ3, hB3, hF3⟩
        case measure => simp [intOf]; omega
      · gi_wp2
        refine bodyPost_ret (results_none rfl _ _ _) rfl ?_
        exact ⟨⟨_, rfl⟩, .inr ⟨_, pre_take HNN.out, hJx3⟩⟩
    · obtain rfl : k = h := by omega
      clear hBs hBf hj
      have HKK := HK0
      generalize hpre : List.replicate k (4 : Int) = pre at *
      rcases hpar with hp | hp
      case' inl =>
        have t1 : ((t : Int) % 2 == 1) = false := by simp; omega
        have HK1 : Hid (pre ++ tailI 0 m = R) := Lib.hid (by have h1 := HK0.out; rw [twoL, if_neg (by omega)] at h1; exact h1)
        clear HK0 HKK hpre
        gi_wp2
        refine ⟨fun _ hx => (by cases hx), ?_⟩
      case' inr =>
        have t1 : ((t : Int) % 2 == 1) = true := by simp; omega
        have HN : Hid (pre ++ (2 : Int) :: tailI 0 m = R) := Lib.hid (by have h1 := HK0.out; rw [twoL, if_pos hp] at h1; exact h1)
        obtain ⟨fn, tmps, assign, body, hy, hR⟩ := hY _ 2 wr hJk (pre_lt HN.out)
        (try dsimp only at hy)
        have HNN := Lib.hid (pre_next HN.out)
        clear HK0 HKK hpre
        gi_wp2
        refine hR.mono ?_
        rintro e wr (⟨rfl, hJ3, hk3⟩ | ⟨rfl, hJx3⟩)
        case' inr =>
          gi_wp2
          refine bodyPost_ret (results_none rfl _ _ _) rfl ?_
          exact ⟨⟨_, rfl⟩, .inr ⟨_, pre_take HNN.out, hJx3⟩⟩
        replace hBk := hk3.2.1.trans hBk
        replace hFk := hk3.2.2.trans hFk
        replace hJk := hJ3
        have HK1 := HNN
        clear hk3 hJ3 HNN HN hR
        generalize pre ++ [2] = pre at *
        gi_wp2
      all_goals
        have hJ1 := hJ _ _ (.int .i64 (m : Int)) hJk
        have hB1 : (wr.setCell ⟨Bs, 0, none⟩ (.int .i64 (m : Int))).cell? ⟨Bs, 0, none⟩ = some (.int .i64 (m : Int)) := World.cell?_setCell_same' _ _ _ (by rw [hBk]; rfl)
        have hF1 : (wr.setCell ⟨Bs, 0, none⟩ (.int .i64 (m : Int))).frozen? ⟨Bs, 0, none⟩ = false := by rw [World.frozen?_setCell]; exact hFk
        gi_wp2
        generalize wr.setCell ⟨Bs, 0, none⟩ (.int .i64 (m : Int)) = wr1 at *
        clear hBk hFk hJk
        gi_loopw [29] (fun q ws => ∃ (i m' : Nat) (pre : List Int), i ≤ 2 ∧ q = .int .i64 i ∧ J pre ws ∧ Hid (pre ++ tailI i m' = R) ∧ 0 < m' ∧ m' ≤ 4096 ∧ ws.cell? ⟨Bs, 0, none⟩ = some (.int .i64 (m' : Int)) ∧ ws.frozen? ⟨Bs, 0, none⟩ = false) (fun q _ => 2 - (intOf q).toNat)
        case atStart => exact ⟨0, m, pre, Nat.zero_le _, rfl, hJ1, HK1, m0, m1, hB1, hF1⟩
        case round =>
          obtain ⟨i, m', pre', hi2, rfl, hJp, HP, hm0, hm1, hBp, hFp⟩ := hrel
          by_cases hilt : i < 2
          · have hix := idx35 wr i hilt
            have hil2 : decide ((i : Int) < 2) = true := by simp; omega
            have HY2 : Hid (m' % radI i = 0 → tailI i m' = (radI i : Int) :: tailI i (m' / radI i) ∧ 0 < m' / radI i ∧ m' / radI i ≤ 4096) := Lib.hid fun hd => ⟨tailI_yes hilt hm0 hm1 hd, (fac_pos hm0 hm1 hd).1, (fac_pos hm0 hm1 hd).2.1⟩
            have hr5 : radI i = 3 ∨ radI i = 5 := by unfold radI; split <;> simp
            have hr0 : ((radI i : Int) == 0) = false := by simp; omega
            have hr1 : (radI i : Int) ≠ 0 := by omega
            have hr2 : 2 ≤ radI i := by omega
            gi_wp2
            generalize hrr : radI i = r at *
            refine wpIn_hide (fun Qh hQ => ?_)
            gi_loopw [32] (fun _ ws => ∃ (m2 : Nat) (pre2 : List Int), J pre2 ws ∧ Hid (pre2 ++ tailI i m2 = R) ∧ 0 < m2 ∧ m2 ≤ 4096 ∧ ws.cell? ⟨Bs, 0, none⟩ = some (.int .i64 (m2 : Int)) ∧ ws.frozen? ⟨Bs, 0, none⟩ = false) (fun _ ws => (intOf ((ws.cell? ⟨Bs, 0, none⟩).getD undef)).toNat)
            case atStart => exact ⟨m', pre', hJp, HP, hm0, hm1, hBp, hFp⟩
            case round =>
              obtain ⟨m2, pre2, hJ2, HP2, h20, h21, hB2, hF2⟩ := hrel
              have hrm : (m2 : Int) % (r : Int) = ((m2 % r : Nat) : Int) := by push_cast; rfl
              have hdv : (m2 : Int) / (r : Int) = ((m2 / r : Nat) : Int) := by push_cast; rfl
              by_cases hd : m2 % r = 0
              · have hd2 : m2 % radI i = 0 := by rw [hrr]; exact hd
                have HN : Hid (pre2 ++ (r : Int) :: tailI i (m2 / r) = R) := Lib.hid (by
                  have h1 := HP2.out
                  rw [tailI_yes hilt h20 h21 hd2, hrr] at h1
                  exact h1)
                have hps := fac_pos h20 h21 hd2
                rw [hrr] at hps
                obtain ⟨hp0, hp1, hp2⟩ := hps
                rw [hd] at hrm
                have hrm0 : ((m2 : Int) % (r : Int) == 0) = true := by rw [hrm]; rfl
                obtain ⟨fn, tmps, assign, body, hy, hR⟩ := hY _ (r : Int) wr hJ2 (pre_lt HN.out)
                (try dsimp only at hy)
                have HNN := Lib.hid (pre_next HN.out)
                generalize hdd : m2 / r = m3 at *
                clear hd2
                gi_wp2
                refine hR.mono ?_
                rintro e W3 (⟨rfl, hJ3, hk3⟩ | ⟨rfl, hJx3⟩)
                · have hB3 := hk3.2.1.trans hB2
                  have hF3 := hk3.2.2.trans hF2
                  have hJ4 := hJ _ _ (.int .i64 (m3 : Int)) hJ3
                  have hB4 : (W3.setCell ⟨Bs, 0, none⟩ (.int .i64 (m3 : Int))).cell? ⟨Bs, 0, none⟩ = some (.int .i64 (m3 : Int)) := World.cell?_setCell_same' _ _ _ (by rw [hB3]; rfl)
                  have hF4 : (W3.setCell ⟨Bs, 0, none⟩ (.int .i64 (m3 : Int))).frozen? ⟨Bs, 0, none⟩ = false := by rw [World.frozen?_setCell]; exact hF3
                  clear hk3
                  gi_wp2
                  go_roundw
                  case rel => exact ⟨m3, _, hJ4, HNN, hp0, hp1, hB4, hF4⟩
                  case measure => rw [hB4, hB2]; simp [intOf]; omega
                · gi_wp2
                  subst hQ
                  gi_wp2
                  refine bodyPost_ret (results_none rfl _ _ _) rfl ?_
                  exact ⟨⟨_, rfl⟩, .inr ⟨_, pre_take HNN.out, hJx3⟩⟩
              · have hrm0 : ((m2 : Int) % (r : Int) == 0) = false := by rw [hrm]; simp only [beq_eq_false_iff_ne, ne_eq]; omega
                have HN : Hid (pre2 ++ tailI (i + 1) m2 = R) := Lib.hid (by
                  have h1 := HP2.out
                  rw [tailI_no hilt (by rw [hrr]; exact hd)] at h1
                  exact h1)
                clear hd hrm
                gi_wp2
                subst hQ
                gi_wp2
                go_roundw
                case rel => exact ⟨i + 1, m2, pre2, by omega, by go_num, hJ2, HN, h20, h21, hB2, hF2⟩
                case measure => simp [intOf]; omega
          · obtain rfl : i = 2 := by omega
            have HP2 : Hid (pre' ++ lastL m' = R) := Lib.hid (by have h1 := HP.out; rw [tail2] at h1; exact h1)
            by_cases hml : 1 < m'
            · have HN : Hid (pre' ++ (m' : Int) :: [] = R) := Lib.hid (by have h1 := HP2.out; rw [lastL, if_pos hml] at h1; exact h1)
              have hml2 : decide ((1 : Int) < (m' : Int)) = true := by simp; omega
              obtain ⟨fn, tmps, assign, body, hy, hR⟩ := hY _ (m' : Int) wr hJp (pre_lt HN.out)
              (try dsimp only at hy)
              have HNN := Lib.hid (pre_next HN.out)
              clear hml
              gi_wp2
              refine hR.mono ?_
              rintro e W3 (⟨rfl, hJ3, hk3⟩ | ⟨rfl, hJx3⟩)
              · gi_wp2
                go_end0
                exact ⟨⟨_, rfl⟩, .inl ⟨_, by have h1 := HNN.out; rw [List.append_nil] at h1; exact h1, hJ3⟩⟩
              · gi_wp2
                go_end0
                exact ⟨⟨_, rfl⟩, .inr ⟨_, pre_take HNN.out, hJx3⟩⟩
            · have HN : Hid (pre' = R) := Lib.hid (by have h1 := HP2.out; rw [lastL, if_neg hml, List.append_nil] at h1; exact h1)
              have hml2 : decide ((1 : Int) < (m' : Int)) = false := by simp; omega
              clear hml
              gi_wp2
              go_end0
              exact ⟨⟨_, rfl⟩, .inl ⟨_, HN.out, hJp⟩⟩
end Go.Proofs.YtohcoidbncbijaaDoor.P
/- A region inside a round of a range over a function: its loads taken first, as outside of one. Conditions: none of its operations defers; it does not panic. -/
namespace Go.Proofs.YtohcoidbncbijaaDoor.P
open Go.RowKit
set_option linter.unusedVariables false
set_option linter.unusedSimpArgs false
/-- The post, where nothing but the region's end will do. -/
def atEnd (Q : Exit → Act → World → Prop) : Exit → Act → World → Prop
  | .normal, a, w => Q .normal a w
  | _, _, _ => False
theorem atEnd_out (Q : Exit → Act → World → Prop) : ¬ LetsOut (atEnd Q) := fun ⟨_, _, h⟩ => h
def noDefer (ops : Array Oper) : Bool := ops.all fun o => match o.op with | .defer _ => false | _ => true
theorem noDefer_at {ops : Array Oper} (h : noDefer ops = true) {i : Nat} {o : Oper} (ho : ops[i]? = some o) (c : _) : o.op ≠ .defer c := by
  intro e
  obtain ⟨hi, he⟩ := Array.getElem?_eq_some_iff.1 ho
  have h1 := (Array.all_eq_true.1 h) i hi
  rw [he, e] at h1
  cases h1
theorem oper_round {l n : Nat} {P : Program} {o : Oper} {a : Act} {w : World} {K : Act → World → Prop} {Q : Exit → Act → World → Prop} (hnd : ∀ c, o.op ≠ .defer c) (h : o.wp P a w K (atEnd Q)) :
    o.wpIn (Fence.wide.inRound l) n P a w K Q := by
  unfold Oper.wpIn
  refine ⟨fun _ _ => trivial, ?_⟩
  rw [Oper.semAt_eq _ _ _ hnd]
  unfold Oper.wp at h
  generalize (execOp a.eval o).run P w = r at *
  cases r with
  | ok x w' =>
    cases x <;> simp only [Oper.upon, Oper.uponIn] at h ⊢
    case value u => exact h
    case skip => exact h
    case defer d => exact h
    case enter f args =>
      refine ⟨fun hd => by simp [Fence.wide] at hd, CallsIn.inRound l (callsIn_wide.2 (h.mono fun e w'' he => ?_))⟩
      cases e with
      | returned u => exact he
      | panicked c => exact he.elim
      | outgrown => exact absurd he (atEnd_out Q)
    case row row args =>
      refine ⟨fun hd => by simp [Fence.wide] at hd, fun c cs _ => ?_⟩
      obtain ⟨v, w2, r2, s⟩ := h c cs
      exact ⟨v, w2, r2, stepsIn_wide.2 s⟩
  | halt x w' =>
    cases x <;> simp only [Oper.upon, Oper.uponIn] at h ⊢
    case panic u => exact h.elim
theorem any_round {l n : Nat} {P : Program} {md : Region.Mode} {ops : Array Oper} {Q : Exit → Act → World → Prop} (hnd : noDefer ops = true) : ∀ (fuel : Nat) (listed : Array Bool) (a : Act) (w : World),
    wpAny P md ops (atEnd Q) fuel listed a w → wpAnyIn (Fence.wide.inRound l) n P md ops Q fuel listed a w
  | 0, _, _, _, h => h
  | fuel + 1, listed, a, w, h => by
    refine ⟨h.1, fun i hi => ?_⟩
    have h2 := h.2 i hi
    unfold wpOp at h2
    unfold wpOpIn
    split
    · rename_i ho
      simp only [ho] at h2
      exact any_round hnd fuel _ _ _ h2
    · rename_i o ho
      simp only [ho] at h2
      split
      · rename_i hw
        simp only [hw, if_true] at h2
        rcases h2 with h2 | ⟨_, h2⟩
        · exact Oper.wpIn_mono (fun a' w' h3 => any_round hnd fuel _ a' w' h3) (oper_round (noDefer_at hnd ho) h2)
        · exact absurd h2 (atEnd_out Q)
      · rename_i hw
        simp only [hw] at h2
        exact ⟨fun _ _ => trivial, any_round hnd fuel _ _ _ h2⟩
/-- Whatever order is picked from here on; S holds behind each operation that is marked. (The kit's wpAnyH, but for the marks: stores, which nothing that is to be taken waits for, may turn S's cells.) -/
def wpAnyT (P : Program) (md : Region.Mode) (ops : Array Oper) (Q : Exit → Act → World → Prop) (S : World → Prop) (T : Nat → Bool) : Nat → Array Bool → Act → World → Prop
  | 0, listed, a, w => Region.ready md ops listed = [] ∧ Q .normal a w
  | fuel + 1, listed, a, w =>
    (Region.ready md ops listed = [] → Q .normal a w) ∧
    ∀ i ∈ Region.ready md ops listed, wpOp P ops Q i (fun a' w' => (T i = true → S w') ∧ wpAnyT P md ops Q S T fuel (listed.setIfInBounds i true) a' w') a w
section
variable {P : Program} {ops : Array Oper} {Q : Exit → Act → World → Prop} {md : Region.Mode} {S : World → Prop} {T : Nat → Bool}
theorem wpAny_of_T : ∀ (fuel : Nat) (listed : Array Bool) (a : Act) (w : World), wpAnyT P md ops Q S T fuel listed a w → wpAny P md ops Q fuel listed a w
  | 0, _, _, _, h => h
  | fuel + 1, _, _, _, h => ⟨h.1, fun i hi => wpOp_mono (fun a' w' h' => wpAny_of_T fuel _ a' w' h'.2) (h.2 i hi)⟩
theorem wpAnyT_first {i : Nat} {oi : Oper} {v : Value} (hi : ops[i]? = some oi) (hsel : ∀ (j : Nat) (o : Oper) cs b, ops[j]? = some o → o.op ≠ .select cs b)
    (hT : ∀ j oj, ops[j]? = some oj → T j = false → j ≠ i → ∃ e ∈ oj.after, Region.binds md e = true ∧ e.on = i)
    (hQ : ∀ c a w, Q (.panic c) (a.put oi.dst v) w → Q (.panic c) a w) :
    ∀ (fuel : Nat) (listed : Array Bool) (a : Act) (w : World),
      (∀ j oj, ops[j]? = some oj → j ≠ i → listed.getD j true = false → (∀ e ∈ oj.after, Region.binds md e = true → e.on ≠ i) → oi.apart ops oj = true) →
      i ∈ Region.ready md ops listed → YieldsIf P ops S oi v a → S w →
      wpAnyT P md ops Q S T fuel (listed.setIfInBounds i true) (a.put oi.dst v) w → wpAnyT P md ops Q S T (fuel + 1) listed a w := by
  intro fuel
  induction fuel with
  | zero =>
    intro listed a w _ hr hy hS H
    refine ⟨fun h => (by rw [h] at hr; cases hr), fun j hj => ?_⟩
    by_cases hji : j = i
    · subst hji; exact hy.wpOp hi hS ⟨fun _ => hS, H⟩
    · have := ready_mono hj hji
      rw [H.1] at this
      cases this
  | succ fuel ih =>
    intro listed a w hfree hr hy hS H
    refine ⟨fun h => (by rw [h] at hr; cases hr), fun j hj => ?_⟩
    by_cases hji : j = i
    · subst hji; exact hy.wpOp hi hS ⟨fun _ => hS, H⟩
    · have h1 := H.2 j (ready_mono hj hji)
      obtain ⟨hjun, oj, hoj, hall⟩ := mem_ready.1 hj
      have hnot : ∀ e ∈ oj.after, Region.binds md e = true → e.on ≠ i := fun e he hb heq => by
        have h1 := hall e he hb
        have h0 := (mem_ready.1 hr).1
        rw [heq] at h1
        rcases Nat.lt_or_ge i listed.size with h' | h'
        · simp [h'] at h0 h1; rw [h0] at h1; cases h1
        · simp [Array.getElem?_eq_none h'] at h1
      have hTj : T j = true := by
        cases ht : T j with
        | true => rfl
        | false =>
          obtain ⟨e, he, hb, heq⟩ := hT j oj hoj ht hji
          exact absurd heq (hnot e he hb)
      have h2 := wpOp_putIf hoj (hfree j oj hoj hji hjun hnot) (fun cs b => hsel i oi cs b hi) (fun cs b => hsel j oj cs b hoj) hQ hy h1
      have hfree' : ∀ k ok, ops[k]? = some ok → k ≠ i → (listed.setIfInBounds j true).getD k true = false →
          (∀ e ∈ ok.after, Region.binds md e = true → e.on ≠ i) → oi.apart ops ok = true := fun k ok hk hki hun hno => by
        refine hfree k ok hk hki ?_ hno
        by_cases hjk : j = k
        · subst hjk; exact hjun
        · rw [getD_set_ne true hjk] at hun; exact hun
      refine wpOp_mono (fun a' w' h3 => ⟨h3.2.1, ih (listed.setIfInBounds j true) a' w' hfree' (ready_mono hr (Ne.symm hji)) h3.1 (h3.2.1 hTj) ?_⟩) h2
      rw [Array.setIfInBounds_comm _ _ hji]
      exact h3.2.2
/-- All that is not marked waits for number i. -/
def waitsT (md : Region.Mode) (ops : Array Oper) (T : Nat → Bool) (i : Nat) : Bool :=
  (List.range ops.size).all fun j => T j || j == i || ((ops[j]?).map fun o => o.after.any fun e => Region.binds md e && e.on == i).getD true
theorem waitsT_spec {i : Nat} (h : waitsT md ops T i = true) : ∀ j oj, ops[j]? = some oj → T j = false → j ≠ i → ∃ e ∈ oj.after, Region.binds md e = true ∧ e.on = i := by
  intro j oj hj ht hji
  obtain ⟨hlt, _⟩ := Array.getElem?_eq_some_iff.1 hj
  have h1 := (List.all_eq_true.1 h) j (List.mem_range.2 hlt)
  rw [ht, hj] at h1
  simp only [Bool.false_or, Option.map_some, Option.getD_some, Bool.or_eq_true, beq_iff_eq] at h1
  rcases h1 with h1 | h1
  · exact absurd h1 hji
  · rw [Array.any_eq_true] at h1
    obtain ⟨k, hk, h2⟩ := h1
    rw [Bool.and_eq_true, beq_iff_eq] at h2
    exact ⟨oj.after[k], Array.getElem_mem hk, h2.1, h2.2⟩
theorem drop_at {i : Nat} {oi : Oper} {l : List Oper} (h : ops.toList.drop i = oi :: l) : ops[i]? = some oi := by
  have h1 : (ops.toList.drop i)[0]? = some oi := by rw [h]; rfl
  rw [List.getElem?_drop, Nat.add_zero] at h1
  rw [← Array.getElem?_toList]; exact h1
theorem wpAnyT_take {i : Nat} {oi : Oper} {l : List Oper} {v : Value} {fuel : Nat} {listed : Array Bool} {a : Act} {w : World} (hi : ops.toList.drop i = oi :: l)
    (hs : Region.noSelect ops = true) (hf : Region.free md ops listed i = true) (hr : (Region.ready md ops listed).contains i = true) (hT : waitsT md ops T i = true)
    (hQ : ∀ c a w, Q (.panic c) (a.put oi.dst v) w → Q (.panic c) a w) (hS : S w) (hy : YieldsIf P ops S oi v a)
    (h : wpAnyT P md ops Q S T fuel (listed.setIfInBounds i true) (a.put oi.dst v) w) : wpAnyT P md ops Q S T (fuel + 1) listed a w :=
  wpAnyT_first (drop_at hi) (Region.noSelect_spec hs) (waitsT_spec hT) hQ fuel listed a w (Region.free_spec (drop_at hi) hf) (by simpa using hr) hy hS h
/-- The one that may come up. -/
theorem wpAnyT_one {i : Nat} {o : Oper} {l : List Oper} {fuel : Nat} {listed : Array Bool} {a : Act} {w : World} (hr : Region.ready md ops listed = [i]) (ho' : ops.toList.drop i = o :: l)
    (h : ∀ K : Act → World → Prop, (∀ a w, (T i = true → S w) → wpAnyT P md ops Q S T fuel (listed.setIfInBounds i true) a w → K a w) → if Region.wanted o (yielded ops a.tmps) = true then o.wp P a w K Q else K (a.put o.dst undef) w) :
    wpAnyT P md ops Q S T (fuel + 1) listed a w := by
  refine ⟨fun h0 => (by rw [hr] at h0; cases h0), fun j hj => ?_⟩
  rw [hr, List.mem_singleton] at hj
  subst hj
  have ho := drop_at ho'
  unfold wpOp
  simp only [ho]
  have h1 := h (fun a' w' => (T j = true → S w') ∧ wpAnyT P md ops Q S T fuel (listed.setIfInBounds j true) a' w') (fun _ _ hS hK => ⟨hS, hK⟩)
  split
  · rename_i hw
    rw [if_pos hw] at h1
    exact .inl h1
  · rename_i hw
    rw [if_neg hw] at h1
    exact h1
theorem wpAnyT_done {listed : Array Bool} {a : Act} {w : World} (hr : Region.ready md ops listed = []) (h : Q .normal a w) : ∀ fuel, wpAnyT P md ops Q S T fuel listed a w
  | 0 => ⟨hr, h⟩
  | _ + 1 => ⟨fun _ => h, by rw [hr]; simp⟩
end
theorem region_round {l n k : Nat} {P : Program} {id : Nat} {ops : Array Oper} {S : World → Prop} {T : Nat → Bool} {Q : Exit → Act → World → Prop} {a : Act} {w : World} (hm : P.follows .mixedOrders = true) (hnd : noDefer ops = true) (hk : ops.size = k)
    (hS : S w.drew) (h : S w.drew → wpAnyT P .any ops (atEnd Q) S T k (Array.replicate k false) a w.drew) : (Code.region id ops true).wpIn (Fence.wide.inRound l) n P Q a w := by
  subst hk
  exact wpIn_region_any hm (any_round hnd _ _ _ _ (wpAny_of_T _ _ _ _ (h hS)))
/-- .. and outside of a round. -/
theorem region_marks {k : Nat} {P : Program} {id : Nat} {ops : Array Oper} {S : World → Prop} {T : Nat → Bool} {Q : Exit → Act → World → Prop} {a : Act} {w : World} (hm : P.follows .mixedOrders = true) (hk : ops.size = k)
    (hS : S w.drew) (h : S w.drew → wpAnyT P .any ops Q S T k (Array.replicate k false) a w.drew) : (Code.region id ops true).wp P Q a w := by
  subst hk
  exact wp_region_any hm (wpAny_of_T _ _ _ _ (h hS))
theorem keeps_set {B : Nat} {W X : World} (h : X.heap = W.heap) (a : Addr) (v : Value) : KeepsFrom B W (X.setCell a v) := by
  have h1 := (KeepsOthers.setCell X a v).from B
  exact ⟨by rw [← h]; exact h1.size, fun k o hB hk ho => h1.same k o hB (by rw [h]; exact hk) ho⟩
theorem below_same {B : Nat} {W X : World} (h : X.heap = W.heap) (h1 : X.os = W.os) (h2 : X.tape = W.tape) (h3 : X.output = W.output) : Below B W X :=
  ⟨h1, h2, h3, Nat.le_of_eq (by rw [h]), fun k _ => by rw [h]⟩
end Go.Proofs.YtohcoidbncbijaaDoor.P
/- Round's walk, where what is not marked may wait for an operation by way of another. Conditions: those of Round; what is listed is closed. -/
namespace Go.Proofs.YtohcoidbncbijaaDoor.P
open Go.RowKit
set_option linter.unusedVariables false
/-- With each listed one all that it waits for is listed. -/
def closedB (md : Region.Mode) (ops : Array Oper) (listed : Array Bool) : Bool :=
  (List.range ops.size).all fun m => !listed.getD m false || ((ops[m]?).map fun o => o.after.all fun e => !Region.binds md e || listed.getD e.on false).getD true
def Closed (md : Region.Mode) (ops : Array Oper) (listed : Array Bool) : Prop :=
  ∀ m om, ops[m]? = some om → listed.getD m false = true → ∀ e ∈ om.after, Region.binds md e = true → listed.getD e.on false = true
theorem closedB_spec {md : Region.Mode} {ops : Array Oper} {listed : Array Bool} (h : closedB md ops listed = true) : Closed md ops listed := by
  intro m om hm hl e he hb
  obtain ⟨hlt, _⟩ := Array.getElem?_eq_some_iff.1 hm
  have h1 := (List.all_eq_true.1 h) m (List.mem_range.2 hlt)
  rw [hl, hm] at h1
  simp only [Bool.not_true, Bool.false_or, Option.map_some, Option.getD_some] at h1
  rw [Array.all_eq_true_iff_forall_mem] at h1
  have h2 := h1 e he
  rw [hb] at h2
  simpa using h2
theorem getD_set_true (l : Array Bool) (j m : Nat) (h : l.getD m false = true) : (l.setIfInBounds j true).getD m false = true := by
  rw [Array.getD_eq_getD_getElem?] at h ⊢
  rw [Array.getElem?_setIfInBounds]
  split
  · rename_i e
    subst e
    split
    · rfl
    · rename_i h2
      rw [Array.getElem?_eq_none (by omega)] at h; exact h
  · exact h
theorem Closed.set {md : Region.Mode} {ops : Array Oper} {listed : Array Bool} (h : Closed md ops listed) {j : Nat} (hj : j ∈ Region.ready md ops listed) : Closed md ops (listed.setIfInBounds j true) := by
  intro m om hm hl e he hb
  refine getD_set_true _ _ _ ?_
  by_cases e1 : m = j
  · subst e1
    obtain ⟨_, oj, hoj, hall⟩ := mem_ready.1 hj
    rw [hm] at hoj; cases hoj
    exact hall e he hb
  · refine h m om hm ?_ e he hb
    rw [Array.getD_eq_getD_getElem?] at hl ⊢
    rwa [Array.getElem?_setIfInBounds_ne (fun x => e1 x.symm)] at hl
section
variable {P : Program} {ops : Array Oper} {Q : Exit → Act → World → Prop} {md : Region.Mode} {S : World → Prop} {T : Nat → Bool}
def direct (md : Region.Mode) (ops : Array Oper) (j i : Nat) : Bool := ((ops[j]?).map fun o => o.after.any fun e => Region.binds md e && e.on == i).getD false
theorem direct_spec {j i : Nat} {oj : Oper} (hj : ops[j]? = some oj) (h : direct md ops j i = true) : ∃ e ∈ oj.after, Region.binds md e = true ∧ e.on = i := by
  unfold direct at h
  rw [hj] at h
  simp only [Option.map_some, Option.getD_some] at h
  rw [Array.any_eq_true] at h
  obtain ⟨k, hk, h2⟩ := h
  rw [Bool.and_eq_true, beq_iff_eq] at h2
  exact ⟨oj.after[k], Array.getElem_mem hk, h2.1, h2.2⟩
/-- All that is not marked waits for number i, or for one that does. -/
def waits2 (md : Region.Mode) (ops : Array Oper) (T : Nat → Bool) (i : Nat) : Bool :=
  (List.range ops.size).all fun j => T j || j == i || direct md ops j i || ((ops[j]?).map fun o => o.after.any fun e => Region.binds md e && direct md ops e.on i).getD false
theorem waits2_spec {i : Nat} (h : waits2 md ops T i = true) {listed : Array Bool} (hc : Closed md ops listed) (hi : listed.getD i false = false) : ∀ j, j ∈ Region.ready md ops listed → j ≠ i → T j = true := by
  intro j hj hji
  obtain ⟨hjun, oj, hoj, hall⟩ := mem_ready.1 hj
  obtain ⟨hlt, _⟩ := Array.getElem?_eq_some_iff.1 hoj
  have h1 := (List.all_eq_true.1 h) j (List.mem_range.2 hlt)
  cases ht : T j with
  | true => rfl
  | false =>
    exfalso
    rw [ht] at h1
    simp only [Bool.false_or, Bool.or_eq_true, beq_iff_eq] at h1
    rcases h1 with (h1 | h1) | h1
    · exact hji h1
    · obtain ⟨e, he, hb, heq⟩ := direct_spec hoj h1
      have h2 := hall e he hb
      rw [heq, hi] at h2; cases h2
    · rw [hoj] at h1
      simp only [Option.map_some, Option.getD_some] at h1
      rw [Array.any_eq_true] at h1
      obtain ⟨k, hk, h2⟩ := h1
      rw [Bool.and_eq_true] at h2
      have h3 := hall _ (Array.getElem_mem hk) h2.1
      have h4 := h2.2
      cases hm : ops[oj.after[k].on]? with
      | none => unfold direct at h4; rw [hm] at h4; simp at h4
      | some om =>
        obtain ⟨e, he, hb, heq⟩ := direct_spec hm h4
        have h5 := hc _ om hm h3 e he hb
        rw [heq, hi] at h5; cases h5
theorem unlisted {i : Nat} {listed : Array Bool} (h : i ∈ Region.ready md ops listed) : listed.getD i false = false := by
  have h0 := (mem_ready.1 h).1
  rcases Nat.lt_or_ge i listed.size with h' | h'
  · simpa [h'] using h0
  · simp [Array.getElem?_eq_none h'] at h0
theorem wpAnyT_first2 {i : Nat} {oi : Oper} {v : Value} (hi : ops[i]? = some oi) (hsel : ∀ (j : Nat) (o : Oper) cs b, ops[j]? = some o → o.op ≠ .select cs b)
    (hT : waits2 md ops T i = true)
    (hQ : ∀ c a w, Q (.panic c) (a.put oi.dst v) w → Q (.panic c) a w) :
    ∀ (fuel : Nat) (listed : Array Bool) (a : Act) (w : World), Closed md ops listed →
      (∀ j oj, ops[j]? = some oj → j ≠ i → listed.getD j true = false → (∀ e ∈ oj.after, Region.binds md e = true → e.on ≠ i) → oi.apart ops oj = true) →
      i ∈ Region.ready md ops listed → YieldsIf P ops S oi v a → S w →
      wpAnyT P md ops Q S T fuel (listed.setIfInBounds i true) (a.put oi.dst v) w → wpAnyT P md ops Q S T (fuel + 1) listed a w := by
  intro fuel
  induction fuel with
  | zero =>
    intro listed a w _ _ hr hy hS H
    refine ⟨fun h => (by rw [h] at hr; cases hr), fun j hj => ?_⟩
    by_cases hji : j = i
    · subst hji; exact hy.wpOp hi hS ⟨fun _ => hS, H⟩
    · have := ready_mono hj hji
      rw [H.1] at this
      cases this
  | succ fuel ih =>
    intro listed a w hcl hfree hr hy hS H
    refine ⟨fun h => (by rw [h] at hr; cases hr), fun j hj => ?_⟩
    by_cases hji : j = i
    · subst hji; exact hy.wpOp hi hS ⟨fun _ => hS, H⟩
    · have h1 := H.2 j (ready_mono hj hji)
      obtain ⟨hjun, oj, hoj, hall⟩ := mem_ready.1 hj
      have hun := unlisted hr
      have hnot : ∀ e ∈ oj.after, Region.binds md e = true → e.on ≠ i := fun e he hb heq => by
        have h1 := hall e he hb
        rw [heq, hun] at h1
        cases h1
      have hTj : T j = true := waits2_spec hT hcl hun j hj hji
      have h2 := wpOp_putIf hoj (hfree j oj hoj hji hjun hnot) (fun cs b => hsel i oi cs b hi) (fun cs b => hsel j oj cs b hoj) hQ hy h1
      have hfree' : ∀ k ok, ops[k]? = some ok → k ≠ i → (listed.setIfInBounds j true).getD k true = false →
          (∀ e ∈ ok.after, Region.binds md e = true → e.on ≠ i) → oi.apart ops ok = true := fun k ok hk hki hun hno => by
        refine hfree k ok hk hki ?_ hno
        by_cases hjk : j = k
        · subst hjk; exact hjun
        · rw [getD_set_ne true hjk] at hun; exact hun
      refine wpOp_mono (fun a' w' h3 => ⟨h3.2.1, ih (listed.setIfInBounds j true) a' w' (hcl.set hj) hfree' (ready_mono hr (Ne.symm hji)) h3.1 (h3.2.1 hTj) ?_⟩) h2
      rw [Array.setIfInBounds_comm _ _ hji]
      exact h3.2.2
theorem wpAnyT_take2 {i : Nat} {oi : Oper} {l : List Oper} {v : Value} {fuel : Nat} {listed : Array Bool} {a : Act} {w : World} (hi : ops.toList.drop i = oi :: l)
    (hc : closedB md ops listed = true) (hs : Region.noSelect ops = true) (hf : Region.free md ops listed i = true) (hr : (Region.ready md ops listed).contains i = true) (hT : waits2 md ops T i = true)
    (hQ : ∀ c a w, Q (.panic c) (a.put oi.dst v) w → Q (.panic c) a w) (hS : S w) (hy : YieldsIf P ops S oi v a)
    (h : wpAnyT P md ops Q S T fuel (listed.setIfInBounds i true) (a.put oi.dst v) w) : wpAnyT P md ops Q S T (fuel + 1) listed a w :=
  wpAnyT_first2 (drop_at hi) (Region.noSelect_spec hs) hT hQ fuel listed a w (closedB_spec hc) (Region.free_spec (drop_at hi) hf) (by simpa using hr) hy hS h
end
/-- A region outside of a round that does not panic. -/
theorem region_marks2 {k : Nat} {P : Program} {id : Nat} {ops : Array Oper} {S : World → Prop} {T : Nat → Bool} {Q : Exit → Act → World → Prop} {a : Act} {w : World} (hm : P.follows .mixedOrders = true) (hk : ops.size = k)
    (hS : S w.drew) (h : S w.drew → wpAnyT P .any ops (NoPanic Q) S T k (Array.replicate k false) a w.drew) : (Code.region id ops true).wp P Q a w :=
  wp_region_noPanic (region_marks hm hk hS h)
end Go.Proofs.YtohcoidbncbijaaDoor.P
/- The contracts of package factor's Radices and Smooth. Conditions: a number of 64 bits; the library's table lies as it was laid. -/
namespace Go.Proofs.YtohcoidbncbijaaDoor.P
open Go.RowKit Go.Shelf
set_option linter.unusedVariables false
set_option linter.unusedSimpArgs false
attribute [local go_sem] Oper.semAt_some
theorem info_int1 : (Tryd.prog.info? 3).map (fun i => (i.zero, i.size, i.bytes)) = some (some (.int .i64 0), 1, 8) := by kernel_rfl
/-- Results that lie in variables. -/
theorem results_cell2 {fn : Func} {P : Program} {p q : Tmp} {ty ty2 : TypeId} (h : fn.results = #[.cell p ty, .cell q ty2]) (tmps : Array Value) (w : World) (x y : Addr) (u v : Value)
    (hp : tmps.getD p undef = .pointer (some x)) (hq : tmps.getD q undef = .pointer (some y)) (hu : (loadVar ty x).run P w = .ok u w) (hv : (loadVar ty2 y).run P w = .ok v w) :
    (results fn tmps).run P w = .ok (.tuple #[u, v]) w := by
  rw [Array.getD_eq_getD_getElem?] at hp hq
  simp only [results, h]
  simp [Sem.run_bind, Result.andThen, hp, hq, asAddr, hu, hv]
theorem load_ints (w : World) (H : Nat) (v : Value) (hb : Boxed w H 70 v) : (loadVar 70 ⟨H, 0, none⟩).run Tryd.prog w = .ok v w := by
  have hc := hb.cell
  go_simp
theorem load_errno (w : World) (H : Nat) (v : Value) (hb : Boxed w H 27 v) : (loadVar 27 ⟨H, 0, none⟩).run Tryd.prog w = .ok v w := by
  have hc := hb.cell
  go_simp
/-- 'l = append(l, ..)', l in block B, the row from block b on. -/
theorem box_appended {W w1 : World} {n₀ b B : Nat} {t e : TypeId} {size : Nat} {v v' : Value} {k m : Nat} {xs ys : List Value} {tmp : Obj}
    (hv : Boxed W B t v) (hBb : B < b) (hn : n₀ ≤ B) (hrow : W.ownsRow b e size v k xs) (hb : b ≤ W.heap.size)
    (hown' : w1.ownsRow b e size v' m ys) (hgrow : (W.alloc tmp).grownBy w1 v.ownBlock) :
    Boxed w1 B t v ∧ Boxed (w1.setCell ⟨B, 0, none⟩ v') B t v' ∧ (w1.setCell ⟨B, 0, none⟩ v').ownsRow b e size v' m ys ∧ KeepsOthers W (w1.setCell ⟨B, 0, none⟩ v') ∧ Below n₀ W (w1.setCell ⟨B, 0, none⟩ v') ∧
      ∀ C, C < b → C ≠ B → (w1.setCell ⟨B, 0, none⟩ v').heap[C]? = W.heap[C]? := by
  have hg : ∀ j, v.ownBlock = some j → b ≤ j := fun j ej => by
    rcases hrow.2 with ⟨rfl, _⟩ | ⟨g, cap, cur, rfl, hbg, _, _⟩
    · simp [Value.ownBlock] at ej
    · obtain rfl : g = j := by simpa [Value.ownBlock] using ej
      exact hbg
  have hg' : v'.ownBlock ≠ some B := fun ej => by
    rcases hown'.2 with ⟨rfl, _⟩ | ⟨g, cap, cur, rfl, hbg, _, _⟩
    · simp [Value.ownBlock] at ej
    · obtain rfl : g = B := by simpa [Value.ownBlock] using ej
      omega
  have hvB : some B ≠ v.ownBlock := fun ej => by have := hg B ej.symm; omega
  have hv1 : Boxed w1 B t v := (hv.alloc tmp).kept hgrow hvB
  refine ⟨hv1, hv1.set v', hown'.kept (grownBy_setCell' w1 B v') (.inr hg'), ?_, ?_, ?_⟩
  · refine ((KeepsOthers.alloc W tmp).trans (KeepsOthers.of_grownBy hgrow fun j o ej hj => ?_)).trans (KeepsOthers.setCell _ _ _)
    rcases (hrow.alloc tmp).2 with ⟨rfl, _⟩ | ⟨g, cap, cur, rfl, _, hgb, _⟩
    · simp [Value.ownBlock] at ej
    · obtain rfl : g = j := by simpa [Value.ownBlock] using ej
      rw [hgb] at hj; cases hj; rfl
  · exact (((Below.refl n₀ W).alloc (by omega) tmp).grown hgrow (by simp; omega) fun j ej => by have := hg j ej; omega).setCell (p := ⟨B, 0, none⟩) hn v'
  · intro C hC hCB
    rw [Below.heap_setCell _ _ _ _ (by show C ≠ B; exact hCB), hgrow.block C (by simp; omega) (fun ej => by have := hg C ej.symm; omega)]
    exact heap_alloc_old W tmp C (by omega)
theorem rad_seq (f : Nat) (hf : 1 ≤ f) (Bs n₀ n : Nat) (h0 : 0 < n) (hn : n ≤ 4096) (hB : n₀ ≤ Bs) (w : World) (hsz : Bs < w.heap.size) (hBs : w.cell? ⟨Bs, 0, none⟩ = some (.int .i64 (n : Int))) (hBf : w.frozen? ⟨Bs, 0, none⟩ = false) (hT : Tab w) :
    SeqCell Fence.wide f Tryd.prog 142 #[.pointer (some ⟨Bs, 0, none⟩)] (fun x : Int => #[Value.int .i64 x]) (K3 n₀ Bs) (fun ys => ys = radL n) (fun pre => ∃ k, k ≤ (radL n).length ∧ pre = (radL n).take k) (radL n).length Bs w := by
  intro l J Jx W hW hJ hJx hY hj
  exact rad1_in f hf l Bs n₀ n h0 hn J Jx hJ hJx hB hY W ((hW.cell (p := ⟨Bs, 0, none⟩) hsz).trans hBs) ((World.frozen?_of_block (hW.block Bs hsz)).trans hBf) (hT.below hW) hj
/-- The list that is being told, in its variable. -/
def Told (b H : Nat) (pre : List Int) (W : World) : Prop := ∃ v, Boxed W H 70 v ∧ W.ownsRow b 3 1 v pre.length (nums .i64 pre)
theorem Told.own (b H : Nat) : Go.Own (Told b H) := fun s A B row hs hg hr => by
  obtain ⟨v, h1, h2⟩ := hs
  refine ⟨v, h1.kept hg ?_, World.ownsRow.kept h2 hg ?_⟩
  · intro e
    obtain ⟨o, ho, hc⟩ := hr H e.symm
    rw [show A.heap[H]? = _ from h1] at ho; cases ho; cases hc
  · rcases h2.2 with ⟨hv, _⟩ | ⟨g, cap, cur, hv, _, hh, _⟩
    · rw [hv]; exact .inl rfl
    · rw [hv]
      refine .inr fun e => ?_
      obtain ⟨o, ho, hc⟩ := hr g e.symm
      rw [hh] at ho; cases ho; cases hc
theorem Told.far {b H Bs : Nat} (h1 : H < Bs) (h2 : Bs < b) : Bears Bs (Told b H) := fun s W v hs => by
  obtain ⟨u, hb, ho⟩ := hs
  refine ⟨u, hb.kept (grownBy_setCell' W Bs v) (by simp; omega), World.ownsRow.kept ho (grownBy_setCell' W Bs v) ?_⟩
  rcases ho.2 with ⟨hv, _⟩ | ⟨g, cap, cur, hv, hg, _⟩
  · rw [hv]; exact .inl rfl
  · rw [hv]; exact .inr (by simp [Value.ownBlock]; omega)
theorem boxed_own {β : Type} (B : Nat) (t : TypeId) (v : Value) : Go.Own (fun (_ : β) W => Boxed W B t v) := fun s A W row hs hg hr => by
  refine hs.kept hg fun e => ?_
  obtain ⟨o, ho, hc⟩ := hr B e.symm
  rw [show A.heap[B]? = _ from hs] at ho; cases ho; cases hc
theorem boxed_far {β : Type} {B Bs : Nat} (h : B < Bs) (t : TypeId) (v : Value) : Bears Bs (fun (_ : β) W => Boxed W B t v) := fun s W u hs => hs.kept (grownBy_setCell' W Bs u) (by simp; omega)
theorem below_far {β : Type} {n₀ Bs : Nat} (h : n₀ ≤ Bs) (w : World) : Bears Bs (fun (_ : β) W => Below n₀ w W) := fun s W u hs => hs.setCell (p := ⟨Bs, 0, none⟩) h u
theorem size_own {β : Type} (k B : Nat) : OwnFrom B (fun (_ : β) W => k ≤ W.heap.size) := fun _ _ _ _ hs hg _ => Nat.le_trans hs hg.size
theorem size_far {β : Type} (k Bs : Nat) : Bears Bs (fun (_ : β) W => k ≤ W.heap.size) := fun _ W v hs => by show k ≤ (W.setCell _ _).heap.size; rw [World.size_setCell]; exact hs
theorem radices_in (f : Nat) (n : Int) (w : World) : CallsIn Fence.wide f Tryd.prog 106 #[.int .i64 n] w fun e w' =>
    e = .returned (.func (.func 142) #[] #[.pointer (some ⟨w.heap.size, 0, none⟩)]) ∧ w' = w.alloc (.cells #[.int .i64 n] 3) := by
  refine callsIn_of_wp Tryd.func106 rfl trivial ?_ rfl
  simp only [Tryd.ntmps106, List.size_toArray, List.length_cons, List.length_nil, Nat.reduceAdd, Nat.reduceSub, Array.replicate_succ, Array.replicate_zero, List.push_toArray, List.append_toArray, List.nil_append, List.cons_append]
  gi_wp2
  go_ret
  exact ⟨rfl, rfl⟩
set_option maxRecDepth 100000 in
set_option maxHeartbeats 2000000 in
theorem radices_calls (n : Int) (w : World) (hn : i64 n) (hT : Tab w) :
    Calls Tryd.prog 63 #[.int .i64 n] w fun e w' => ∃ B b,
      e = .returned (.tuple #[.slice B (facS n).1.length b, .int .i64 (facS n).2]) ∧ P.Own w' w.heap.size 3 1 B (facS n).1.length b (nums .i64 (facS n).1) ∧ Below w.heap.size w w' := by
  refine (callsIn_wide (n := 6)).1 ?_
  refine callsIn_of_wp_marks Tryd.func63 rfl trivial ?_ rfl
  simp only [Tryd.ntmps63, List.size_toArray, List.length_cons, List.length_nil, Nat.reduceAdd, Nat.reduceSub, Array.replicate_succ, Array.replicate_zero, List.push_toArray, List.append_toArray, List.nil_append, List.cons_append]
  by_cases h1 : n < 1
  · have HF : Hid (facS n = ([], 4)) := Lib.hid (by rw [facS, if_neg (by omega)])
    have a1 : decide (n < 1) = true := by simpa using h1
    gi_wp2
    have b1 := (Boxed.new w 70 (.slice none 0 0)).alloc (.cells #[.int .i64 4] 27)
    have b2 := Boxed.new (w.alloc (.cells #[.slice none 0 0] 70)) 27 (.int .i64 4)
    rw [World.size_alloc] at b2
    refine ⟨_, results_cell2 rfl _ _ ⟨w.heap.size, 0, none⟩ ⟨w.heap.size + 1, 0, none⟩ (.slice none 0 0) (.int .i64 4) rfl rfl (load_ints _ _ _ b1) (load_errno _ _ _ b2), none, 0, by rw [HF.out]; rfl, by rw [HF.out]; exact Own.nil _ _ _ _, ?_⟩
    exact ((Below.refl _ w).alloc (Nat.le_refl _) _).alloc (by simp) _
  have a1 : decide (n < 1) = false := by simpa using h1
  by_cases h2 : 4096 < n
  · have HF : Hid (facS n = ([], 4)) := Lib.hid (by rw [facS, if_neg (by omega)])
    have a2 : decide (4096 < n) = true := by simpa using h2
    gi_wp2
    have b1 := (Boxed.new w 70 (.slice none 0 0)).alloc (.cells #[.int .i64 4] 27)
    have b2 := Boxed.new (w.alloc (.cells #[.slice none 0 0] 70)) 27 (.int .i64 4)
    rw [World.size_alloc] at b2
    refine ⟨_, results_cell2 rfl _ _ ⟨w.heap.size, 0, none⟩ ⟨w.heap.size + 1, 0, none⟩ (.slice none 0 0) (.int .i64 4) rfl rfl (load_ints _ _ _ b1) (load_errno _ _ _ b2), none, 0, by rw [HF.out]; rfl, by rw [HF.out]; exact Own.nil _ _ _ _, ?_⟩
    exact ((Below.refl _ w).alloc (Nat.le_refl _) _).alloc (by simp) _
  have a2 : decide (4096 < n) = false := by simpa using h2
  obtain ⟨N, rfl⟩ := Int.eq_ofNat_of_zero_le (show 0 ≤ n by omega)
  have hN0 : 0 < N := by omega
  have hN1 : N ≤ 4096 := by omega
  have HFY : Hid ((∀ r ∈ radL N, r ≤ 5) → facS N = (radL N, 0)) := Lib.hid fun h => by rw [facS, if_pos ⟨by omega, by omega⟩, Int.toNat_natCast, if_pos h]
  have HFN : Hid ((∃ r ∈ radL N, 5 < r) → facS N = ([], 4)) := Lib.hid fun ⟨r, hr, h5⟩ => by rw [facS, if_pos ⟨by omega, by omega⟩, Int.toNat_natCast, if_neg (fun h => by have := h r hr; omega)]
  have hlen := (fac_odd hN0 hN1).2.2.2
  gi_wp2
  refine ⟨trivial, ?_⟩
  refine (radices_in _ _ _).mono ?_
  rintro e w' ⟨rfl, rfl⟩
  gi_wp2
  have b1 := ((Boxed.new w 70 (.slice none 0 0)).alloc (.cells #[.int .i64 0] 27)).alloc (.cells #[.int .i64 (N : Int)] 3)
  have b2 := (Boxed.new (w.alloc (.cells #[.slice none 0 0] 70)) 27 (.int .i64 0)).alloc (.cells #[.int .i64 (N : Int)] 3)
  have b3 := Boxed.new ((w.alloc (.cells #[.slice none 0 0] 70)).alloc (.cells #[.int .i64 0] 27)) 3 (.int .i64 (N : Int))
  have hB0 : Below w.heap.size w (((w.alloc (.cells #[.slice none 0 0] 70)).alloc (.cells #[.int .i64 0] 27)).alloc (.cells #[.int .i64 (N : Int)] 3)) := (((Below.refl _ w).alloc (Nat.le_refl _) _).alloc (by simp) _).alloc (by simp; omega) _
  have hT0 := hT.below hB0
  have hs0 : (((w.alloc (.cells #[.slice none 0 0] 70)).alloc (.cells #[.int .i64 0] 27)).alloc (.cells #[.int .i64 (N : Int)] 3)).heap.size = w.heap.size + 3 := by simp
  simp only [World.size_alloc] at b2 b3
  generalize (((w.alloc (.cells #[.slice none 0 0] 70)).alloc (.cells #[.int .i64 0] 27)).alloc (.cells #[.int .i64 (N : Int)] 3)) = w3 at *
  refine wpIn_rangeFunc_cell (w.heap.size + 1 + 1) (by omega) rfl (by omega) (gf := 142) (lb := #[.pointer (some ⟨w.heap.size + 1 + 1, 0, none⟩)]) rfl trivial (enters_of Tryd.func142 (by kernel_rfl) rfl)
    (rad_seq (6 - 1) (by omega) (w.heap.size + 1 + 1) w.heap.size N hN0 hN1 (by omega) w3 (by omega) b3.cell b3.frozen hT0) (fun h k => K3.trans h k) (k3_b (by omega) (by omega)) (Below.refl _ _) (fun _ => rfl)
    (fun pre W => ((Told (w.heap.size + 3) w.heap.size pre W ∧ Boxed W (w.heap.size + 1) 27 (.int .i64 0)) ∧ ∀ x ∈ pre, x ≤ 5) ∧ Below w.heap.size w W ∧ w.heap.size + 3 ≤ W.heap.size)
    (fun c pre W => ((c = .ret ∧ Boxed W w.heap.size 70 (.slice none 0 0)) ∧ Boxed W (w.heap.size + 1) 27 (.int .i64 4) ∧ ∃ x ∈ pre, 5 < x) ∧ Below w.heap.size w W)
    (OwnFrom.and (OwnFrom.and (OwnFrom.and ((Told.own _ _).from _) ((boxed_own _ _ _).from _)) (fun _ _ _ _ hs _ _ => hs)) (OwnFrom.and (ownFrom_below (Nat.le_refl _) (by omega)) (size_own _ _)))
    (fun c => OwnFrom.and (OwnFrom.and (OwnFrom.and (fun _ _ _ _ hs _ _ => hs) ((boxed_own _ _ _).from _)) (OwnFrom.and ((boxed_own _ _ _).from _) (fun _ _ _ _ hs _ _ => hs))) (ownFrom_below (Nat.le_refl _) (by omega)))
    (fun s W v hs => ⟨⟨⟨Told.far (by omega) (by omega) _ _ _ hs.1.1.1, boxed_far (by omega) _ _ s _ _ hs.1.1.2⟩, hs.1.2⟩, below_far (by omega) _ s _ _ hs.2.1, size_far _ _ s _ _ hs.2.2⟩)
    (fun c s W v hs => ⟨⟨⟨hs.1.1.1, boxed_far (by omega) _ _ s _ _ hs.1.1.2⟩, boxed_far (by omega) _ _ s _ _ hs.1.2.1, hs.1.2.2⟩, below_far (by omega) _ s _ _ hs.2⟩)
    ⟨⟨⟨⟨_, b1, World.ownsRow_nil _ _ _ _⟩, b2⟩, by simp⟩, hB0, by omega⟩
    (fun x => { tmps := #[.int .i64 (N : Int), undef, .pointer (some ⟨w.heap.size, 0, none⟩), .pointer (some ⟨w.heap.size + 1, 0, none⟩), .int .i64 x, .int .i64 (N : Int), .bool false, .bool false, .int .i64 (N : Int), .bool false, .bool false, .int .i64 (N : Int), .func (.func 142) #[] #[.pointer (some ⟨w.heap.size + 1 + 1, 0, none⟩)], .int .i64 x, undef, undef, undef, undef, undef, undef, undef], defers := [] }) ?assign ?body ?done ?stop
  case assign =>
    intro li x W K hK
    gi_wp2
    exact hK
  case body =>
    rintro li pre x W ⟨⟨⟨⟨v, hbv, hov⟩, hbe⟩, h5⟩, hB, hsz⟩ hpre
    have hc2 := hbv.cell
    have hf2 := hbv.frozen
    have hc3 := hbe.cell
    have hf3 := hbe.frozen
    have HBV := Lib.hid hbv
    have HBE := Lib.hid hbe
    have HBB := Lib.hid hB
    have HSZ := Lib.hid hsz
    have HPL := Lib.hid hpre
    by_cases hx : 5 < x
    · have a3 : decide (5 < x) = true := by simpa using hx
      have hcx : (W.setCell ⟨w.heap.size, 0, none⟩ (.slice none 0 0)).cell? ⟨w.heap.size + 1, 0, none⟩ = some (.int .i64 0) := by
        rw [World.cell?_setCell_far _ _ _ _ (by simp)]; exact hc3
      clear hbv hbe hov hB hsz hpre
      gi_wp2
      have e1 := HBV.out.set (.slice none 0 0)
      have e2 : Boxed (W.setCell ⟨w.heap.size, 0, none⟩ (.slice none 0 0)) (w.heap.size + 1) 27 (.int .i64 0) := HBE.out.kept (grownBy_setCell' W _ _) (by simp)
      exact ⟨((KeepsOthers.setCell _ _ _).trans (KeepsOthers.setCell _ _ _)).from _, ⟨⟨rfl, e1.kept (grownBy_setCell' _ _ _) (by simp)⟩, e2.set _, x, by simp, hx⟩,
        (HBB.out.setCell (by simp) _).setCell (by simp) _⟩
    · have a3 : decide (5 < x) = false := by simpa using hx
      obtain ⟨i0, hi, hz0, hz1, hz2⟩ := info_parts info_int1
      clear hbe hB hsz hpre
      gi_wp2_with (first
        | (gi_at_builtin; refine wpListIn_append_own _ rfl _ _ 70 rfl (w.heap.size + 3) 3 i0 (.int .i64 0) 1 8 Tryd.underlying70 hi hz0 hz1 hz2 rfl (by decide) _ _ _ rfl (hov.alloc _) ⟨W.heap.size, 0, none⟩ 1 1 [.int .i64 x] rfl rfl ?c1 ?c2 ?c3 ?c4 ?c5 ?_)
        | gi_in)
      case c2 => rfl
      case c3 => have := HPL.out; unfold maxLen; omega
      case c4 => have := HPL.out; omega
      case c5 => have := HSZ.out; simp; omega
      intro v' w1 hown' hgrow _
      obtain ⟨gg, gc, rfl⟩ := ownsRow_succ hown'
      have hN : nums .i64 pre ++ [Value.int .i64 x] = nums .i64 (pre ++ [x]) := by simp [nums]
      rw [hN] at hown'
      obtain ⟨g1, g2, g3, g4, g5, g6⟩ := box_appended (n₀ := w.heap.size) HBV.out (by omega) (Nat.le_refl _) hov HSZ.out hown' hgrow
      have hc4 := g1.cell
      have hf4 := g1.frozen
      have HG := Lib.hid hgrow
      clear hov hown' hgrow hbv
      gi_wp2
      refine ⟨g4.from _, ⟨g5, World.cell?_of_block (g6 (w.heap.size + 1 + 1) (by omega) (by omega)), World.frozen?_of_block (g6 (w.heap.size + 1 + 1) (by omega) (by omega))⟩, ⟨⟨⟨_, g2, by rw [List.length_append]; exact g3⟩, ?_⟩, ?_⟩, HBB.out.trans g5, ?_⟩
      · exact (g6 (w.heap.size + 1) (by omega) (by omega)).trans HBE.out
      · intro y hy
        rw [List.mem_append, List.mem_singleton] at hy
        rcases hy with hy | rfl
        · exact h5 y hy
        · omega
      · have := g5.size; have := HSZ.out; omega
  case done =>
    rintro D ys W hD rfl ⟨⟨⟨⟨v, hbv, hov⟩, hbe⟩, h5⟩, hB, hsz⟩ hK
    have HF := Lib.hid (HFY.out h5)
    obtain ⟨B, b, rfl⟩ : ∃ B b, v = .slice B (radL N).length b := by
      rcases hov.2 with ⟨hv, h0⟩ | ⟨g, cap, cur, hv, _⟩
      · exact ⟨none, 0, by rw [hv, h0]⟩
      · exact ⟨_, _, hv⟩
    have hc2 := hbv.cell
    have hf2 := hbv.frozen
    have hf3 := hbe.frozen
    have hc3 : (W.setCell ⟨w.heap.size, 0, none⟩ (.slice B (radL N).length b)).cell? ⟨w.heap.size + 1, 0, none⟩ = some (.int .i64 0) := by
      rw [World.cell?_setCell_far _ _ _ _ (by simp)]; exact hbe.cell
    have HBV := Lib.hid hbv
    have HBE := Lib.hid hbe
    have HOV := Lib.hid hov
    have HKK := Lib.hid hK
    have HBB := Lib.hid hB
    generalize hL : radL N = L at *
    clear hbv hbe hov hK hB
    gi_wp2
    have e1 := HBV.out.set (.slice B L.length b)
    have e2 : Boxed (W.setCell ⟨w.heap.size, 0, none⟩ (.slice B L.length b)) (w.heap.size + 1) 27 (.int .i64 0) := HBE.out.kept (grownBy_setCell' W _ _) (by simp)
    have e3 := e1.kept (grownBy_setCell' _ (w.heap.size + 1) (.int .i64 0)) (by simp)
    have e4 := e2.set (.int .i64 0)
    have hOB : ∀ {C : Nat}, C < w.heap.size + 3 → (Value.slice B L.length b).ownBlock ≠ some C := fun {C} hC ej => by
      rcases HOV.out.2 with ⟨hv, _⟩ | ⟨g, cap, cur, hv, hg, _⟩
      · rw [hv] at ej; simp [Value.ownBlock] at ej
      · rw [hv] at ej; simp [Value.ownBlock] at ej; omega
    have e5 := World.ownsRow.kept (World.ownsRow.kept HOV.out (grownBy_setCell' W w.heap.size (.slice B L.length b)) (.inr (hOB (by omega)))) (grownBy_setCell' _ (w.heap.size + 1) (.int .i64 0)) (.inr (hOB (by omega)))
    have e6 : Below w.heap.size w ((W.setCell ⟨w.heap.size, 0, none⟩ (.slice B L.length b)).setCell ⟨w.heap.size + 1, 0, none⟩ (.int .i64 0)) := (HBB.out.setCell (by simp) _).setCell (by simp) _
    have e7 : ((W.setCell ⟨w.heap.size, 0, none⟩ (.slice B L.length b)).setCell ⟨w.heap.size + 1, 0, none⟩ (.int .i64 0)).heap[D]? = some (.deferred (some [])) := by
      rw [Below.heap_setCell _ _ _ _ (by show D ≠ w.heap.size + 1; omega), Below.heap_setCell _ _ _ _ (by show D ≠ w.heap.size; omega)]; exact HKK.out
    generalize (W.setCell ⟨w.heap.size, 0, none⟩ (.slice B L.length b)).setCell ⟨w.heap.size + 1, 0, none⟩ (.int .i64 0) = W2 at *
    refine ⟨by simp, .inl ⟨_, _, rfl, run_takeDeferred e7, ?_⟩⟩
    refine ⟨_, results_cell2 rfl _ _ ⟨w.heap.size, 0, none⟩ ⟨w.heap.size + 1, 0, none⟩ (.slice B L.length b) (.int .i64 0) rfl rfl (load_ints _ _ _ (e3.kept (grownBy_putObj' W2 D _) (by simp; omega))) (load_errno _ _ _ (e4.kept (grownBy_putObj' W2 D _) (by simp; omega))), B, b, by rw [HF.out], ?_, ?_⟩
    · rw [HF.out]
      have e8 : P.Own W2 w.heap.size 3 1 B L.length b (nums .i64 L) := Own.mono (B := w.heap.size + 3) e5 (by omega)
      refine World.ownsRow.kept e8 (grownBy_putObj' W2 D _) ?_
      rcases e8.2 with ⟨hv, _⟩ | ⟨g, cap, cur, hv, _, hh, _⟩
      · rw [hv]; exact .inl rfl
      · rw [hv]
        refine .inr fun ej => ?_
        obtain rfl : g = D := by simpa [Value.ownBlock] using ej
        rw [hh] at e7; cases e7
    · exact e6.trans (belowK_b (w := w) (Nat.le_refl _) W2 D _ _ (by omega) e7 rfl rfl)
  case stop =>
    rintro D c pre W hD ⟨k, hk, rfl⟩ ⟨⟨⟨rfl, h1⟩, h2, x, hx, h5⟩, hB⟩ hK
    have HF := Lib.hid (HFN.out ⟨x, List.mem_of_mem_take hx, h5⟩)
    clear h5 hx
    gi_wp2
    refine ⟨by simp, .inl ⟨_, _, rfl, run_takeDeferred hK, ?_⟩⟩
    refine ⟨_, results_cell2 rfl _ _ ⟨w.heap.size, 0, none⟩ ⟨w.heap.size + 1, 0, none⟩ (.slice none 0 0) (.int .i64 4) rfl rfl (load_ints _ _ _ (h1.kept (grownBy_putObj' W D _) (by simp; omega))) (load_errno _ _ _ (h2.kept (grownBy_putObj' W D _) (by simp; omega))), none, 0, by rw [HF.out]; rfl, ?_, ?_⟩
    · rw [HF.out]; exact Own.nil _ _ _ _
    · exact hB.trans (belowK_b (w := w) (Nat.le_refl _) W D _ _ (by omega) hK rfl rfl)
end Go.Proofs.YtohcoidbncbijaaDoor.P
