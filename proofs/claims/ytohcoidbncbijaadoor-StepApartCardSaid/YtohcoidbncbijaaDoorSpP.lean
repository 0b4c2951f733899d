
/- Each place goes in, and comes out, in just one group, plainly; each factor is named. Under no condition beside those of each lemma. -/
import Derived.Test.YtohcoidbncbijaaDoorSgB
namespace Go.Proofs.YtohcoidbncbijaaDoor.P
open Go.RowKit
set_option linter.unusedVariables false
/-- The number of the group in which a place goes in. -/
def gNi (l : List Int) (k : Nat) (t : Bool) (L M v : Nat) : Nat := if t then v else (lno l k v * M + (P.xv l k v).toNat / L % M) * L + (P.xv l k v).toNat % L
structure PlacesK (G : Nat → Grp) (r cnt n tl : Nat) (gi go : Nat → Nat) : Prop where
  r1 : 1 ≤ r
  r5 : r ≤ 5
  c4 : cnt ≤ 4096
  lI : ∀ g, g < cnt → (G g).1.length = r
  lF : ∀ g, g < cnt → (G g).2.1.length = r
  lO : ∀ g, g < cnt → (G g).2.2.length = r
  iI : ∀ g, g < cnt → ∀ v ∈ (G g).1, 0 ≤ v ∧ v < (n : Int)
  iF : ∀ g, g < cnt → ∀ v ∈ (G g).2.1, 0 ≤ v ∧ v < (tl : Int)
  iO : ∀ g, g < cnt → ∀ v ∈ (G g).2.2, 0 ≤ v ∧ v < (n : Int)
  jI : ∀ g, g < cnt → ∀ u v, u < r → v < r → ((G g).1.getD u 0) = ((G g).1.getD v 0) → u = v
  jO : ∀ g, g < cnt → ∀ u v, u < r → v < r → ((G g).2.2.getD u 0) = ((G g).2.2.getD v 0) → u = v
  gI : ∀ v, v < n → gi v < cnt
  gO : ∀ v, v < n → go v < cnt
  mI : ∀ g, g < cnt → ∀ v, v < n → (gi v = g ↔ ∃ u, u < r ∧ ((G g).1.getD u 0).toNat = v)
  mO : ∀ g, g < cnt → ∀ v, v < n → (go v = g ↔ ∃ u, u < r ∧ ((G g).2.2.getD u 0).toNat = v)
  us : ∀ f, f < tl → ∃ g u, g < cnt ∧ u < r ∧ ((G g).2.1.getD u 0) = (f : Int)
theorem AxAt.plc_inj {l : List Int} {k N : Nat} (h : AxAt l k) (hD : l.getD k 1 = (N : Int)) {j q q' : Nat} (hq : q < N) (hq' : q' < N) (e : plc l k j q = plc l k j q') : q = q' := by
  have h1 := h.plc_xv hD j hq
  rw [e, h.plc_xv hD j hq'] at h1
  omega
theorem digit_inj {L a b : Nat} (hL : 0 < L) {x : Nat} (h : x + L * a = x + L * b) : a = b := Nat.eq_of_mul_eq_mul_left hL (by omega)
theorem AxSt.grp_mem_in {l : List Int} {k R L M N : Nat} (h : AxSt l k R L M N) {j a b v : Nat} (ha : a < M) (hb : b < L) (hj : (j : Int) < prodL l / (N : Int)) (hv : (v : Int) < prodL l) :
    gNi l k false L M v = (j * M + a) * L + b ↔ ∃ u, u < R ∧ ((grpS l k R L M j a b).1.getD u 0).toNat = v := by
  have hs := h.st
  have hr := hs.r2; have hl := hs.l1; have hm := hs.m1
  constructor
  · intro e
    obtain ⟨h1, h2, h3⟩ := h.ax.plc_of h.dim hv
    generalize hq : (P.xv l k v).toNat = q at *
    have d1 : q % L < L := Nat.mod_lt _ (by omega)
    have d2 : q / L % M < M := Nat.mod_lt _ (by omega)
    have e0 := hs.all
    have d3 : q / L / M < R := by
      rw [Nat.div_lt_iff_lt_mul (by omega), Nat.div_lt_iff_lt_mul (by omega), Nat.mul_comm R M, Nat.mul_comm (M * R) L]; omega
    unfold gNi at e
    rw [if_neg (by decide), hq] at e
    have f1 := dig_last (j := lno l k v * M + q / L % M) d1
    have f2 := dig_last (j := j * M + a) hb
    rw [e] at f1
    have g1 : b = q % L := f2.1.symm.trans f1.1
    have g2 : j * M + a = lno l k v * M + q / L % M := f2.2.symm.trans f1.2
    have f3 := dig_last (j := lno l k v) d2
    have f4 := dig_last (j := j) ha
    rw [g2] at f4
    have g3 : a = q / L % M := f4.1.symm.trans f3.1
    have g4 : j = lno l k v := f4.2.symm.trans f3.2
    refine ⟨q / L / M, d3, ?_⟩
    rw [h.in_at j ha hb d3]
    have g5 : b + L * (a + M * (q / L / M)) = q := by rw [g1, g3, Nat.mod_add_div, Nat.mod_add_div]
    rw [g5, g4, h1, Int.toNat_natCast]
  · rintro ⟨u, hu, e⟩
    rw [h.in_at j ha hb hu] at e
    have hq : b + L * (a + M * u) < N := by have := h.q_in ha hb hu; rw [q_form] at this; exact this
    have hin := h.ax.plc_in h.dim hj hq
    have hvv : (v : Int) = plc l k j (b + L * (a + M * u)) := by omega
    unfold gNi
    rw [if_neg (by decide), hvv, h.ax.plc_lno h.dim j hq, h.ax.plc_xv h.dim j hq, Int.toNat_natCast, (dig_lo hb).1, (dig_lo hb).2, (dig_lo ha).1]
theorem places_twist {l : List Int} {k N : Nat} (hA : AxAt l k) (hD : l.getD k 1 = (N : Int)) {n : Nat} (hn : prodL l = (n : Int)) (h4 : n ≤ 4096) :
    PlacesK (grpT l k) 1 n n N (gNi l k true 0 0) (gNo l k true 0 0 0) := by
  have hI1 := hA.I1
  have hd1 := hA.D1
  have hpr := hA.prod
  refine ⟨by decide, by decide, h4, fun _ _ => rfl, fun _ _ => rfl, fun _ _ => rfl, ?_, ?_, ?_, ?_, ?_, ?_, ?_, ?_, ?_, ?_⟩
  · intro g hg v hv; simp [grpT] at hv; omega
  · intro g hg v hv
    have := hA.xv (g : Int)
    simp [grpT] at hv
    omega
  · intro g hg v hv; simp [grpT] at hv; omega
  · intro g hg u v hu hv _; omega
  · intro g hg u v hu hv _; omega
  · intro v hv; unfold gNi; rw [if_pos rfl]; exact hv
  · intro v hv; unfold gNo; rw [if_pos rfl]; exact hv
  · intro g hg v hv
    unfold gNi
    rw [if_pos rfl]
    constructor
    · intro e; exact ⟨0, by decide, by simp [grpT, e]⟩
    · rintro ⟨u, hu, e⟩
      have : u = 0 := by omega
      subst this
      simpa [grpT] using e.symm
  · intro g hg v hv
    unfold gNo
    rw [if_pos rfl]
    constructor
    · intro e; exact ⟨0, by decide, by simp [grpT, e]⟩
    · rintro ⟨u, hu, e⟩
      have : u = 0 := by omega
      subst this
      simpa [grpT] using e.symm
  · intro f hf
    have hp0 : 0 < prodL l / (N : Int) := by
      have h1 := hA.rows
      rw [hD] at h1
      rw [h1]
      exact Int.mul_pos (by
        have h2 : Pos (l.take k) := fun a ha => hA.pos a (List.mem_of_mem_take ha)
        have := h2.prod
        omega) (by omega)
    have h1 := hA.plc_in hD (j := 0) (by exact_mod_cast hp0) hf
    have h2 := hA.plc_xv hD 0 hf
    refine ⟨(plc l k 0 f).toNat, 0, by omega, by decide, ?_⟩
    simp only [grpT, List.getD_cons_zero]
    rw [Int.toNat_of_nonneg h1.1]
    exact h2
theorem places_stage {l : List Int} {k R L M N : Nat} (h : AxSt l k R L M N) {n K : Nat} (hn : prodL l = (n : Int)) (hK : prodL l / (N : Int) = (K : Int)) (h4 : K * M * L ≤ 4096) :
    PlacesK (grpG l k false R L M) R (K * M * L) n (M * R) (gNi l k false L M) (gNo l k false R L M) := by
  have hs := h.st
  have hr := hs.r2; have hl := hs.l1; have hm := hs.m1; have hr5 := hs.r5
  have key : ∀ g, g < K * M * L → ∃ j a b, j < K ∧ a < M ∧ b < L ∧ g = (j * M + a) * L + b ∧ grpG l k false R L M g = grpS l k R L M j a b := by
    intro g hg
    have g1 : g % L < L := Nat.mod_lt _ (by omega)
    have g2 : g / L % M < M := Nat.mod_lt _ (by omega)
    have g3 : g / L / M < K := by
      rw [Nat.div_lt_iff_lt_mul (by omega), Nat.div_lt_iff_lt_mul (by omega)]; exact hg
    have ge : g = (g / L / M * M + g / L % M) * L + g % L := by
      rw [Nat.mul_comm (g / L / M) M, Nat.div_add_mod (g / L) M, Nat.mul_comm (g / L) L, Nat.div_add_mod]
    have hG := grpG_stage l k R (j := g / L / M) g2 g1
    rw [← ge] at hG
    exact ⟨_, _, _, g3, g2, g1, ge, hG⟩
  have hjj : ∀ j : Nat, j < K → (j : Int) < prodL l / (N : Int) := fun j hj => by rw [hK]; omega
  have K1 : ∀ v : Nat, v < n → lno l k v < K ∧ (P.xv l k v).toNat < N := fun v hv => by
    obtain ⟨_, h2, h3⟩ := h.ax.plc_of h.dim (v := v) (by omega)
    rw [hK] at h2
    exact ⟨by omega, h3⟩
  refine ⟨by omega, hr5, h4, ?_, ?_, ?_, ?_, ?_, ?_, ?_, ?_, ?_, ?_, ?_, ?_, ?_⟩
  · intro g hg; obtain ⟨j, a, b, _, _, _, _, e⟩ := key g hg; rw [e]; exact (grpS_len ..).1
  · intro g hg; obtain ⟨j, a, b, _, _, _, _, e⟩ := key g hg; rw [e]; exact (grpS_len ..).2.1
  · intro g hg; obtain ⟨j, a, b, _, _, _, _, e⟩ := key g hg; rw [e]; exact (grpS_len ..).2.2
  · intro g hg v hv
    obtain ⟨j, a, b, hj, ha, hb, _, e⟩ := key g hg
    rw [e] at hv
    obtain ⟨t, ht, rfl⟩ := List.getElem_of_mem hv
    have hlen := (grpS_len l k R L M j a b).1
    have h1 := h.in_at j ha hb (t := t) (by omega) 0
    rw [getD_of ht] at h1
    rw [h1]
    have h2 := h.q_in ha hb (t := t) (by omega)
    rw [q_form] at h2
    have h3 := h.ax.plc_in h.dim (hjj j hj) h2
    omega
  · intro g hg v hv
    obtain ⟨j, a, b, hj, ha, hb, _, e⟩ := key g hg
    rw [e] at hv
    obtain ⟨t, ht, rfl⟩ := List.getElem_of_mem hv
    have hlen := (grpS_len l k R L M j a b).2.1
    have h1 := fac_at l k R L M j a b (t := t) (by omega) 0
    rw [getD_of ht] at h1
    rw [h1]
    have h2 : a * R + t < M * R := digit_lt2 ha (by omega)
    exact ⟨by omega, by exact_mod_cast h2⟩
  · intro g hg v hv
    obtain ⟨j, a, b, hj, ha, hb, _, e⟩ := key g hg
    rw [e] at hv
    obtain ⟨t, ht, rfl⟩ := List.getElem_of_mem hv
    have hlen := (grpS_len l k R L M j a b).2.2
    have h1 := h.out_at j ha hb (t := t) (by omega) 0
    rw [getD_of ht] at h1
    rw [h1]
    have h2 := h.q_out ha hb (t := t) (by omega)
    rw [q_form2] at h2
    have h3 := h.ax.plc_in h.dim (hjj j hj) h2
    omega
  · intro g hg u v hu hv heq
    obtain ⟨j, a, b, hj, ha, hb, _, e⟩ := key g hg
    rw [e, h.in_at j ha hb hu, h.in_at j ha hb hv] at heq
    have q1 := h.q_in ha hb hu
    have q2 := h.q_in ha hb hv
    rw [q_form] at q1 q2
    have h1 := h.ax.plc_inj h.dim q1 q2 heq
    have h2 := digit_inj (by omega) h1
    exact digit_inj (by omega) h2
  · intro g hg u v hu hv heq
    obtain ⟨j, a, b, hj, ha, hb, _, e⟩ := key g hg
    rw [e, h.out_at j ha hb hu, h.out_at j ha hb hv] at heq
    have q1 := h.q_out ha hb hu
    have q2 := h.q_out ha hb hv
    rw [q_form2] at q1 q2
    have h1 := h.ax.plc_inj h.dim q1 q2 heq
    have h2 := digit_inj (by omega) h1
    omega
  · intro v hv
    obtain ⟨k1, k2⟩ := K1 v hv
    unfold gNi
    rw [if_neg (by decide)]
    exact digit_lt2 (digit_lt2 k1 (Nat.mod_lt _ (by omega))) (Nat.mod_lt _ (by omega))
  · intro v hv
    obtain ⟨k1, k2⟩ := K1 v hv
    unfold gNo
    rw [if_neg (by decide)]
    have e0 := hs.all
    have d3 : (P.xv l k v).toNat / L / R < M := by
      rw [Nat.div_lt_iff_lt_mul (by omega), Nat.div_lt_iff_lt_mul (by omega), Nat.mul_comm (M * R) L]; omega
    exact digit_lt2 (digit_lt2 k1 d3) (Nat.mod_lt _ (by omega))
  · intro g hg v hv
    obtain ⟨j, a, b, hj, ha, hb, hge, e⟩ := key g hg
    rw [e, hge]
    exact h.grp_mem_in ha hb (hjj j hj) (by omega)
  · intro g hg v hv
    obtain ⟨j, a, b, hj, ha, hb, hge, e⟩ := key g hg
    rw [e, hge]
    have h1 := h.grp_mem ha hb (hjj j hj) (v := v) (by omega)
    rw [(grpS_len l k R L M j a b).2.2] at h1
    exact h1
  · intro f hf
    have hK0 : 0 < K := by
      have h1 := h.ax.rows
      rw [h.dim, hK] at h1
      have h2 : Pos (l.take k) := fun a ha => h.ax.pos a (List.mem_of_mem_take ha)
      have h3 := h2.prod
      have h4 := h.ax.I1
      have h5 : 0 < prodL (l.take k) * prodL (l.drop (k + 1)) := Int.mul_pos (by omega) (by omega)
      omega
    have f1 : f / R < M := by rw [Nat.div_lt_iff_lt_mul (by omega)]; exact hf
    have f2 : f % R < R := Nat.mod_lt _ (by omega)
    refine ⟨(0 * M + f / R) * L + 0, f % R, digit_lt2 (digit_lt2 hK0 f1) (by omega), f2, ?_⟩
    rw [grpG_stage l k R f1 (show 0 < L by omega), fac_at _ _ _ _ _ _ _ _ f2]
    congr 1
    rw [Nat.mul_comm]; exact Nat.div_add_mod f R
/-- Counting in so far. -/
def onesL (n : Nat) : List Int := List.replicate n 1
theorem ones_at {n v : Nat} (h : v < n) : (onesL n).getD v 0 = 1 := by
  unfold onesL; rw [List.getD_eq_getElem?_getD]; simp [h]
def cntL (n r : Nat) (gi : Nat → Nat) (I : List Int) (g t : Nat) : List Int := putN (outN (onesL n) gi g) I (onesL r) t
theorem cntL_length (n r : Nat) (gi : Nat → Nat) (I : List Int) (g t : Nat) : (cntL n r gi I g t).length = n := by unfold cntL; rw [putN_length, outN_length]; simp [onesL]
theorem cnt_ok {n r cnt : Nat} {gi : Nat → Nat} {I : List Int} {g : Nat} (hl : I.length = r) (hi : ∀ v ∈ I, 0 ≤ v ∧ v < (n : Int)) (hm : ∀ v, v < n → (gi v = g ↔ ∃ u, u < r ∧ (I.getD u 0).toNat = v)) : GrpOk (onesL n) gi g I (onesL r) := by
  have hol : (onesL n).length = n := by simp [onesL]
  refine ⟨fun u hu => ?_, fun v hv => ?_⟩
  · have h1 := hi _ (List.getElem_mem hu)
    rw [getD_of hu, hol]
    refine ⟨by omega, ?_⟩
    rw [ones_at (by omega), ones_at (by omega)]
  · rw [hol] at hv; rw [hl]; exact hm v hv
theorem cnt_zero {n r cnt : Nat} {gi : Nat → Nat} {I : List Int} {g t : Nat} (hl : I.length = r) (hi : ∀ v ∈ I, 0 ≤ v ∧ v < (n : Int)) (hm : ∀ v, v < n → (gi v = g ↔ ∃ u, u < r ∧ (I.getD u 0).toNat = v))
    (hj : ∀ u v, u < r → v < r → I.getD u 0 = I.getD v 0 → u = v) (ht : t < r) : (cntL n r gi I g t).getD (I.getD t 0).toNat 0 = 0 := by
  have hol : (onesL n).length = n := by simp [onesL]
  have hok := cnt_ok (cnt := cnt) hl hi hm
  have h1 := hi _ (List.getElem_mem (show t < I.length by omega))
  have e1 : I.getD t 0 = I[t] := getD_of (show t < I.length by omega) 0
  rw [← e1] at h1
  unfold cntL
  rw [putN_at (outN (onesL n) gi g) I (onesL r) (onesL n) (fun u hu => by rw [outN_length]; exact hok.at' u hu) t (by omega) _ (by rw [outN_length, hol]; omega), if_neg, outN_at _ _ _ (by rw [hol]; omega), if_neg]
  · have h2 := (hm (I.getD t 0).toNat (by omega)).2 ⟨t, ht, rfl⟩
    omega
  · rintro ⟨u, hu, e⟩
    have h2 := hi _ (List.getElem_mem (show u < I.length by omega))
    have e2 : I.getD u 0 = I[u] := getD_of (show u < I.length by omega) 0
    rw [← e2] at h2
    have := hj u t (by omega) ht (by omega)
    omega
theorem cnt_next (n r : Nat) (gi : Nat → Nat) (I : List Int) (g : Nat) {t : Nat} (ht : t < r) : cntL n r gi I g (t + 1) = (cntL n r gi I g t).set (I.getD t 0).toNat 1 := by
  unfold cntL
  rw [putN, ones_at ht]
theorem cnt_done {n r cnt : Nat} {gi : Nat → Nat} {I : List Int} {g : Nat} (hl : I.length = r) (hi : ∀ v ∈ I, 0 ≤ v ∧ v < (n : Int)) (hm : ∀ v, v < n → (gi v = g ↔ ∃ u, u < r ∧ (I.getD u 0).toNat = v)) (J : List Int) :
    cntL n r gi I g r = cntL n r gi J (g + 1) 0 := by
  have h := (cnt_ok (cnt := cnt) hl hi hm).put
  rw [hl] at h
  exact h
theorem cnt_start (n r : Nat) (gi : Nat → Nat) (I : List Int) : cntL n r gi I 0 0 = List.replicate n 0 := by
  have hol : (onesL n).length = n := by simp [onesL]
  show outN (onesL n) gi 0 = _
  rw [outN_zero, hol]
theorem cnt_all {n r cnt : Nat} {gi : Nat → Nat} (I : List Int) (h : ∀ v, v < n → gi v < cnt) : cntL n r gi I cnt 0 = onesL n := outN_all _ _ (fun v hv => h v (by simpa [onesL] using hv))
/-- What is known of how often factors were named. -/
structure UsedI (G : Nat → Grp) (r tl g t : Nat) (u : List Int) : Prop where
  len : u.length = tl
  lo : ∀ f, f < tl → 0 ≤ u.getD f 0 ∧ u.getD f 0 ≤ ((g * r + t : Nat) : Int)
  met : ∀ g' t', t' < r → (g' < g ∨ (g' = g ∧ t' < t)) → 1 ≤ u.getD ((G g').2.1.getD t' 0).toNat 0
theorem UsedI.step {G : Nat → Grp} {r tl g t : Nat} {u : List Int} (h : UsedI G r tl g t u) (ht : t < r) (hF : ((G g).2.1.getD t 0).toNat < tl) :
    UsedI G r tl g (t + 1) (u.set ((G g).2.1.getD t 0).toNat (u.getD ((G g).2.1.getD t 0).toNat 0 + 1)) := by
  have hset : ∀ f, f < tl → (u.set ((G g).2.1.getD t 0).toNat (u.getD ((G g).2.1.getD t 0).toNat 0 + 1)).getD f 0 = if ((G g).2.1.getD t 0).toNat = f then u.getD f 0 + 1 else u.getD f 0 := by
    intro f hf
    rw [List.getD_eq_getElem?_getD, List.getElem?_set]
    by_cases e : ((G g).2.1.getD t 0).toNat = f
    · rw [if_pos e, if_pos e, if_pos (by have := h.len; omega), e]; rfl
    · rw [if_neg e, if_neg e, ← List.getD_eq_getElem?_getD]
  refine ⟨by rw [List.length_set]; exact h.len, fun f hf => ?_, fun g' t' ht' hor => ?_⟩
  · rw [hset f hf]
    have := h.lo f hf
    split <;> (push_cast at this ⊢; omega)
  · by_cases e : ((G g).2.1.getD t 0).toNat = ((G g').2.1.getD t' 0).toNat
    · rw [← e, hset _ hF, if_pos rfl]
      have := h.lo _ hF
      omega
    · have hor2 : g' < g ∨ (g' = g ∧ t' < t) := by
        rcases hor with h1 | ⟨h1, h2⟩
        · exact .inl h1
        · refine .inr ⟨h1, ?_⟩
          by_cases h3 : t' = t
          · subst h1 h3; exact absurd rfl e
          · omega
      have h5 := h.met g' t' ht' hor2
      by_cases hlt : ((G g').2.1.getD t' 0).toNat < tl
      · rw [hset _ hlt, if_neg e]; exact h5
      · rw [List.getD_eq_getElem?_getD, List.getElem?_eq_none (by have := h.len; omega)] at h5
        simp at h5
theorem UsedI.next {G : Nat → Grp} {r tl g : Nat} {u : List Int} (h : UsedI G r tl g r u) : UsedI G r tl (g + 1) 0 u :=
  ⟨h.len, fun f hf => by have := h.lo f hf; rw [Nat.succ_mul]; exact this, fun g' t' ht' hor => h.met g' t' ht' (by rcases hor with h1 | ⟨_, h1⟩ <;> omega)⟩
end Go.Proofs.YtohcoidbncbijaaDoor.P
