/- Layer 15: groups whose first one's changes are written: what stays. -/
import Derived.Test.YtkkmmbbnaafhlaaRollLaws3
namespace Go.Proofs.Ytkkmmbbnaafhlaa.Roll
set_option linter.unusedSimpArgs false
set_option linter.unusedVariables false
open Go.RowKit Go.Proofs.YtkkmmbbnaafhlaaW.PrintWords Go.Proofs.YtkkmmbbnaafhlaaW.PrintLast Go.Proofs.YtkkmmbbnaafhlaaW.PrintMore Arr PRollJoin

def gz : S28 × Nat := (z28, 0)
def ga (gs : List (S28 × Nat)) (i : Nat) : S28 × Nat := gs.getD i gz
theorem ga_mem (gs : List (S28 × Nat)) (i : Nat) (h : i < gs.length) : ga gs i ∈ gs := by
  unfold ga; rw [List.getD_eq_getElem?_getD, List.getElem?_eq_getElem h]; exact List.getElem_mem h
/-- Where groups stand, and the first one's changes. -/
structure First (w : World) (B : Nat) (vg : Value) (gs : List (S28 × Nat)) (g t n0 c0 : Nat) : Prop where
  form : 0 < gs.length → ∃ cg, vg = .slice (some ⟨g, 0, none⟩) gs.length cg
  hd : ∀ i, i < gs.length → ∃ Ai ci, w.cell? ⟨g, i * 3 + 2, none⟩ = some (.slice Ai (ga gs i).1.f2.length ci) ∧ (i = 0 → 0 < n0 → Ai = some ⟨t, 0, none⟩)
  len0 : 0 < gs.length → n0 = (ga gs 0).1.f2.length
  row : 0 < n0 → RC w B (.slice (some ⟨t, 0, none⟩) n0 c0) (ga gs 0).1.f2
  ne : 0 < n0 → g ≠ t
  tag : 0 < n0 → t = (ga gs 0).2 ∧ 0 < gs.length
theorem first_of {w : World} {B : Nat} {ok : Nat → Prop} {vg : Value} {gs : List (S28 × Nat)} (h : RG w B ok vg gs) : ∃ g t n0 c0, First w B vg gs g t n0 c0 := by
  rcases Nat.eq_zero_or_pos gs.length with h0 | h0
  · exact ⟨0, 0, 0, 0, fun h => by omega, fun i hi => by omega, fun h => by omega, fun h => by omega, fun h => by omega, fun h => by omega⟩
  · obtain ⟨g, cg, rfl, _, hglt, cells, hcl⟩ := Kd.R_form h h0
    have hel : ∀ i, i < gs.length → ∃ vi, w.cell? ⟨g, i * 3 + 2, none⟩ = some vi ∧ RC w B vi (ga gs i).1.f2 ∧ ∀ k, vi.ownBlock = some k → k = (ga gs i).2 := fun i hi => by
      obtain ⟨cs, _, hM, hcell, _⟩ := Kd.R_elem h gz (i : Int) (by omega) (by omega)
      obtain ⟨v2, rfl, hR2⟩ := k28_openM hM
      have h2 := hcell 2 _ rfl
      rw [Int.toNat_natCast] at h2
      exact ⟨v2, h2, Kd.R_mono hR2 (fun _ _ => trivial), fun k hk => (hR2.1 k hk).2⟩
    obtain ⟨v0, h1, h2, h3⟩ := hel 0 h0
    rcases Nat.eq_zero_or_pos (ga gs 0).1.f2.length with hn | hn
    · refine ⟨g, 0, 0, 0, fun _ => ⟨cg, rfl⟩, fun i hi => ?_, fun _ => hn.symm, fun h => by omega, fun h => by omega, fun h => by omega⟩
      obtain ⟨vi, hv1, hv2, _⟩ := hel i hi
      obtain ⟨Ai, ci, rfl⟩ := Kd.R_slice hv2
      exact ⟨Ai, ci, hv1, fun _ h => by omega⟩
    · obtain ⟨t, c0, rfl, _, _, cells', hcl'⟩ := Kd.R_form h2 hn
      refine ⟨g, t, (ga gs 0).1.f2.length, c0, fun _ => ⟨cg, rfl⟩, fun i hi => ?_, fun _ => rfl, fun _ => h2, fun _ e => ?_, fun _ => ⟨h3 t rfl, h0⟩⟩
      · obtain ⟨vi, hv1, hv2, _⟩ := hel i hi
        obtain ⟨Ai, ci, rfl⟩ := Kd.R_slice hv2
        refine ⟨Ai, ci, hv1, fun e _ => ?_⟩
        subst e
        rw [h1] at hv1
        injection hv1 with hv1
        injection hv1 with ha _ _
        exact ha.symm
      · subst e
        rw [hcl] at hcl'
        injection hcl' with hcl'
        injection hcl' with _ h4
        cases h4
/-- What is kept while the first one's changes are written. -/
structure KInv (W w6 : World) (B t n0 c0 : Nat) (wr : World) : Prop where
  bel : Below W.heap.size W wr
  size : w6.heap.size ≤ wr.heap.size
  keep : ∀ j, j < w6.heap.size → (0 < n0 → j ≠ t) → wr.heap[j]? = w6.heap[j]?
  row : 0 < n0 → ∃ q : List S44, q.length = n0 ∧ RC wr B (.slice (some ⟨t, 0, none⟩) n0 c0) q
theorem KInv.start {W w6 : World} {B t n0 c0 : Nat} {vg : Value} {gs : List (S28 × Nat)} {g : Nat} (h : First w6 B vg gs g t n0 c0) (hb : Below W.heap.size W w6) : KInv W w6 B t n0 c0 w6 :=
  ⟨hb, Nat.le_refl _, fun _ _ _ => rfl, fun hn => ⟨(ga gs 0).1.f2, (h.len0 (h.tag hn).2).symm, h.row hn⟩⟩
theorem KInv.cell {W w6 wr : World} {B t n0 c0 : Nat} (h : KInv W w6 B t n0 c0 wr) {a : Addr} {v : Value} (hc : w6.cell? a = some v) (hne : 0 < n0 → a.block ≠ t) : wr.cell? a = some v :=
  (World.cell?_of_block (h.keep a.block (World.block_lt_of_cell? w6 a hc) hne)).trans hc
theorem KInv.at {W w6 wr : World} {B t n0 c0 : Nat} (h : KInv W w6 B t n0 c0 wr) (k : Nat) (hk : k < n0) : ∃ v, wr.cell? ⟨t, k * 2 + 1, none⟩ = some v ∧ wr.frozen? ⟨t, k * 2 + 1, none⟩ = false := by
  obtain ⟨q, hq, hR⟩ := h.row (by omega)
  obtain ⟨cs, _, hM, hcell, hfr⟩ := Kd.R_elem hR z44 (k : Int) (by omega) (by omega)
  obtain rfl := k44_openM hM
  have h1 := hcell 1 _ rfl
  have h2 := hfr 1
  rw [Int.toNat_natCast] at h1 h2
  exact ⟨_, h1, h2⟩
theorem KInv.put {W w6 wr : World} {B t n0 c0 : Nat} (h : KInv W w6 B t n0 c0 wr) (hW : W.heap.size ≤ B) (k : Nat) (hk : k < n0) (x : Int) : KInv W w6 B t n0 c0 (wr.setCell ⟨t, k * 2 + 1, none⟩ (.int .i64 x)) := by
  obtain ⟨q, hq, hR⟩ := h.row (by omega)
  have hBt : B ≤ t := Kd.R_base hR t rfl
  obtain ⟨cs, hcl, hM, hcell, hfr⟩ := Kd.R_elem hR z44 (k : Int) (by omega) (by omega)
  obtain rfl := k44_openM hM
  have h2 := Kd.R_seg (okp := fun _ => False) hR (k : Int) (by omega) (by omega) hcl hcell (seg := [.int .i64 x]) (j := 1) (by show 1 + 1 ≤ 2; omega) (x' := ⟨(q.getD (k : Int).toNat z44).f0, x⟩) (k44_mkM _ _ _ _) (fun _ hk => hk.elim)
  rw [Int.toNat_natCast] at h2
  refine ⟨below_set h.bel (by omega), by rw [show (wr.setCell ⟨t, k * 2 + 1, none⟩ (.int .i64 x)).heap.size = wr.heap.size by simp [World.setCell]]; exact h.size, fun j hj hne => ?_, fun _ => ⟨_, by rw [List.length_set]; exact hq, h2.1⟩⟩
  rw [Below.heap_setCell wr ⟨t, k * 2 + 1, none⟩ _ j (hne (by omega))]
  exact h.keep j hj hne
/-- Rows of tagged things that stay. -/
theorem Q_step_tag {α : Type} {d : Kd α} {e : Nat} {w w1 : World} {base : Nat} {ok : Nat → Prop} {v : Value} {xs : List (α × Nat)} (h : (tag d).Q e w base ok v xs) (hm : ∀ k, k < w.heap.size → (v.ownBlock = some k ∨ ∃ x ∈ xs, k = x.2) → w1.heap[k]? = w.heap[k]?) : (tag d).Q e w1 base ok v xs := by
  have h2 : (tag d).Q e w base (fun k => ok k ∧ (v.ownBlock = some k ∨ ∃ x ∈ xs, k = x.2)) v xs := by
    obtain ⟨h1, inner, h2, h3, h4⟩ := h
    refine ⟨fun k hk => ⟨h1 k hk, .inl hk⟩, inner, h2, h3, fun j p hp => ?_⟩
    have hmem := List.mem_of_getElem? hp
    exact d.M_mono (fun k hk => ⟨⟨⟨hk.1.1, .inr ⟨p, hmem, hk.2⟩⟩, hk.1.2⟩, hk.2⟩) (h4 j p hp)
  exact Kd.Q_mono (Kd.Q_step h2 (fun k hk hlt => hm k hlt hk.2)) (fun _ hk => hk.1)
theorem cutFrom23 (A : Option Addr) (n c : Nat) (hm : 1 ≤ n) (W : World) : (Instr.slice 23 (.slice A n c) (some (.int .i64 1)) none none).run Try.prog W = .ok (.slice (if c = 1 then A else A.map (·.add (1 * 3))) (n - 1) (c - 1)) W := by
  obtain ⟨i, hi, hz⟩ := Option.map_eq_some_iff.1 info28
  simp only [Prod.mk.injEq] at hz
  exact cut_from 23 28 .i64 Try.underlying23 hi 3 hz.2.1 A n c 1 (by omega) (by omega) W
/-- All groups but the first, read behind the writing. -/
theorem rest_of {W w3 w6 wr : World} {B t n0 c0 g : Nat} {ok : Nat → Prop} {A : Option Addr} {n c : Nat} {gs : List (S28 × Nat)} (hI : KInv W w6 B t n0 c0 wr) (hF : First w6 B (.slice A n c) gs g t n0 c0) (hR : RG w6 B ok (.slice A n c) gs) (hT : Tags w3 gs) (h1 : 1 ≤ n) :
    k28.C wr (if c = 1 then A else A.map (·.add (1 * 3))) (n - 1) ((gs.map Prod.fst).drop 1) := by
  have hn : n = gs.length := (Kd.R_reads' hR).1
  obtain ⟨cg, hv⟩ := hF.form (by omega)
  injection hv with ha _ hc
  subst ha; subst hc
  have hQ := Kd.Q_drop (Kd.Q_of_R hR) (k := 1) (by omega)
  have hQ2 := Q_step_tag (w1 := wr) hQ (fun k hk hor => hI.keep k hk (fun h0 e => by
    rcases hor with hor | ⟨x, hx, hkx⟩
    · have hkg : k = g := by
        split at hor
        · injection hor with hor; exact hor.symm
        · simp only [Option.map_some, Value.ownBlock, Option.some.injEq] at hor
          rw [add_block] at hor
          exact hor.symm
      exact hF.ne h0 (by rw [← hkg]; exact e)
    · obtain ⟨ht, hl⟩ := hF.tag h0
      have hne : (ga gs 0).1.f2 ≠ [] := fun e0 => by have := hF.len0 hl; rw [e0] at this; simp at this; omega
      have hrise := hT.rise
      rcases gs with _ | ⟨y, r⟩
      · cases hl
      · have := (List.pairwise_cons.1 hrise).1 x (by simpa using hx) hne
        have e2 : (ga (y :: r) 0).2 = y.2 := rfl
        omega))
  have hC := (Kd.Q_reads' hQ2)
  have h3 := C_untag hC.2.2
  rw [← hC.1] at h3
  rw [List.map_drop] at h3
  exact h3
/-- Rows that stand elsewhere. -/
theorem else_of {W w6 wr : World} {B t n0 c0 : Nat} (hI : KInv W w6 B t n0 c0 wr) {α : Type} {d : Kd α} {e : Nat} {base : Nat} {ok : Nat → Prop} {v : Value} {xs : List α} (h : d.R e w6 base ok v xs) (hne : 0 < n0 → ∀ k, ok k → base ≤ k → k ≠ t) : d.R e wr base ok v xs :=
  Kd.R_mono (Kd.R_step (Kd.R_bound h) (fun k hk hlt => hI.keep k hlt (fun h0 => hne h0 k hk.1 hk.2.1))) (fun _ hk => hk.1)
theorem KInv.drew {W w6 wr : World} {B t n0 c0 : Nat} (h : KInv W w6 B t n0 c0 wr) : KInv W w6 B t n0 c0 wr.drew :=
  ⟨below_drew h.bel, h.size, h.keep, fun h0 => by obtain ⟨q, h1, h2⟩ := h.row h0; exact ⟨q, h1, Kd.R_drew h2⟩⟩
theorem KInv.below {W w6 wr w1 : World} {B t n0 c0 : Nat} (h : KInv W w6 B t n0 c0 wr) (hb : Below wr.heap.size wr w1) : KInv W w6 B t n0 c0 w1 :=
  ⟨step_bel h.bel hb, Nat.le_trans h.size hb.size, fun j hj hne => (hb.block j (Nat.lt_of_lt_of_le hj h.size)).trans (h.keep j hj hne), fun h0 => by obtain ⟨q, h1, h2⟩ := h.row h0; exact ⟨q, h1, Kd.R_below h2 hb⟩⟩
theorem KInv.drewN {W w6 wr : World} {B t n0 c0 : Nat} (h : KInv W w6 B t n0 c0 wr) (n : Nat) : KInv W w6 B t n0 c0 (wr.drewN n) :=
  ⟨pw_below_drewN h.bel n, h.size, h.keep, fun h0 => by obtain ⟨q, h1, h2⟩ := h.row h0; exact ⟨q, h1, Kd.R_drewN h2 n⟩⟩
theorem cut_rest {w : World} {B : Nat} {ok : Nat → Prop} {A : Option Addr} {n c : Nat} {gs : List (S28 × Nat)} (hR : RG w B ok (.slice A n c) gs) (h1 : 1 ≤ n) : k28.C w (if c = 1 then A else A.map (·.add (1 * 3))) (n - 1) ((gs.map Prod.fst).drop 1) := by
  have hn : n = gs.length := (Kd.R_reads' hR).1
  have hQ := Kd.Q_reads' (Kd.Q_drop (Kd.Q_of_R hR) (k := 1) (by omega))
  have h3 := C_untag hQ.2.2
  rw [← hQ.1] at h3
  rw [List.map_drop] at h3
  exact h3
theorem cut_le {w : World} {B : Nat} {ok : Nat → Prop} {A : Option Addr} {n c : Nat} {gs : List (S28 × Nat)} (hR : RG w B ok (.slice A n c) gs) : n ≤ c := (Kd.R_reads' hR).2.1
theorem RG.all {w : World} {B : Nat} {ok : Nat → Prop} {A : Option Addr} {n c : Nat} {gs : List (S28 × Nat)} (hR : RG w B ok (.slice A n c) gs) : k28.C w A n (gs.map Prod.fst) := by
  have h := Kd.R_reads' hR
  have h3 := C_untag h.2.2
  rw [← h.1] at h3
  exact h3
end Go.Proofs.Ytkkmmbbnaafhlaa.Roll
