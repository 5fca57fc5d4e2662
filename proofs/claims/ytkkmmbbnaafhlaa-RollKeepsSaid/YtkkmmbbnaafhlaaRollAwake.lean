/- Layer 15's statements: answers that the document fixes. -/
import Derived.Test.YtkkmmbbnaafhlaaRollRef
namespace Go.Proofs.Ytkkmmbbnaafhlaa.Roll
set_option linter.unusedSimpArgs false
set_option linter.unusedVariables false
open Go.RowKit Go.Proofs.YtkkmmbbnaafhlaaW.PrintWords Go.Proofs.YtkkmmbbnaafhlaaW.PrintLast Go.Proofs.YtkkmmbbnaafhlaaW.PrintMore Arr PRollJoin

def mkF (kind block count place : Int) : Found := ⟨place, ⟨kind, 0, 0, block, count, List.replicate 32 0⟩⟩
theorem results41 (tmps : Array Value) (w : World) (g : Nat) (f : Found) (hl : f.rc.data.length = 32) (hp : tmps.getD 8 undef = .pointer (some ⟨g, 0, none⟩)) (hb : Blk w g 41 (foundC f)) : (results Try.f35 tmps).run Try.prog w = .ok (.agg (foundC f).toArray) w :=
  results_single (fn := Try.f35) (r := .cell 8 41) rfl (Vals.cell g 41 _ (0, 0) _ hp hb Try.underlying41 rfl (by rw [List.size_toArray, foundC_len f hl]; exact size41) Vals.nil)
set_option maxRecDepth 10000 in
set_option maxHeartbeats 2000000 in
theorem found_calls (w : World) (a b c d : Int) : Calls Try.prog 35 #[.int .i64 a, .int .i64 b, .int .i64 c, .int .i64 d] w fun e w' => e = .returned (.agg (foundC (mkF a b c d)).toArray) ∧ Below w.heap.size w w' := by
  go_enter Try.func35, Try.ntmps35
  go_wp2_with (first | ((with_reducible refine gate_dst (N := 8) rfl ?_); refine alloc41 rfl rfl ?_; intro w4 xg h6 h7 h8; have H4 := Aside0.mk h7; have HB4 := Aside0.mk (grown_fresh h8); clear h7 h8) | (refine store41 rfl rfl (.tmp 8) (.tmp 14) rfl xg rfl (mkF a b c d) rfl rfl (M := found0) rfl H4.out ?_; intro w5 h9 h10 h11; have H5 := Aside0.mk h9; have HB5 := Aside0.mk (below_grown HB4.out h6 HB4.out.size h10); clear h9 h10 h11))
  exact bodyPost_ret (v := .agg (foundC (mkF a b c d)).toArray) (results41 _ _ xg (mkF a b c d) rfl rfl H5.out) rfl ⟨rfl, HB5.out⟩
def aw4 : List Found := [mkF 1 3 0 9, mkF 2 4 0 8, mkF 3 0 2 7, mkF 1 5 0 6]
theorem aw4_groups : groups aw4 = [⟨false, 0, [⟨3, 9⟩, ⟨4, 0⟩]⟩] := by rfl
def flat : List Found → List Value | [] => [] | f :: l => foundC f ++ flat l
theorem flat_reps {w : World} {B : Nat} {ok : Nat → Prop} : ∀ l : List Found, (∀ f ∈ l, f.rc.data.length = 32) → Reps (k41.M w B ok) 38 l (flat l) := by
  intro l
  induction l with
  | nil => intro _; exact Reps.none _ _
  | cons f l ih =>
    intro h
    have hf := h f (List.mem_cons_self ..)
    have := Kd.reps_append (Reps.snoc (Reps.none (k41.M w B ok) 38) (k41_mkM w B ok f hf) (foundC_len f hf)) (ih (fun g hg => h g (List.mem_cons_of_mem _ hg)))
    simpa [flat] using this
theorem one_group {w : World} {B : Nat} {ok : Nat → Prop} {v : Value} {gs : List (S28 × Nat)} (hR : RG w B ok v gs) {b : Bool} {s a1 p1 a2 p2 : Int} (hgs : gs.map Prod.fst = [⟨b, s, [⟨a1, p1⟩, ⟨a2, p2⟩]⟩]) :
    ∃ g cap g2 cap2, v = .slice (some ⟨g, 0, none⟩) 1 cap ∧ w.cell? ⟨g, 2, none⟩ = some (.slice (some ⟨g2, 0, none⟩) 2 cap2) ∧ w.cell? ⟨g2, 0, none⟩ = some (.int .i64 a1) ∧ w.cell? ⟨g2, 1, none⟩ = some (.int .i64 p1) ∧ w.cell? ⟨g2, 2, none⟩ = some (.int .i64 a2) ∧ w.cell? ⟨g2, 3, none⟩ = some (.int .i64 p2) := by
  obtain ⟨⟨x, t⟩, rfl, rfl⟩ : ∃ y : S28 × Nat, gs = [y] ∧ y.1 = ⟨b, s, [⟨a1, p1⟩, ⟨a2, p2⟩]⟩ := by
    rcases gs with _ | ⟨y, _ | ⟨z, r⟩⟩
    · cases hgs
    · exact ⟨y, rfl, by simpa using hgs⟩
    · simp at hgs
  obtain ⟨g, cap, rfl, _, _, _⟩ := Kd.R_form hR (by simp)
  obtain ⟨cs, _, hM, hcell, _⟩ := Kd.R_elem hR (z28, 0) 0 (by simp) (by simp)
  obtain ⟨v2, rfl, hR2⟩ := k28_openM hM
  obtain ⟨g2, cap2, e2, _, _, _⟩ := Kd.R_form hR2 (by simp)
  have hC2 := (Kd.R_reads hR2)
  obtain ⟨A', c', e3, _, hC⟩ := hC2
  rw [e2] at e3
  injection e3 with ea eb ec
  subst ea
  have h2 := hcell 2 _ rfl
  rw [e2] at h2
  obtain ⟨ad2, e4, hx0, hx1⟩ := at_T44 hC 0 (by omega) (by simp)
  injection e4 with e4
  subst e4
  obtain ⟨ad3, e5, hy0, hy1⟩ := at_T44 hC 1 (by omega) (by simp)
  injection e5 with e5
  subst e5
  exact ⟨g, cap, g2, cap2, rfl, h2, hx0, hx1, hy0, hy1⟩
theorem lit5 (W : World) (base : Nat) (hb : base ≤ W.heap.size) (a b c d e : Int) : RI (W.alloc (.cells #[.int .i64 a, .int .i64 b, .int .i64 c, .int .i64 d, .int .i64 e] 3)) base (.slice (some ⟨W.heap.size, 0, none⟩) 5 5) [a, b, c, d, e] :=
  Kd.R_of_own (own_lit W base 3 .i64 [a, b, c, d, e] hb (by simp)) (fun _ _ => trivial)
attribute [local go_sem high] eqA44
set_option maxRecDepth 10000 in
set_option maxHeartbeats 4000000 in
theorem awake_calls (w : World) : Calls Try.prog 13 #[] w fun e w' => e = .returned (.bool true) ∧ Below w.heap.size w w' := by
  have HB0 := Aside0.mk (Below.refl w.heap.size w)
  go_enter Try.func13, Try.ntmps13
  go_wp2_with fail
  refine (found_calls _ 1 3 0 9).mono ?_
  rintro e w1 ⟨rfl, hb⟩
  have HB1 := Aside0.mk (HB0.out.trans (hb.mono HB0.out.size))
  clear hb HB0
  go_wp2_with fail
  refine (found_calls _ 2 4 0 8).mono ?_
  rintro e w2 ⟨rfl, hb⟩
  have HB2 := Aside0.mk (HB1.out.trans (hb.mono HB1.out.size))
  clear hb HB1
  go_wp2_with fail
  refine (found_calls _ 3 0 2 7).mono ?_
  rintro e w3 ⟨rfl, hb⟩
  have HB3 := Aside0.mk (HB2.out.trans (hb.mono HB2.out.size))
  clear hb HB2
  go_wp2_with fail
  refine (found_calls _ 1 5 0 6).mono ?_
  rintro e w4 ⟨rfl, hb⟩
  have HB4 := Aside0.mk (HB3.out.trans (hb.mono HB3.out.size))
  clear hb HB3
  go_wp2_with (first | ((with_reducible refine gate_dst (N := 7) rfl ?_); refine Kd.R_lit k41 (w0 := w) w.heap.size 41 rfl (N := 7) rfl (xs := aw4) (inner := flat aw4) (ok := fun _ => True) (okp := fun _ => True) (by kernel_rfl) (flat_reps aw4 (by decide)) (fun _ h => h) trivial HB4.out HB4.out.size (by decide) ?_; intro vl w5 h5 h6 h7 h8; have H5 := Aside0.mk h5; have HB5 := Aside0.mk h6; clear h5 h6 h7 h8))
  obtain ⟨Al, cl, rfl, hcl, hCl⟩ := Kd.R_reads H5.out
  refine (groups_calls _ Al cl aw4 hCl (by decide)).mono ?_
  rintro e w6 ⟨v, gs, rfl, hgs, hR, _, hb⟩
  have HB6 := Aside0.mk (HB5.out.trans (hb.mono HB5.out.size))
  obtain ⟨g, c, g2, c2, rfl, h2, hx0, hx1, hy0, hy1⟩ := one_group hR (hgs.trans aw4_groups)
  have hC := C_untag (Kd.R_reads' hR).2.2
  have hl : gs.length = 1 := by rw [← List.length_map (f := Prod.fst), hgs]; rfl
  rw [hl, hgs, aw4_groups] at hC
  have hc : 1 ≤ c := (Kd.R_reads' hR).2.1
  have H6 := Aside0.mk hC
  clear hC hl hR hCl hcl hgs hb H5 HB5 HB4
  go_wp2_with fail
  refine (users_calls w6 _ c [⟨false, 0, [⟨3, 9⟩, ⟨4, 0⟩]⟩] H6.out hc).mono ?_
  rintro e w7 ⟨rfl, hb⟩
  have H7 := Aside0.mk (Kd.C_below H6.out hb)
  have HB7 := Aside0.mk (HB6.out.trans (hb.mono HB6.out.size))
  clear h2 hx0 hx1 hy0 hy1 hb H6 HB6
  go_wp2_with fail
  have HI := Aside0.mk (show (Kd.int .i64).C (w7.alloc (.cells #[.int .i64 1, .int .i64 1, .int .i64 1, .int .i64 1, .int .i64 1] 3)) (some ⟨w7.heap.size, 0, none⟩) 5 [1, 1, 1, 1, 1] from (Kd.R_reads' (lit5 w7 w7.heap.size (Nat.le_refl _) 1 1 1 1 1)).2.2)
  refine (do_calls _ (some ⟨w7.heap.size, 0, none⟩) 5 [1, 1, 1, 1, 1] HI.out (by decide) (some ⟨g, 0, none⟩) c [⟨false, 0, [⟨3, 9⟩, ⟨4, 0⟩]⟩] (Kd.C_alloc H7.out _)).mono ?_
  rintro e w8 ⟨v8, rfl, hR, hb⟩
  have HB8 := Aside0.mk ((below_alloc HB7.out _).trans (hb.mono (below_alloc HB7.out _).size))
  obtain ⟨A8, c8, rfl, hc8, hC8⟩ := Kd.R_reads hR
  have hC8' : (Kd.int .i64).C w8 A8 5 [1, 1, 1, 9, 0] := hC8
  have hc8' : 5 ≤ c8 := hc8
  have H8 := Aside0.mk hC8'
  clear hb hR hC8 hC8' hc8 HI H7 HB7
  rw [show (doAll [1, 1, 1, 1, 1] [⟨false, 0, [⟨3, 9⟩, ⟨4, 0⟩]⟩]).length = 5 from rfl]
  go_wp2_with fail
  have HI := Aside0.mk (show (Kd.int .i64).C (w8.alloc (.cells #[.int .i64 1, .int .i64 1, .int .i64 1, .int .i64 9, .int .i64 0] 3)) (some ⟨w8.heap.size, 0, none⟩) 5 [1, 1, 1, 9, 0] from (Kd.R_reads' (lit5 w8 w8.heap.size (Nat.le_refl _) 1 1 1 9 0)).2.2)
  refine (same09_calls _ A8 c8 (some ⟨w8.heap.size, 0, none⟩) 5 [1, 1, 1, 9, 0] (Kd.C_alloc H8.out _) hc8' HI.out (by decide)).mono ?_
  rintro e w9 ⟨rfl, hb⟩
  have HB9 := Aside0.mk ((below_alloc HB8.out _).trans (hb.mono (below_alloc HB8.out _).size))
  clear hb HI H8 HB8
  go_wp2_with fail
  go_ret
  exact ⟨rfl, HB9.out⟩
end Go.Proofs.Ytkkmmbbnaafhlaa.Roll
