/- The walks of layer 6: which records are right. -/
import Derived.Test.YtmkkkenpjealdaaRecMem
namespace Go.Proofs.Ytmkkkenpjealdaa.RecWalks
set_option linter.unusedSimpArgs false
set_option linter.unusedVariables false
open Go.RowKit Go.Proofs.YtmkkkenpjealdaaW.PrintWords Go.Proofs.YtmkkkenpjealdaaW.PrintLast Go.Proofs.YtmkkkenpjealdaaW.PrintMore PlainWord CrcPlain PlainSec CrcMem CrcWalks CrcRef Arr SecWord SecMem SecRef LeafWalks

/-- Right, all of it, the data being noughts or not. -/
def okAll (K E S B C : Int) (z : Bool) : Prop := (1 ≤ E ∧ E ≤ 1099511627776 ∧ 1 ≤ S ∧ S ≤ 1099511627776) ∧ ((K = 1 ∧ 0 ≤ B ∧ B < 4096 ∧ C = 0) ∨ (K = 2 ∧ 0 ≤ B ∧ B < 4096 ∧ C = 0 ∧ z = true) ∨ (K = 3 ∧ 0 ≤ B ∧ B ≤ 1 ∧ 0 ≤ C ∧ C ≤ 4096 ∧ z = true))
theorem ok_all (K E S B C : Int) (D : List Int) (z : Bool) (hz : z = decide (D = zeros 32)) : recOk ⟨K, E, S, B, C, D⟩ = true ↔ okAll K E S B C z := by
  have : z = true ↔ D = zeros 32 := by rw [hz, decide_eq_true_eq]
  unfold recOk okAll
  rw [decide_eq_true_eq, this]
  exact Iff.rfl
theorem ok_eq {K E S B C : Int} {D : List Int} {z : Bool} (h : recOk ⟨K, E, S, B, C, D⟩ = true ↔ okAll K E S B C z) {b : Bool} (hb : b = true ↔ okAll K E S B C z) : b = recOk ⟨K, E, S, B, C, D⟩ := by
  rw [Bool.eq_iff_iff, h, hb]
set_option maxHeartbeats 4000000 in
theorem right_calls (w : World) (r : Rec) (hl : r.data.length = 32) (hd : Bytes r.data) : Calls Try.prog 27 #[.agg (recC r).toArray] w fun e w' => e = .returned (.bool (recOk r)) ∧ Below w.heap.size w w' := by
  have HW := Aside0.mk (Below.refl w.heap.size w)
  have HE := Aside0.mk (eq41 hl (zeros_length 32) hd (zeros_bytes 32))
  obtain ⟨K, E, S, B, C, D⟩ := r
  obtain ⟨z, hz⟩ : ∃ z, z = decide (D = zeros 32) := ⟨_, rfl⟩
  have HI := Aside0.mk (ok_all K E S B C D z hz)
  obtain ⟨R, hR⟩ : ∃ R, R = recOk ⟨K, E, S, B, C, D⟩ := ⟨_, rfl⟩
  rw [← hR] at HI
  have HR := Aside0.mk hR
  rw [← hR]
  clear hR
  simp only at HE hl
  rw [← hz] at HE
  obtain ⟨Z, hZ⟩ : ∃ Z, Z = zeros 32 := ⟨_, rfl⟩
  rw [← hZ] at HE
  have HZ := Aside0.mk hZ
  clear hz hZ hd
  go_enter Try.func27, Try.ntmps27
  have hk : K = 1 ∨ K = 2 ∨ K = 3 ∨ (K ≠ 1 ∧ K ≠ 2 ∧ K ≠ 3) := by omega
  go_upto_region 4 with (first | ((with_reducible refine gate_dst (N := 1) rfl ?_); refine box43 rfl (.tmp 0) rfl ⟨K, E, S, B, C, D⟩ rfl ?_; intro w1 g h1 h2 h3; have H2 := Aside0.mk h2; have hx0 := h2.kind; have hx1 := h2.epoch; have hx2 := h2.seq; have hx3 := h2.blk; have hx4 := h2.cnt; have H3 := Aside0.mk (below_new HW.out HW.out.size h3); clear h2 h3) | ((with_reducible refine gate_dst (N := 23) rfl ?_); refine load41 (r := ⟨K, E, S, B, C, D⟩) rfl (.tmp 22) rfl g rfl hl H2.out ?_) | ((with_reducible refine gate_dst (N := 24) rfl ?_); refine build41z rfl rfl ?_; rw [← HZ.out]) | ((with_reducible refine gate_dst (N := 25) rfl ?_); refine wpl_eql rfl 41 41 (.tmp 23) (.tmp 24) rfl (encs (Value.int .u8) D) (encs (Value.int .u8) Z) rfl rfl z HE.out eqg41 rfl ?_))
  all_goals (try (go_ret; refine ⟨?_, H3.out⟩; (refine congrArg (fun b => Ending.returned (Value.bool b)) (Bool.eq_iff_iff.2 (Iff.trans ?_ HI.out.symm)); unfold okAll; (first | cases z | skip) <;> simp <;> omega)))
  rcases hk with rfl | rfl | rfl | ⟨n1, n2, n3⟩
  all_goals (go_wp2_with fail)
  all_goals (go_ret; refine ⟨?_, H3.out⟩; (refine congrArg (fun b => Ending.returned (Value.bool b)) (Bool.eq_iff_iff.2 (Iff.trans ?_ HI.out.symm)); unfold okAll; (first | cases z | skip) <;> simp <;> omega))
set_option maxHeartbeats 4000000 in
theorem refright_calls (w : World) (r : Rec) (hl : r.data.length = 32) (hd : Bytes r.data) : Calls Try.prog 28 #[.agg (recC r).toArray] w fun e w' => e = .returned (.bool (recOk r)) ∧ Below w.heap.size w w' := by
  have HW := Aside0.mk (Below.refl w.heap.size w)
  have HE := Aside0.mk (eq41 hl (zeros_length 32) hd (zeros_bytes 32))
  obtain ⟨K, E, S, B, C, D⟩ := r
  obtain ⟨z, hz⟩ : ∃ z, z = decide (D = zeros 32) := ⟨_, rfl⟩
  have HI := Aside0.mk (ok_all K E S B C D z hz)
  obtain ⟨R, hR⟩ : ∃ R, R = recOk ⟨K, E, S, B, C, D⟩ := ⟨_, rfl⟩
  rw [← hR] at HI
  have HR := Aside0.mk hR
  rw [← hR]
  clear hR
  simp only at HE hl
  rw [← hz] at HE
  obtain ⟨Z, hZ⟩ : ∃ Z, Z = zeros 32 := ⟨_, rfl⟩
  rw [← hZ] at HE
  have HZ := Aside0.mk hZ
  clear hz hZ hd
  go_enter Try.func28, Try.ntmps28
  have hk : K = 1 ∨ K = 2 ∨ K = 3 ∨ (K ≠ 1 ∧ K ≠ 2 ∧ K ≠ 3) := by omega
  go_upto_region 3 with (first | ((with_reducible refine gate_dst (N := 1) rfl ?_); refine box43 rfl (.tmp 0) rfl ⟨K, E, S, B, C, D⟩ rfl ?_; intro w1 g h1 h2 h3; have H2 := Aside0.mk h2; have hx0 := h2.kind; have hx1 := h2.epoch; have hx2 := h2.seq; have hx3 := h2.blk; have hx4 := h2.cnt; have H3 := Aside0.mk (below_new HW.out HW.out.size h3); clear h2 h3))
  all_goals (try (go_ret; refine ⟨?_, H3.out⟩; (refine congrArg (fun b => Ending.returned (Value.bool b)) (Bool.eq_iff_iff.2 (Iff.trans ?_ HI.out.symm)); unfold okAll; (first | cases z | skip) <;> simp <;> omega)))
  rcases hk with rfl | rfl | rfl | ⟨n1, n2, n3⟩
  · go_wp2_with fail
    all_goals (go_ret; refine ⟨?_, H3.out⟩; (refine congrArg (fun b => Ending.returned (Value.bool b)) (Bool.eq_iff_iff.2 (Iff.trans ?_ HI.out.symm)); unfold okAll; (first | cases z | skip) <;> simp <;> omega))
  · cases z
    all_goals (go_wp2_with (first | ((with_reducible refine gate_dst (N := 36) rfl ?_); refine gate_guard (by rfl) ?_; refine load41 (r := ⟨2, E, S, B, C, D⟩) rfl (.tmp 35) rfl g rfl hl H2.out ?_) | ((with_reducible refine gate_dst (N := 37) rfl ?_); refine gate_guard (by rfl) ?_; refine build41z rfl rfl ?_; rw [← HZ.out]) | ((with_reducible refine gate_dst (N := 38) rfl ?_); refine gate_guard (by rfl) ?_; refine wpl_neq rfl 41 41 (.tmp 36) (.tmp 37) rfl (encs (Value.int .u8) D) (encs (Value.int .u8) Z) rfl rfl _ HE.out eqg41 rfl ?_)))
    all_goals (go_ret; refine ⟨?_, H3.out⟩; (refine congrArg (fun b => Ending.returned (Value.bool b)) (Bool.eq_iff_iff.2 (Iff.trans ?_ HI.out.symm)); unfold okAll; (first | cases z | skip) <;> simp <;> omega))
  · cases z
    all_goals (go_wp2_with (first | ((with_reducible refine gate_dst (N := 36) rfl ?_); refine gate_guard (by rfl) ?_; refine load41 (r := ⟨3, E, S, B, C, D⟩) rfl (.tmp 35) rfl g rfl hl H2.out ?_) | ((with_reducible refine gate_dst (N := 37) rfl ?_); refine gate_guard (by rfl) ?_; refine build41z rfl rfl ?_; rw [← HZ.out]) | ((with_reducible refine gate_dst (N := 38) rfl ?_); refine gate_guard (by rfl) ?_; refine wpl_neq rfl 41 41 (.tmp 36) (.tmp 37) rfl (encs (Value.int .u8) D) (encs (Value.int .u8) Z) rfl rfl _ HE.out eqg41 rfl ?_)))
    all_goals (go_ret; refine ⟨?_, H3.out⟩; (refine congrArg (fun b => Ending.returned (Value.bool b)) (Bool.eq_iff_iff.2 (Iff.trans ?_ HI.out.symm)); unfold okAll; (first | cases z | skip) <;> simp <;> omega))
  · omega
end Go.Proofs.Ytmkkkenpjealdaa.RecWalks
