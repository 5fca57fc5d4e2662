/- The walk of layer 15's statement RollDoes. -/
import Derived.Test.YtkkmmbbnaafhlaaRollAwake
namespace Go.Proofs.Ytkkmmbbnaafhlaa.Roll
set_option linter.unusedSimpArgs false
set_option linter.unusedVariables false
open Go.RowKit Go.Proofs.YtkkmmbbnaafhlaaW.PrintWords Go.Proofs.YtkkmmbbnaafhlaaW.PrintLast Go.Proofs.YtkkmmbbnaafhlaaW.PrintMore Arr PRollJoin

abbrev Holds (W : World) : Ending → World → Prop := fun e w' => e = .returned (.bool true) ∧ Below W.heap.size W w'
theorem step_bel {W w w' : World} (h : Below W.heap.size W w) (hb : Below w.heap.size w w') : Below W.heap.size W w' := h.trans (hb.mono h.size)
set_option maxRecDepth 10000 in
set_option maxHeartbeats 4000000 in
theorem rolldoes_walk (W : World) (A : Option Addr) (c : Nat) (p : List Int) (hpc : p.length ≤ c) (hC : (Kd.int .i64).C W A p.length p) (hG : ∀ x ∈ p, (Lit.int .i64 x).wf = true) (A1 : Option Addr) (c1 : Nat) (gs : List S28) (hgc : gs.length ≤ c1) (hC1 : k28.C W A1 gs.length gs) (hG1 : ∀ x ∈ gs, gGrp x) :
    Calls Try.prog 3 #[.slice A p.length c, .slice A1 gs.length c1] W (Holds W) := by
  have HC := Aside0.mk hC
  have HC1 := Aside0.mk hC1
  have hm1 := Kd.C_max hC1
  clear hC hC1 hG hG1
  go_enter Try.func3, Try.ntmps3
  go_wp2_with fail
  refine (awake_calls _).mono ?_
  rintro e w1 ⟨rfl, hb⟩
  have H1 := Aside0.mk hb
  clear hb
  by_cases hbig : 100 < p.length
  · have hd : decide (100 < (p.length : Int)) = true := by simp; omega
    go_wp2_with fail
    refine (awake_calls _).mono ?_
    rintro e w2 ⟨rfl, hb⟩
    have H2 := Aside0.mk (step_bel H1.out hb)
    clear hb
    go_wp2_with fail
    go_ret
    exact ⟨rfl, H2.out⟩
  · have hd : decide (100 < (p.length : Int)) = false := by simp; omega
    obtain ⟨b, hF⟩ := few_calls w1 A1 c1 gs (Kd.C_below HC1.out H1.out) hgc
    have HF := Aside0.mk hF
    clear hF
    go_wp2_with fail
    refine HF.out.mono ?_
    rintro e w2 ⟨rfl, hb⟩
    have H2 := Aside0.mk (step_bel H1.out hb)
    clear hb HF H1
    cases b
    · go_wp2_with fail
      refine (awake_calls _).mono ?_
      rintro e w3 ⟨rfl, hb⟩
      have H3 := Aside0.mk (step_bel H2.out hb)
      clear hb
      go_wp2_with fail
      go_ret
      exact ⟨rfl, H3.out⟩
    · go_wp2_with fail
      go_loopw [5, 6] (fun n i wr => ∃ k : Nat, k ≤ gs.length ∧ i = .int .i64 k ∧ n = .int .i64 (users (gs.take k)) ∧ Aside0 (Below W.heap.size W wr)) (fun _ i _ => gs.length - (intOf i).toNat)
      case atStart => exact ⟨0, by omega, rfl, rfl, H2⟩
      case round =>
        clear H2
        obtain ⟨k, hk, rfl, rfl, H2⟩ := hrel
        by_cases hlt : k < gs.length
        · have hd2 : decide ((k : Int) < gs.length) = true := by simp; omega
          obtain ⟨ad, A2, c2, rfl, h0, _, _, _, _⟩ := at_T28 HC1.out (k : Int) (by omega) (by omega)
          rw [Int.toNat_natCast] at h0
          have h0 := pw_cell_below H2.out h0
          have HU := Aside0.mk (users_take gs k hlt)
          have hul := users_le (gs.take k)
          have hll := List.length_take_le k gs
          obtain ⟨u, hu⟩ : ∃ u, u = users (gs.take k) := ⟨_, rfl⟩
          rw [← hu] at HU hul ⊢
          clear hu
          cases hf : (rd_T28 gs (k : Int)).f0
          · rw [hf] at h0 HU
            clear hf
            go_wp2_with fail
            go_roundw
            case rel => exact ⟨k + 1, by omega, by go_num, by rw [HU.out]; go_num, H2⟩
            case measure => simp [intOf]; omega
          · rw [hf] at h0 HU
            clear hf
            go_wp2_with fail
            go_roundw
            case rel => exact ⟨k + 1, by omega, by go_num, by rw [HU.out]; go_num, H2⟩
            case measure => simp [intOf]; omega
        · obtain rfl : k = gs.length := by omega
          have hd2 : decide ((gs.length : Int) < gs.length) = false := by simp
          rw [List.take_length]
          go_wp2_with fail
          refine (do_calls _ A c p (Kd.C_below HC.out H2.out) (by omega) A1 c1 gs (Kd.C_below HC1.out H2.out)).mono ?_
          rintro e w3 ⟨v3, rfl, hR3, hb⟩
          have H3 := Aside0.mk (step_bel H2.out hb)
          have HR3 := Aside0.mk hR3
          clear hb hR3
          go_wp2_with fail
          refine (rdo_calls _ A c p (Kd.C_below HC.out H3.out) hpc (by omega) A1 c1 gs (Kd.C_below HC1.out H3.out) hgc).mono ?_
          rintro e w4 ⟨v4, rfl, hR4, hb⟩
          have H4 := Aside0.mk (step_bel H3.out hb)
          obtain ⟨A4, c4, rfl, hc4, hC4⟩ := Kd.R_reads hR4
          obtain ⟨A3, c3, rfl, hc3, hC3⟩ := Kd.R_reads (Kd.R_below HR3.out hb)
          have HS := Aside0.mk (same09_calls _ A3 c3 A4 c4 _ hC3 hc3 hC4 hc4)
          clear hb hR4 hC4 hC3 HR3 hc3 hc4
          obtain ⟨q, hq⟩ : ∃ q, q = (doAll p gs).length := ⟨_, rfl⟩
          rw [← hq] at HS ⊢
          clear hq
          go_wp2_with fail
          refine HS.out.mono ?_
          rintro e w5 ⟨rfl, hb⟩
          have H5 := Aside0.mk (step_bel H4.out hb)
          clear hb HS
          go_wp2_with fail
          refine (users_calls _ A1 c1 gs (Kd.C_below HC1.out H5.out) hgc).mono ?_
          rintro e w6 ⟨rfl, hb⟩
          have H6 := Aside0.mk (step_bel H5.out hb)
          clear hb
          obtain ⟨u, hu⟩ : ∃ u, u = users gs := ⟨_, rfl⟩
          rw [← hu]
          clear hu
          have huu : ((u : Int) == (u : Int)) = true := by simp
          go_wp2_with fail
          go_ret
          exact ⟨rfl, H6.out⟩
end Go.Proofs.Ytkkmmbbnaafhlaa.Roll
