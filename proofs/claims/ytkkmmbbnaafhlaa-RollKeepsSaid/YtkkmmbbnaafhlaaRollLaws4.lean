/- The walk of layer 15's statement RollKeeps. -/
import Derived.Test.YtkkmmbbnaafhlaaRollKeep
namespace Go.Proofs.Ytkkmmbbnaafhlaa.Roll
set_option linter.unusedSimpArgs false
set_option linter.unusedVariables false
open Go.RowKit Go.Proofs.YtkkmmbbnaafhlaaW.PrintWords Go.Proofs.YtkkmmbbnaafhlaaW.PrintLast Go.Proofs.YtkkmmbbnaafhlaaW.PrintMore Arr PRollJoin

set_option maxRecDepth 10000 in
set_option maxHeartbeats 8000000 in
theorem rollkeeps_walk (W : World) (A : Option Addr) (c : Nat) (l : List Found) (hlc : l.length ≤ c) (hC : k41.C W A l.length l) (hG : ∀ x ∈ l, gFound x) (A1 : Option Addr) (c1 : Nat) (p : List Int) (hpc : p.length ≤ c1) (hC1 : (Kd.int .i64).C W A1 p.length p) (hG1 : ∀ x ∈ p, (Lit.int .i64 x).wf = true) :
    Calls Try.prog 5 #[.slice A l.length c, .slice A1 p.length c1] W (Holds W) := by
  have HC := Aside0.mk hC
  have HC1 := Aside0.mk hC1
  clear hC hC1 hG hG1
  go_enter Try.func5, Try.ntmps5
  go_wp2_with fail
  refine (awake_calls _).mono ?_
  rintro e w1 ⟨rfl, hb⟩
  have H1 := Aside0.mk hb
  clear hb
  by_cases hb1 : 100 < l.length
  · have hd : decide (100 < (l.length : Int)) = true := by simp; omega
    go_wp2_with fail
    refine (awake_calls _).mono ?_
    rintro e w2 ⟨rfl, hb⟩
    have H2 := Aside0.mk (step_bel H1.out hb)
    clear hb
    go_wp2_with fail
    go_ret
    exact ⟨rfl, H2.out⟩
  · have hd : decide (100 < (l.length : Int)) = false := by simp; omega
    by_cases hb2 : 100 < p.length
    · have hd2 : decide (100 < (p.length : Int)) = true := by simp; omega
      go_wp2_with fail
      refine (awake_calls _).mono ?_
      rintro e w2 ⟨rfl, hb⟩
      have H2 := Aside0.mk (step_bel H1.out hb)
      clear hb
      go_wp2_with fail
      go_ret
      exact ⟨rfl, H2.out⟩
    · have hd2 : decide (100 < (p.length : Int)) = false := by simp; omega
      have hll : l.length ≤ 100 := by omega
      have hpl : p.length ≤ 100 := by omega
      clear hb1 hb2
      go_wp2_with (first | ((with_reducible refine gate_dst (N := 27) rfl ?_); refine apps22 rfl (.tmp 25) (.tmp 26) rfl _ [] p A1 p.length c1 rfl rfl (lit0 w1 W.heap.size (Kd.int .i64) 3 H1.out.size) (Kd.C_alloc (Kd.C_below HC1.out H1.out) _) (w0 := W) (below_alloc H1.out _) (below_alloc H1.out _).size (by simp; omega) ?_; intro v2 w2 h21 h22 _; obtain ⟨A2, c2, rfl⟩ := Kd.R_slice h21; have HR2 := Aside0.mk (show RI w2 W.heap.size (.slice A2 p.length c2) p from h21); have H2 := Aside0.mk h22; clear h21 h22))
      have hW2 := H2.out.size
      refine (groups_calls _ A c l (Kd.C_below HC.out H2.out) (by omega)).mono ?_
      rintro e w3 ⟨vg, gs, rfl, hgs, hRg, hTg, hb3⟩
      have H3 := Aside0.mk (step_bel H2.out hb3)
      have HB3 := Aside0.mk hb3
      have HGS := Aside0.mk hgs
      have HRG := Aside0.mk hRg
      have HTG := Aside0.mk hTg
      have hW3 := hb3.size
      have hgl : gs.length ≤ 100 := by rw [← List.length_map (f := Prod.fst), hgs]; have := groups_le l; omega
      clear hb3 hgs hRg hTg
      go_wp2_with fail
      refine (groups_calls _ A c l (Kd.C_below HC.out H3.out) (by omega)).mono ?_
      rintro e w4 ⟨vw, gw, rfl, hgw, hRw, _, hb4⟩
      have H4 := Aside0.mk (step_bel H3.out hb4)
      have HB4 := Aside0.mk (HB3.out.trans (hb4.mono hW3))
      have HGW := Aside0.mk hgw
      have HRG4 := Aside0.mk (Kd.R_below HRG.out hb4)
      have hW4 := hb4.size
      have hgwl : gw.length = gs.length := by rw [← List.length_map (f := Prod.fst), hgw, ← HGS.out, List.length_map]
      obtain ⟨Aw, cw, rfl⟩ := Kd.R_slice hRw
      rw [hgwl] at hRw ⊢
      have HRW := Aside0.mk hRw
      clear hb4 hgw hRw hgwl
      obtain ⟨Ag, cg, rfl⟩ := Kd.R_slice HRG4.out
      have HDO := do_calls w4 A1 c1 p (Kd.C_below HC1.out H4.out) (by omega) Ag cg (groups l) (by
        have := C_untag (Kd.R_reads' HRG4.out).2.2
        rw [← List.length_map (f := Prod.fst), HGS.out] at this
        exact this)
      rw [← HGS.out, List.length_map] at HDO
      rw [HGS.out] at HDO
      have HDD := Aside0.mk HDO
      clear HDO
      go_wp2_with fail
      refine HDD.out.mono ?_
      rintro e w5 ⟨v5, rfl, hR5, hb5⟩
      have hql := doAll_len (groups l) p
      obtain ⟨A5, c5, rfl⟩ := Kd.R_slice hR5
      rw [hql]
      have HI5 := Aside0.mk (show ∃ q : List Int, q.length = p.length ∧ RI w5 w4.heap.size (.slice A5 p.length c5) q from ⟨_, hql, by rwa [hql] at hR5⟩)
      have H5 := Aside0.mk hb5
      clear hR5 hb5 hql HDD
      go_wp2_with fail
      go_loopw [9] (fun i wr => ∃ k : Nat, k ≤ p.length ∧ i = .int .i64 k ∧ Aside0 (∃ q : List Int, q.length = p.length ∧ RI wr w4.heap.size (.slice A5 p.length c5) q) ∧ Aside0 (Below w4.heap.size w4 wr)) (fun i _ => p.length - (intOf i).toNat)
      case atStart => exact ⟨0, by omega, rfl, HI5, H5⟩
      case round =>
        clear HI5 H5
        obtain ⟨k, hk, rfl, HI, HB⟩ := hrel
        by_cases hlt : k < p.length
        · have hd3 : decide ((k : Int) < (p.length : Int)) = true := by simp; omega
          obtain ⟨q, hq, hR⟩ := HI.out
          obtain ⟨g5, cap, e, hgB, _, _⟩ := Kd.R_form hR (by omega)
          injection e with ea eb ec
          subst ea
          clear eb ec
          obtain ⟨hcell, hfro⟩ := Kd.R_celln (0 : Int) hR (k : Int) (by omega) (by omega)
          rw [Int.toNat_natCast] at hcell hfro
          have HST := Aside0.mk (show ∃ q' : List Int, q'.length = p.length ∧ RI (wr.setCell ⟨g5, k, none⟩ (.int .i64 (-7))) w4.heap.size (.slice (some ⟨g5, 0, none⟩) p.length c5) q' from ⟨q.set k (-7), by rw [List.length_set]; exact hq, by have := Kd.R_putn hR (k : Int) (-7); rwa [Int.toNat_natCast] at this⟩)
          have HBT := Aside0.mk (show Below w4.heap.size w4 (wr.setCell ⟨g5, k, none⟩ (.int .i64 (-7))) from below_set HB.out hgB)
          clear HI hR hq
          go_wp2_with fail
          go_roundw
          case rel => exact ⟨k + 1, by omega, by go_num, HST, HBT⟩
          case measure => simp [intOf]; omega
        · obtain rfl : k = p.length := by omega
          have hd3 : decide ((p.length : Int) < (p.length : Int)) = false := by simp
          have HRG6 := Aside0.mk (Kd.R_below HRG4.out HB.out)
          have HRW6 := Aside0.mk (Kd.R_below HRW.out HB.out)
          have HB26 := Aside0.mk (HB4.out.trans (HB.out.mono (Nat.le_trans hW3 hW4)))
          have HRP6 := Aside0.mk (Kd.R_below (Kd.R_mono (Kd.R_bound HR2.out) (fun k hk => (show k < w2.heap.size from hk.2.2.1))) HB26.out)
          obtain ⟨g, t, n0, c0, hF⟩ := first_of HRG6.out
          have HK6 := Aside0.mk (KInv.start hF (step_bel H4.out HB.out))
          have HF := Aside0.mk hF
          have htb : 0 < n0 → w2.heap.size ≤ t ∧ t < w3.heap.size := fun h => by
            obtain ⟨h1, h2⟩ := hF.tag h
            refine ⟨Kd.R_base (hF.row h) t rfl, ?_⟩
            rw [h1]
            exact HTG.out.lt _ (ga_mem gs 0 h2) (fun e => by have := hF.len0 h2; rw [e] at this; simp at this; omega)
          have HTB := Aside0.mk htb
          clear hF HRG4 HRW HI htb HRG HR2 HB4 HB3
          obtain ⟨w6, hw6⟩ : ∃ w6 : World, w6 = wr := ⟨_, rfl⟩
          rw [← hw6] at HRG6 HRW6 HRP6 HK6 HF HB26 ⊢
          clear hw6 HB
          go_wp2_with fail
          go_loopw [10] (fun i wr => ∃ j : Nat, j ≤ gs.length ∧ i = .int .i64 j ∧ Aside0 (KInv W w6 w2.heap.size t n0 c0 wr)) (fun i _ => gs.length - (intOf i).toNat)
          case atStart => exact ⟨0, by omega, rfl, HK6⟩
          case round =>
            clear HK6
            obtain ⟨j, hj, rfl, HK⟩ := hrel
            by_cases hlt2 : j < gs.length
            · have hd4 : decide ((j : Int) < (gs.length : Int)) = true := by simp; omega
              obtain ⟨cg', e⟩ := HF.out.form (by omega)
              injection e with ea eb ec
              subst ea
              clear eb ec
              obtain ⟨Ai, ci, hhd, hh0⟩ := HF.out.hd j hlt2
              have HHD := Aside0.mk (show ∀ wr, KInv W w6 w2.heap.size t n0 c0 wr → wr.cell? ⟨g, j * 3 + 2, none⟩ = some (.slice Ai (ga gs j).1.f2.length ci) from fun wr h => h.cell hhd (fun h0 => HF.out.ne h0))
              have hnm := f2_max (gs := gs.map Prod.fst) (by rw [List.length_map]; exact RG.all HRG6.out) j (by rw [List.length_map]; exact hlt2)
              rw [show rd_T28 (gs.map Prod.fst) (j : Int) = (ga gs j).1 by
                unfold rd_T28 ga
                rw [Int.toNat_natCast, List.getD_eq_getElem?_getD, List.getD_eq_getElem?_getD, List.getElem?_map, List.getElem?_eq_getElem hlt2]
                rfl] at hnm
              obtain ⟨n, hn⟩ : ∃ n, n = (ga gs j).1.f2.length := ⟨_, rfl⟩
              rw [← hn] at hnm
              rw [← hn] at HHD
              have HH0 := Aside0.mk hh0
              have HN0 := Aside0.mk (show j = 0 → n0 = n from fun e => by subst e; rw [hn]; exact HF.out.len0 (by omega))
              clear hhd hh0 hn
              go_wp2_with fail
              go_loopw [11] (fun i wr => ∃ k : Nat, k ≤ n ∧ i = .int .i64 k ∧ Aside0 (KInv W w6 w2.heap.size t n0 c0 wr)) (fun i _ => n - (intOf i).toNat)
              case atStart => exact ⟨0, by omega, rfl, HK⟩
              case round =>
                clear HK
                obtain ⟨k, hk, rfl, HK⟩ := hrel
                have hhd := HHD.out _ HK.out
                by_cases hlt3 : k < n
                · have hd5 : decide ((k : Int) < (n : Int)) = true := by simp; omega
                  by_cases hj0 : j = 0
                  · subst hj0
                    have e0 : (((0 : Nat) : Int) == 0) = true := rfl
                    have hn0 := HN0.out rfl
                    obtain rfl := HH0.out rfl (by omega)
                    obtain ⟨v0, hcell, hfro⟩ := HK.out.at k (by omega)
                    have HKP := Aside0.mk (HK.out.put hW2 k (by omega) (-7))
                    clear hn0
                    go_wp2_with fail
                    go_roundw
                    case rel => exact ⟨k + 1, by omega, by go_num, HKP⟩
                    case measure => simp [intOf]; omega
                  · have e0 : ((j : Int) == 0) = false := by simp; omega
                    clear hj0
                    go_wp2_with fail
                    go_roundw
                    case rel => exact ⟨k + 1, by omega, by go_num, HK⟩
                    case measure => simp [intOf]; omega
                · obtain rfl : k = n := by omega
                  have hd5 : decide ((k : Int) < (k : Int)) = false := by simp
                  go_wp2_with fail
                  go_roundw
                  case rel => exact ⟨j + 1, by omega, by go_num, HK⟩
                  case measure => simp [intOf]; omega
            · obtain rfl : j = gs.length := by omega
              have hd4 : decide ((gs.length : Int) < (gs.length : Int)) = false := by simp
              by_cases h1 : 1 < gs.length
              · have hd6 : decide (1 < (gs.length : Int)) = true := by simp; omega
                obtain ⟨Ag', hAg⟩ : ∃ A', A' = if cg = 1 then Ag else Ag.map (·.add (1 * 3)) := ⟨_, rfl⟩
                obtain ⟨Aw', hAw⟩ : ∃ A', A' = if cw = 1 then Aw else Aw.map (·.add (1 * 3)) := ⟨_, rfl⟩
                have hcutg := cutFrom23 Ag gs.length cg (by omega)
                have hcutw := cutFrom23 Aw gs.length cw (by omega)
                rw [← hAg] at hcutg
                rw [← hAw] at hcutw
                have HCG := Aside0.mk (show ∀ wr, KInv W w6 w2.heap.size t n0 c0 wr → k28.C wr Ag' (gs.length - 1) ((groups l).drop 1) from fun wr h => by
                  have := rest_of h HF.out HRG6.out HTG.out (by omega)
                  rwa [← hAg, HGS.out] at this)
                have HCW := Aside0.mk (show ∀ wr, KInv W w6 w2.heap.size t n0 c0 wr → k28.C wr Aw' (gs.length - 1) ((groups l).drop 1) from fun wr h => by
                  have := cut_rest (else_of h HRW6.out (fun h0 k _ hk e => by have := HTB.out h0; omega)) (by omega)
                  rwa [← hAw, HGW.out] at this)
                have hlm : ((groups l).drop 1).length = gs.length - 1 := by rw [List.length_drop, ← HGS.out, List.length_map]
                have hcg := cut_le HRG6.out
                have hcw := cut_le HRW6.out
                have HSA := Aside0.mk (show ∀ wr, KInv W w6 w2.heap.size t n0 c0 wr → Calls Try.prog 20 #[.slice Ag' (gs.length - 1) (cg - 1), .slice Aw' (gs.length - 1) (cw - 1)] wr fun e w' => e = .returned (.bool true) ∧ Below wr.heap.size wr w' from fun wr h => by
                  have := same15_calls wr Ag' (cg - 1) Aw' (cw - 1) ((groups l).drop 1) (by rw [hlm]; exact HCG.out wr h) (by omega) (by rw [hlm]; exact HCW.out wr h) (by omega)
                  rwa [hlm] at this)
                clear hAg hAw hlm hcg hcw HCG HCW
                go_upto_region 19 with (fail)
                refine wp_region_held_drew (S := (fun w' => KInv W w6 w2.heap.size t n0 c0 w')) (by kernel_rfl) (by exact HK.out.drew) (fun hHeld => ?_)
                refine wpAnyH_tk (i := 0) (v := ?vz1) 70 rfl rfl (by kernel_rfl) (by kernel_rfl) (by kernel_rfl) (fun _ _ _ h => h) (Or.inl ⟨by rfl, ?yz1⟩) hHeld ?rz1
                case yz1 => (intro w hSw; go_simp; try with_reducible rfl)
                (try simp only [Act.put, List.setIfInBounds_toArray, List.set_cons_zero, List.set_cons_succ])
                refine wpAnyH_tk (i := 1) (v := ?vz2) 71 rfl rfl (by kernel_rfl) (by kernel_rfl) (by kernel_rfl) (fun _ _ _ h => h) (Or.inl ⟨by rfl, ?yz2⟩) hHeld ?rz2
                case yz2 => (intro w hSw; go_simp; try with_reducible rfl)
                (try simp only [Act.put, List.setIfInBounds_toArray, List.set_cons_zero, List.set_cons_succ])
                refine wpAnyH_tk (i := 2) (v := ?vz3) 72 rfl rfl (by kernel_rfl) (by kernel_rfl) (by kernel_rfl) (fun _ _ _ h => h) (Or.inl ⟨by rfl, ?yz3⟩) hHeld ?rz3
                case yz3 => (intro w hSw; go_simp; try with_reducible rfl)
                (try simp only [Act.put, List.setIfInBounds_toArray, List.set_cons_zero, List.set_cons_succ])
                refine wpAnyH_tk (i := 3) (v := ?vz4) 73 rfl rfl (by kernel_rfl) (by kernel_rfl) (by kernel_rfl) (fun _ _ _ h => h) (Or.inl ⟨by rfl, ?yz4⟩) hHeld ?rz4
                case yz4 => (intro w hSw; go_simp; try with_reducible rfl)
                (try simp only [Act.put, List.setIfInBounds_toArray, List.set_cons_zero, List.set_cons_succ])
                refine wpAnyH_tk (i := 4) (v := ?vz5) 74 rfl rfl (by kernel_rfl) (by kernel_rfl) (by kernel_rfl) (fun _ _ _ h => h) (Or.inl ⟨by rfl, ?yz5⟩) hHeld ?rz5
                case yz5 => (intro w hSw; go_simp; try with_reducible rfl)
                (try simp only [Act.put, List.setIfInBounds_toArray, List.set_cons_zero, List.set_cons_succ])
                refine wpAnyH_tk (i := 5) (v := ?vz6) 75 rfl rfl (by kernel_rfl) (by kernel_rfl) (by kernel_rfl) (fun _ _ _ h => h) (Or.inl ⟨by rfl, ?yz6⟩) hHeld ?rz6
                case yz6 => (intro w hSw; go_simp; try with_reducible rfl)
                (try simp only [Act.put, List.setIfInBounds_toArray, List.set_cons_zero, List.set_cons_succ])
                refine wpAnyH_tk (i := 6) (v := ?vz7) 76 rfl rfl (by kernel_rfl) (by kernel_rfl) (by kernel_rfl) (fun _ _ _ h => h) (Or.inl ⟨by rfl, ?yz7⟩) hHeld ?rz7
                case yz7 => (intro w hSw; go_simp; try with_reducible rfl)
                (try simp only [Act.put, List.setIfInBounds_toArray, List.set_cons_zero, List.set_cons_succ])
                refine wpAnyH_tk (i := 7) (v := ?vz8) 77 rfl rfl (by kernel_rfl) (by kernel_rfl) (by kernel_rfl) (fun _ _ _ h => h) (Or.inl ⟨by rfl, ?yz8⟩) hHeld ?rz8
                case yz8 => (intro w hSw; go_simp; try with_reducible rfl)
                (try simp only [Act.put, List.setIfInBounds_toArray, List.set_cons_zero, List.set_cons_succ])
                refine wpAnyH_one (i := 8) (by kernel_rfl) rfl (fun K hK => ?_)
                go_simp
                go_wp2_with ((go_at_call 20; refine (HSA.out _ hHeld).mono ?_; rintro e w10 ⟨rfl, hb⟩; have hK10 := hHeld.below hb))
                refine hK.out _ _ (by exact hK10) (fun hHeld => ?_)
                clear hK K
                refine wpAnyH_tk (i := 9) (v := ?vz9) 79 rfl rfl (by kernel_rfl) (by kernel_rfl) (by kernel_rfl) (fun _ _ _ h => h) (Or.inl ⟨by rfl, ?yz9⟩) hHeld ?rz9
                case yz9 => (intro w hSw; go_simp; try with_reducible rfl)
                (try simp only [Act.put, List.setIfInBounds_toArray, List.set_cons_zero, List.set_cons_succ])
                refine wpAnyH_tk (i := 10) (v := ?vz10) 80 rfl rfl (by kernel_rfl) (by kernel_rfl) (by kernel_rfl) (fun _ _ _ h => h) (Or.inl ⟨by rfl, ?yz10⟩) hHeld ?rz10
                case yz10 => (intro w hSw; go_simp; try with_reducible rfl)
                (try simp only [Act.put, List.setIfInBounds_toArray, List.set_cons_zero, List.set_cons_succ])
                refine wpAnyH_done (by kernel_rfl) ?_ _
                skip
                have HK10 := Aside0.mk hK10
                clear hcutg hcutw
                go_wp2_with fail
                have hPW := else_of HK10.out HRP6.out (fun h0 k hk _ e => by have := HTB.out h0; omega)
                refine (same09_calls w10 A1 c1 A2 c2 p (Kd.C_below HC1.out HK10.out.bel) hpc (Kd.R_reads' hPW).2.2 (Kd.R_reads' hPW).2.1).mono ?_
                rintro e w11 ⟨rfl, hb⟩
                have HK11 := Aside0.mk (HK10.out.below hb)
                clear hb hPW HK10
                go_wp2_with fail
                refine (groups_calls _ A c l (Kd.C_below HC.out HK11.out.bel) (by omega)).mono ?_
                rintro e w12 ⟨v12, g12, rfl, hg12, hR12, _, hb⟩
                have HK12 := Aside0.mk (HK11.out.below hb)
                obtain ⟨A12, c12, rfl, hc12, hC12⟩ := RG.reads2 hR12 hg12
                have hlm2 : (groups l).length = gs.length := by rw [← HGS.out, List.length_map]
                have hRW := else_of HK12.out HRW6.out (fun h0 k _ hk e => by have := HTB.out h0; omega)
                have HSB := Aside0.mk (same15_calls w12 A12 c12 Aw cw (groups l) hC12 hc12 (by rw [hlm2, ← HGW.out]; exact RG.all hRW) (by rw [hlm2]; exact cut_le hRW))
                rw [hlm2] at HSB ⊢
                clear hb hg12 hR12 hc12 hC12 hlm2 hRW HK11
                go_wp2_with fail
                refine HSB.out.mono ?_
                rintro e w13 ⟨rfl, hb⟩
                have HK13 := Aside0.mk (HK12.out.below hb)
                clear hb HSB HK12
                go_wp2_with fail
                go_ret
                exact ⟨rfl, HK13.out.bel⟩
              · have hd6 : decide (1 < (gs.length : Int)) = false := decide_eq_false (by omega)
                go_upto_region 19 with (fail)
                go_quiet (fail)
                have HK10 := Aside0.mk (HK.out.drewN nq)
                obtain ⟨w10, hw10⟩ : ∃ w10, w10 = wr.drewN nq := ⟨_, rfl⟩
                rw [← hw10] at HK10 ⊢
                clear hw10 HK
                go_wp2_with fail
                have hPW := else_of HK10.out HRP6.out (fun h0 k hk _ e => by have := HTB.out h0; omega)
                refine (same09_calls w10 A1 c1 A2 c2 p (Kd.C_below HC1.out HK10.out.bel) hpc (Kd.R_reads' hPW).2.2 (Kd.R_reads' hPW).2.1).mono ?_
                rintro e w11 ⟨rfl, hb⟩
                have HK11 := Aside0.mk (HK10.out.below hb)
                clear hb hPW HK10
                go_wp2_with fail
                refine (groups_calls _ A c l (Kd.C_below HC.out HK11.out.bel) (by omega)).mono ?_
                rintro e w12 ⟨v12, g12, rfl, hg12, hR12, _, hb⟩
                have HK12 := Aside0.mk (HK11.out.below hb)
                obtain ⟨A12, c12, rfl, hc12, hC12⟩ := RG.reads2 hR12 hg12
                have hlm2 : (groups l).length = gs.length := by rw [← HGS.out, List.length_map]
                have hRW := else_of HK12.out HRW6.out (fun h0 k _ hk e => by have := HTB.out h0; omega)
                have HSB := Aside0.mk (same15_calls w12 A12 c12 Aw cw (groups l) hC12 hc12 (by rw [hlm2, ← HGW.out]; exact RG.all hRW) (by rw [hlm2]; exact cut_le hRW))
                rw [hlm2] at HSB ⊢
                clear hb hg12 hR12 hc12 hC12 hlm2 hRW HK11
                go_wp2_with fail
                refine HSB.out.mono ?_
                rintro e w13 ⟨rfl, hb⟩
                have HK13 := Aside0.mk (HK12.out.below hb)
                clear hb HSB HK12
                go_wp2_with fail
                go_ret
                exact ⟨rfl, HK13.out.bel⟩
end Go.Proofs.Ytkkmmbbnaafhlaa.Roll
