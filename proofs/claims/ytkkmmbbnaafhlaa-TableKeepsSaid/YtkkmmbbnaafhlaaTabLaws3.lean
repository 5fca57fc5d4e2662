/- The walks of layer 9's statements: TableKeeps. -/
import Derived.Test.YtkkmmbbnaafhlaaTabLaws
namespace Go.Proofs.Ytkkmmbbnaafhlaa.Tab
set_option linter.unusedSimpArgs false
set_option linter.unusedVariables false
open Go.RowKit Go.Proofs.YtkkmmbbnaafhlaaW.PrintWords Go.Proofs.YtkkmmbbnaafhlaaW.PrintLast Go.Proofs.YtkkmmbbnaafhlaaW.PrintMore Arr

/-- A block of some cells. -/
def Some_ (w : World) (g : Nat) (m : Nat) : Prop := ∃ T cs, Blk w g T cs ∧ m ≤ cs.length
theorem Some_.cell {w : World} {g m : Nat} (h : Some_ w g m) (j : Nat) (hj : j < m) : (∃ v, w.cell? ⟨g, j, none⟩ = some v) ∧ w.frozen? ⟨g, j, none⟩ = false := by
  obtain ⟨T, cs, hb, hm⟩ := h
  exact ⟨⟨cs[j], hb.cell (List.getElem?_eq_getElem (by omega))⟩, hb.frozen j⟩
theorem Some_.set {w : World} {g m : Nat} (h : Some_ w g m) (j : Nat) (u : Value) : Some_ (w.setCell ⟨g, j, none⟩ u) g m := by
  obtain ⟨T, cs, hb, hm⟩ := h
  exact ⟨T, _, hb.set j u, by rw [List.length_set]; exact hm⟩
theorem Some_.of_cell {w : World} {g j : Nat} {T : TypeId} {cells : Array Value} {v : Value} (h : w.heap[g]? = some (.cells cells T (0, 0))) (hc : w.cell? ⟨g, j, none⟩ = some v) : Some_ w g (j + 1) := by
  have hb : Blk w g T cells.toList := h
  refine ⟨T, _, hb, ?_⟩
  rw [show w.cell? ⟨g, j, none⟩ = cells[j]? from blk_cell h j] at hc
  have := (Array.getElem?_eq_some_iff.1 hc).1
  rw [Array.length_toList]
  exact this
set_option maxRecDepth 10000 in
set_option maxHeartbeats 4000000 in
theorem keeps_walk (W : World) (tb : Int) (htb : (Lit.int .u8 tb).wf = true) (A : Option Addr) (c : Nat) (l : List Put) (hlc : l.length ≤ c) (hC : k52.C W A l.length l) (hG : ∀ x ∈ l, gPut x) : Calls Try.prog 7 #[.int .u8 tb, .slice A l.length c] W (Holds W) := by
  have HW := Aside0.mk (Keeps.refl W)
  have HC := Aside0.mk hC
  have HPW := Aside0.mk hG
  obtain ⟨hb0, hb1⟩ := bounds_u8 htb
  obtain ⟨n, rfl⟩ : ∃ n : Nat, tb = n := ⟨tb.toNat, by omega⟩
  clear hC hG htb hlc
  go_enter Try.func7, Try.ntmps7
  go_wp2_with fail
  refine (awake_calls _).mono ?_
  rintro e w1 ⟨rfl, hb⟩
  have H1 := Aside0.mk (HW.out.step hb)
  clear hb
  by_cases hlen : 100 < l.length
  · have hd : decide (100 < (l.length : Int)) = true := by simp; omega
    go_wp2_with fail
    refine (awake_calls _).mono ?_
    rintro e w2 ⟨rfl, hb⟩
    have H2 := Aside0.mk (H1.out.step hb)
    clear hb
    go_wp2_with fail
    go_ret
    exact ⟨rfl, H2.out.below⟩
  · have hd : decide (100 < (l.length : Int)) = false := by simp; omega
    go_wp2_with fail
    refine (new_calls _ n (by omega)).mono ?_
    rintro e w2 ⟨t, lb, db, rfl, hT, htw, hlb, hdb, hb⟩
    have hlb := Nat.le_trans H1.out.size hlb
    have hdb := Nat.le_trans H1.out.size hdb
    have HT0 := Aside0.mk hT
    have H2 := Aside0.mk (H1.out.step hb)
    clear hT hb H1 hd htw
    go_wp2_with fail
    go_loopw [6] (fun i wr => ∃ k : Nat, k ≤ l.length ∧ i = .int .i64 k ∧ ∃ ps ds, Aside0 (TabAt wr t lb db n ps ds) ∧ Aside0 (Pad n ps) ∧ Aside0 (Keeps W [] wr)) (fun i _ => l.length - (intOf i).toNat)
    case atStart => exact ⟨0, by omega, rfl, _, _, HT0, ⟨pad_zeros n _⟩, H2⟩
    case round =>
      clear HT0 H2
      obtain ⟨k, hk, rfl, ps, ds, HT, HP, HK⟩ := hrel
      by_cases hlt : k < l.length
      · have hd : decide ((k : Int) < l.length) = true := by simp; omega
        have hwf := HPW.out (l.getD k put0) (getD_mem l k hlt)
        obtain ⟨ad, hA, _⟩ := at_put HC.out k hlt
        subst hA
        obtain ⟨x, hx⟩ : ∃ x, x = l.getD k put0 := ⟨_, rfl⟩
        have HAT := Aside0.mk (fun (w' : World) (hb : Below W.heap.size W w') => (put_at HC.out k hlt hb : w'.cell? (ad.add (k * 3)) = some (.int .i64 (l.getD k put0).blk) ∧ w'.cell? ⟨(ad.add (k * 3)).block, (ad.add (k * 3)).off + 1, none⟩ = some (.int .i64 (l.getD k put0).place) ∧ w'.cell? ⟨(ad.add (k * 3)).block, (ad.add (k * 3)).off + 2, none⟩ = some (.bool (l.getD k put0).clean)))
        rw [← hx] at HAT hwf
        clear hx
        obtain ⟨xb, xp, xc⟩ := x
        have hxb := (bounds_i64 hwf.1).1
        have HSC := Aside0.mk (show ∀ w', Below W.heap.size W w' → w'.cell? (ad.add (k * 3)) = some (.int .i64 xb) from fun w' hb => (HAT.out w' hb).1)
        have HSP := Aside0.mk (show ∀ w', Below W.heap.size W w' → w'.cell? ⟨(ad.add (k * 3)).block, (ad.add (k * 3)).off + 1, none⟩ = some (.int .i64 xp) from fun w' hb => (HAT.out w' hb).2.1)
        clear hwf HAT
        go_upto_region 7 with (fail)
        refine wp_region_held_drew (S := (fun w' => Below W.heap.size W w')) (by kernel_rfl) (by exact HK.out.drew.below) (fun hHeld => ?_)
        refine wpAnyH_tk (i := 0) (v := ?vz1) 32 rfl rfl (by kernel_rfl) (by kernel_rfl) (by kernel_rfl) (fun _ _ _ h => h) (Or.inl ⟨by rfl, ?yz1⟩) hHeld ?rz1
        case yz1 => (intro w hSw; go_simp; try with_reducible rfl)
        (try simp only [Act.put, List.setIfInBounds_toArray, List.set_cons_zero, List.set_cons_succ])
        refine wpAnyH_tk (i := 1) (v := ?vz2) 33 rfl rfl (by kernel_rfl) (by kernel_rfl) (by kernel_rfl) (fun _ _ _ h => h) (Or.inl ⟨by rfl, ?yz2⟩) hHeld ?rz2
        case yz2 => (intro w hSw; go_simp; try with_reducible rfl)
        (try simp only [Act.put, List.setIfInBounds_toArray, List.set_cons_zero, List.set_cons_succ])
        refine wpAnyH_tk (i := 2) (v := ?vz3) 34 rfl rfl (by kernel_rfl) (by kernel_rfl) (by kernel_rfl) (fun _ _ _ h => h) (Or.inl ⟨by rfl, ?yz3⟩) hHeld ?rz3
        case yz3 => (intro w hSw; go_simp; try with_reducible rfl)
        (try simp only [Act.put, List.setIfInBounds_toArray, List.set_cons_zero, List.set_cons_succ])
        refine wpAnyH_tk (i := 3) (v := ?vz4) 35 rfl rfl (by kernel_rfl) (by kernel_rfl) (by kernel_rfl) (fun _ _ _ h => h) (Or.inl ⟨by rfl, ?yz4⟩) hHeld ?rz4
        case yz4 => (intro w hSw; go_simp; try with_reducible rfl)
        (try simp only [Act.put, List.setIfInBounds_toArray, List.set_cons_zero, List.set_cons_succ])
        refine wpAnyH_tk (i := 4) (v := ?vz5) 36 rfl rfl (by kernel_rfl) (by kernel_rfl) (by kernel_rfl) (fun _ _ _ h => h) (Or.inl ⟨by rfl, ?yz5⟩) hHeld ?rz5
        case yz5 => (intro w hSw; go_simp; try with_reducible rfl)
        (try simp only [Act.put, List.setIfInBounds_toArray, List.set_cons_zero, List.set_cons_succ])
        refine wpAnyH_tk (i := 5) (v := _) 37 rfl rfl (by kernel_rfl) (by kernel_rfl) (by kernel_rfl) (fun _ _ _ h => h) (yields_cell (by rfl) 3 (.tmp 36) rfl _ rfl (v := .int .i64 xb) (fun w h => HSC.out w h) Try.underlying3 rfl) hHeld ?_
        (try simp only [Act.put, List.setIfInBounds_toArray, List.set_cons_zero, List.set_cons_succ])
        refine wpAnyH_tk (i := 6) (v := ?vz6) 38 rfl rfl (by kernel_rfl) (by kernel_rfl) (by kernel_rfl) (fun _ _ _ h => h) (Or.inl ⟨by rfl, ?yz6⟩) hHeld ?rz6
        case yz6 => (intro w hSw; go_simp; try with_reducible rfl)
        (try simp only [Act.put, List.setIfInBounds_toArray, List.set_cons_zero, List.set_cons_succ])
        refine wpAnyH_tk (i := 7) (v := ?vz7) 39 rfl rfl (by kernel_rfl) (by kernel_rfl) (by kernel_rfl) (fun _ _ _ h => h) (Or.inl ⟨by rfl, ?yz7⟩) hHeld ?rz7
        case yz7 => (intro w hSw; go_simp; try with_reducible rfl)
        (try simp only [Act.put, List.setIfInBounds_toArray, List.set_cons_zero, List.set_cons_succ])
        refine wpAnyH_tk (i := 8) (v := ?vz8) 40 rfl rfl (by kernel_rfl) (by kernel_rfl) (by kernel_rfl) (fun _ _ _ h => h) (Or.inl ⟨by rfl, ?yz8⟩) hHeld ?rz8
        case yz8 => (intro w hSw; go_simp; try with_reducible rfl)
        (try simp only [Act.put, List.setIfInBounds_toArray, List.set_cons_zero, List.set_cons_succ])
        refine wpAnyH_tk (i := 9) (v := ?vz9) 41 rfl rfl (by kernel_rfl) (by kernel_rfl) (by kernel_rfl) (fun _ _ _ h => h) (Or.inl ⟨by rfl, ?yz9⟩) hHeld ?rz9
        case yz9 => (intro w hSw; go_simp; try with_reducible rfl)
        (try simp only [Act.put, List.setIfInBounds_toArray, List.set_cons_zero, List.set_cons_succ])
        refine wpAnyH_tk (i := 10) (v := _) 42 rfl rfl (by kernel_rfl) (by kernel_rfl) (by kernel_rfl) (fun _ _ _ h => h) (yields_cell (by rfl) 3 (.tmp 41) rfl _ rfl (v := .int .i64 xp) (fun w h => HSP.out w h) Try.underlying3 rfl) hHeld ?_
        (try simp only [Act.put, List.setIfInBounds_toArray, List.set_cons_zero, List.set_cons_succ])
        refine wpAnyH_one (i := 11) (by kernel_rfl) rfl (fun K hK => ?_)
        go_simp
        go_wp2_with ((go_at_call 23; refine (set_calls _ t lb db n ps ds HT.out.drew xb xp hxb).mono ?_; rintro e wx ⟨rfl, hTx, hMx⟩; have hHX := hMx.below _ _ hHeld hlb hdb hHeld.size))
        refine hK.out _ _ (by exact hHX) (fun hHeld => ?_)
        clear hK K
        refine wpAnyH_done (by kernel_rfl) ?_ _
        skip
        go_wp2_with fail
        go_roundw
        case rel => exact ⟨k + 1, by omega, by go_num, _, _, ⟨hTx⟩, ⟨pad_set HP.out xb xp⟩, ⟨⟨hHX, fun _ h => by cases h⟩⟩⟩
        case measure => simp [intOf]; omega
      · obtain rfl : k = l.length := by omega
        have hd : decide ((l.length : Int) < l.length) = false := by simp
        have hps := HT.out.hps
        have hcov := pg_cover n
        have hpl := pg_le HT.out.hn
        have htl : (ps.take n).length = n := by rw [List.length_take]; omega
        clear hd
        go_wp2_with fail
        refine (places_calls _ t lb db n ps ds HT.out).mono ?_
        rintro e w3 ⟨g1, rfl, hB1, hg1, hb⟩
        have HT3 := Aside0.mk (HT.out.below' hb)
        have H3 := Aside0.mk ((HK.out.step hb).cons hB1)
        clear hB1 hb HT HK
        go_wp2_with fail
        refine (places_calls _ t lb db n ps ds HT3.out).mono ?_
        rintro e w4 ⟨g2, rfl, hB2, hg2, hb⟩
        have HT4 := Aside0.mk (HT3.out.below' hb)
        have H4 := Aside0.mk (H3.out.step hb)
        have hg2W : W.heap.size ≤ g2 := Nat.le_trans H3.out.size hg2
        have hn12 : g1 ≠ g2 := by have := H3.out.head.lt; omega
        have hnt : t ≠ g2 := by have := HT3.out.tab.lt; omega
        have hnl : lb ≠ g2 := by have := HT3.out.lv.lt; omega
        have hnd : db ≠ g2 := by have := HT3.out.dt.lt; omega
        have HS0 := Aside0.mk (show Some_ w4 g2 n from ⟨_, _, hB2, by rw [encsLen, htl]; exact Nat.le_refl _⟩)
        clear hB2 hb HT3 H3
        go_wp2_with fail
        go_loopw [9] (fun i wr => ∃ k : Nat, k ≤ n ∧ i = .int .i64 k ∧ Aside0 (TabAt wr t lb db n ps ds) ∧ Aside0 (Keeps W [(g1, 3, encs (Value.int .i64) (ps.take n))] wr) ∧ Aside0 (Some_ wr g2 n)) (fun i _ => n - (intOf i).toNat)
        case atStart => exact ⟨0, by omega, rfl, HT4, H4, HS0⟩
        case round =>
          clear HT4 H4 HS0
          obtain ⟨k, hk, rfl, HT, HK, HS⟩ := hrel
          by_cases hlt : k < n
          · have hd2 : decide ((k : Int) < n) = true := by simp; omega
            obtain ⟨⟨v, hcv⟩, hfv⟩ := HS.out.cell k hlt
            go_wp2_with fail
            go_roundw
            case rel => exact ⟨k + 1, by omega, by go_num, ⟨HT.out.grown (grown_set _ g2 k _) hnt hnl hnd⟩, ⟨HK.out.grown (grown_set _ g2 k _) hg2W (by simp; omega)⟩, ⟨HS.out.set k _⟩⟩
            case measure => simp [intOf]; omega
          · obtain rfl : k = n := by omega
            have hd2 : decide ((k : Int) < k) = false := by simp
            clear HS
            go_wp2_with fail
            refine (leaves_calls _ t lb db k ps ds HT.out 1).mono ?_
            rintro e w5 ⟨v, rfl, hR, hb⟩
            have HT5 := Aside0.mk (HT.out.below' hb)
            have H5 := Aside0.mk (HK.out.step hb)
            obtain ⟨p, hp⟩ : ∃ p, p = pg k := ⟨_, rfl⟩
            rw [← hp] at hps hcov hpl hR
            have HPG := Aside0.mk hp
            have hFORM : ∃ g cap A, v = .slice A p cap ∧ (0 < p → A = some ⟨g, 0, none⟩ ∧ t ≠ g ∧ lb ≠ g ∧ db ≠ g ∧ g1 ≠ g ∧ W.heap.size ≤ g ∧ Some_ w5 g (p * 12)) := by
              by_cases h0 : 0 < p
              · obtain ⟨g, cap, e, hbg, hlg, cells, hcl⟩ := Kd.R_form hR (by rw [leavesTo_length]; exact h0)
                rw [leavesTo_length] at e
                subst e
                have hcell := (RL.at hR (p - 1) (by omega) 11 (.int .i64 ((leafAt 1 ps (p - 1)).ps.getD 9 0)) (by
                  have h2 : (leavesTo 1 ps p).getD (p - 1) leaf0 = leafAt 1 ps (p - 1) := by
                    unfold leavesTo
                    rw [List.getD_eq_getElem?_getD]
                    simp [show p - 1 < p by omega]
                  rw [h2]
                  unfold leafC
                  rw [List.getElem?_append_right (by simp)]
                  exact encs_at (enc := Value.int .i64) (0 : Int) _ 9 (by show 9 < ((ps.drop (10 * (p - 1))).take 10).length; rw [List.length_take, List.length_drop]; omega))).1
                have hs := Some_.of_cell hcl hcell
                rw [show (p - 1) * 12 + 11 + 1 = p * 12 by omega] at hs
                have l1 := HT.out.tab.lt
                have l2 := HT.out.lv.lt
                have l3 := HT.out.dt.lt
                have l4 := HK.out.head.lt
                have l5 := HK.out.size
                exact ⟨g, cap, _, rfl, fun _ => ⟨rfl, by omega, by omega, by omega, by omega, by omega, hs⟩⟩
              · obtain ⟨A, cap, e⟩ := Kd.R_slice hR
                rw [leavesTo_length] at e
                exact ⟨0, cap, A, e, fun h => absurd h h0⟩
            obtain ⟨g3, cap3, A3, rfl, hF⟩ := hFORM
            have HFM := Aside0.mk (fun h => (hF h).1)
            have HFN := Aside0.mk (fun h => (hF h).2)
            clear hR hb HT HK hp hF
            go_wp2_with fail
            go_loopw [11] (fun i wr => ∃ j : Nat, j ≤ p ∧ i = .int .i64 j ∧ Aside0 (TabAt wr t lb db k ps ds) ∧ Aside0 (Keeps W [(g1, 3, encs (Value.int .i64) (ps.take k))] wr) ∧ Aside0 (0 < p → Some_ wr g3 (p * 12))) (fun i _ => p - (intOf i).toNat)
            case atStart => exact ⟨0, by omega, rfl, HT5, H5, ⟨fun h => (HFN.out h).2.2.2.2.2⟩⟩
            case round =>
              clear HT5 H5
              obtain ⟨j, hj, rfl, HT, HK, HS⟩ := hrel
              by_cases hjp : j < p
              · have hd3 : decide ((j : Int) < p) = true := by simp; omega
                have hA := HFM.out (by omega)
                obtain ⟨x1, x2, x3, x4, x5, _⟩ := HFN.out (by omega)
                have HS' := HS.out (by omega)
                subst hA
                obtain ⟨⟨v, hcv⟩, hfv⟩ := HS'.cell (j * 12 + 2) (by omega)
                go_wp2_with fail
                go_roundw
                case rel => exact ⟨j + 1, by omega, by go_num, ⟨HT.out.grown (grown_set _ g3 (j * 12 + 2) _) x1 x2 x3⟩, ⟨HK.out.grown (grown_set _ g3 (j * 12 + 2) _) x5 (by simp; omega)⟩, ⟨fun _ => HS'.set _ _⟩⟩
                case measure => simp [intOf]; omega
              · obtain rfl : j = p := by omega
                have hd3 : decide ((j : Int) < j) = false := by simp
                clear HS HFM HFN
                go_wp2_with fail
                refine (dirty_calls _ t lb db k ps ds HT.out).mono ?_
                rintro e w6 ⟨v6, rfl, hR6, hb⟩
                have HT6 := Aside0.mk (HT.out.below' hb)
                have H6 := Aside0.mk (HK.out.step hb)
                have hdl := trueTo_length ds ds.length
                rw [HT.out.hds, ← HPG.out] at hdl
                obtain ⟨q, hq⟩ : ∃ q, q = trues ds := ⟨_, rfl⟩
                have hql : q.length ≤ j := by rw [hq]; unfold trues; rw [HT.out.hds, ← HPG.out]; exact hdl
                rw [← hq] at hR6
                have hFORM : ∃ g cap A, v6 = .slice A q.length cap ∧ (0 < q.length → A = some ⟨g, 0, none⟩ ∧ t ≠ g ∧ lb ≠ g ∧ db ≠ g ∧ g1 ≠ g ∧ W.heap.size ≤ g ∧ g < w6.heap.size ∧ Some_ w6 g q.length) := by
                  by_cases h0 : 0 < q.length
                  · obtain ⟨g, cap, e, hbg, hlg, cells, hcl⟩ := Kd.R_form hR6 h0
                    subst e
                    have hcc := Kd.R_celln (0 : Int) hR6 ((q.length : Int) - 1) (by omega) (by omega)
                    have hs := Some_.of_cell hcl hcc.1
                    rw [show ((q.length : Int) - 1).toNat + 1 = q.length by omega] at hs
                    have l1 := HT.out.tab.lt
                    have l2 := HT.out.lv.lt
                    have l3 := HT.out.dt.lt
                    have l4 := HK.out.head.lt
                    have l5 := HK.out.size
                    exact ⟨g, cap, _, rfl, fun _ => ⟨rfl, by omega, by omega, by omega, by omega, by omega, hlg, hs⟩⟩
                  · obtain ⟨A, cap, e⟩ := Kd.R_slice hR6
                    exact ⟨0, cap, A, e, fun h => absurd h h0⟩
                obtain ⟨g4, cap4, A4, rfl, hF⟩ := hFORM
                have HFM := Aside0.mk (fun h => (hF h).1)
                have HFN := Aside0.mk (fun h => (hF h).2)
                have HQ := Aside0.mk hq
                clear hR6 hb HT HK hF hdl hq
                go_wp2_with fail
                refine (dirty_calls _ t lb db k ps ds HT6.out).mono ?_
                rintro e w7 ⟨v7, rfl, hR7, hb⟩
                rw [← HQ.out] at hR7
                have HT7 := Aside0.mk (HT6.out.below' hb)
                have H7 := Aside0.mk (H6.out.step hb)
                have HS7 := Aside0.mk (show 0 < q.length → Some_ w7 g4 q.length from fun h => by
                  obtain ⟨T, cs, hbk, hm⟩ := (HFN.out h).2.2.2.2.2.2
                  exact ⟨T, cs, hbk.below' hb, hm⟩)
                have HR7 := Aside0.mk (Kd.R_mono (Kd.R_bound hR7) (fun k' h => show 0 < q.length → k' ≠ g4 from fun h0 => by have := h.2.1; have := (HFN.out h0).2.2.2.2.2.1; omega) : Kd.R (Kd.int .i64) 3 w7 w6.heap.size (fun k' => 0 < q.length → k' ≠ g4) v7 q)
                clear hR7 hb HT6 H6
                go_wp2_with fail
                go_loopw [14] (fun i wr => ∃ m : Nat, m ≤ q.length ∧ i = .int .i64 m ∧ Aside0 (TabAt wr t lb db k ps ds) ∧ Aside0 (Keeps W [(g1, 3, encs (Value.int .i64) (ps.take k))] wr) ∧ Aside0 (0 < q.length → Some_ wr g4 q.length) ∧ Aside0 (Kd.R (Kd.int .i64) 3 wr w6.heap.size (fun k' => 0 < q.length → k' ≠ g4) v7 q)) (fun i _ => q.length - (intOf i).toNat)
                case atStart => exact ⟨0, by omega, rfl, HT7, H7, HS7, HR7⟩
                case round =>
                  clear HT7 H7 HS7 HR7
                  obtain ⟨m, hm, rfl, HT, HK, HS, HR⟩ := hrel
                  by_cases hmq : m < q.length
                  · have hd4 : decide ((m : Int) < q.length) = true := by simp; omega
                    have hA := HFM.out (by omega)
                    obtain ⟨x1, x2, x3, x4, x5, _, _⟩ := HFN.out (by omega)
                    have HS' := HS.out (by omega)
                    subst hA
                    obtain ⟨⟨v, hcv⟩, hfv⟩ := HS'.cell m (by omega)
                    go_wp2_with fail
                    go_roundw
                    case rel => exact ⟨m + 1, by omega, by go_num, ⟨HT.out.grown (grown_set _ g4 m _) x1 x2 x3⟩, ⟨HK.out.grown (grown_set _ g4 m _) x5 (by simp; omega)⟩, ⟨fun _ => HS'.set _ _⟩, ⟨Kd.R_far HR.out (fun k' h => h (by omega)) _⟩⟩
                    case measure => simp [intOf]; omega
                  · obtain rfl : m = q.length := by omega
                    have hd4 : decide ((q.length : Int) < q.length) = false := by simp
                    clear HS HFM HFN
                    go_wp2_with fail
                    refine (places_calls _ t lb db k ps ds HT.out).mono ?_
                    rintro e w8 ⟨g5, rfl, hB5, hg5, hb⟩
                    have HT8 := Aside0.mk (HT.out.below' hb)
                    have H8 := Aside0.mk ((HK.out.step hb).cons hB5)
                    have HR8 := Aside0.mk (Kd.R_below HR.out hb)
                    clear hB5 hb HT HK HR
                    have hk1 : k ≤ 255 := by omega
                    obtain ⟨s, hs⟩ : ∃ s, s = ps.take k := ⟨_, rfl⟩
                    rw [← hs] at H8 htl
                    clear hs
                    have HR1 := Aside0.mk (show CI w8 (some ⟨g5, 0, none⟩) k s by have := blk_reads H8.out.head (by omega); rwa [htl] at this)
                    have HR2 := Aside0.mk (show CI w8 (some ⟨g1, 0, none⟩) k s by have := blk_reads H8.out.tail.head (by omega); rwa [htl] at this)
                    go_wp2_with fail
                    refine (same_calls _ _ k k s HR1.out _ k k s HR2.out (by omega) (by omega)).mono ?_
                    rintro e w9 ⟨rfl, hb⟩
                    rw [decide_eq_true rfl]
                    have HT9 := Aside0.mk (HT8.out.below' hb)
                    have H9 := Aside0.mk (H8.out.step hb)
                    have HR9 := Aside0.mk (Kd.R_below HR8.out hb)
                    clear hb HT8 H8 HR8 HR1 HR2
                    go_wp2_with fail
                    refine (dirty_calls _ t lb db k ps ds HT9.out).mono ?_
                    rintro e w10 ⟨v10, rfl, hR10, hb⟩
                    rw [← HQ.out] at hR10
                    have H10 := Aside0.mk (H9.out.step hb)
                    have hR11 := Kd.R_below HR9.out hb
                    obtain ⟨A10, c10, rfl, hC10⟩ := RI.slice hR10
                    obtain ⟨A11, c11, rfl⟩ := Kd.R_slice hR11
                    have hC11 := (Kd.R_reads' hR11).2.2
                    have HC10 := Aside0.mk hC10
                    have HC11 := Aside0.mk hC11
                    clear hR10 hR11 hC10 hC11 hb HT9 H9 HR9
                    go_wp2_with fail
                    refine (same_calls _ A10 q.length c10 q HC10.out A11 q.length c11 q HC11.out (by omega) (by omega)).mono ?_
                    rintro e w11 ⟨rfl, hb⟩
                    rw [decide_eq_true rfl]
                    have H11 := Aside0.mk (H10.out.step hb)
                    clear hb
                    go_wp2_with fail
                    go_ret
                    exact ⟨rfl, H11.out.below⟩
end Go.Proofs.Ytkkmmbbnaafhlaa.Tab
