/- The walks of layer 9's statements: TableCounts. -/
import Derived.Test.YtkkmmbbnaafhlaaTabLaws
namespace Go.Proofs.Ytkkmmbbnaafhlaa.Tab
set_option linter.unusedSimpArgs false
set_option linter.unusedVariables false
open Go.RowKit Go.Proofs.YtkkmmbbnaafhlaaW.PrintWords Go.Proofs.YtkkmmbbnaafhlaaW.PrintLast Go.Proofs.YtkkmmbbnaafhlaaW.PrintMore Arr

theorem some0_pad {n : Nat} {ps : List Int} (h : Pad n ps) : some0 ps = some0 (ps.take n) := by
  have e : ps = ps.take n ++ ps.drop n := (List.take_append_drop n ps).symm
  have hz : (ps.drop n).filter (· != 0) = [] := by
    rw [List.filter_eq_nil_iff]
    intro x hx
    obtain ⟨j, hj, rfl⟩ := List.getElem_of_mem hx
    have := h (n + j) (by omega)
    rw [← getD_drop, List.getD_eq_getElem?_getD, List.getElem?_eq_getElem hj] at this
    simp only [Option.getD_some] at this
    simp [this]
  unfold some0
  conv => lhs; rw [e]
  rw [List.filter_append, hz, List.append_nil]
theorem pg_least (n : Nat) : pg n = 0 ∨ (pg n - 1) * 10 < n := by unfold pg; omega
theorem leavesTo_at (gen : Int) (ps : List Int) (p k : Nat) (h : k < p) : (leavesTo gen ps p).getD k leaf0 = leafAt gen ps k := by
  unfold leavesTo
  rw [List.getD_eq_getElem?_getD]
  simp [h]
theorem trues_le (ds : List Bool) : (trues ds).length ≤ ds.length := trueTo_length ds ds.length
theorem leafC_place (gen : Int) (ps : List Int) (i j : Nat) (hj : j < 10) (h : 10 * i + 10 ≤ ps.length) : (leafC (leafAt gen ps i))[2 + j]? = some (.int .i64 (ps.getD (10 * i + j) 0)) := by
  unfold leafC leafAt
  rw [List.getElem?_append_right (by simp)]
  have : 2 + j - [Value.int .i64 gen, Value.int .i64 (i : Int)].length = j := by simp
  rw [this, encs_at (enc := Value.int .i64) (0 : Int) _ j (by rw [List.length_take, List.length_drop]; omega), getD_take hj, getD_drop]
set_option maxRecDepth 10000 in
set_option maxHeartbeats 4000000 in
theorem counts_walk (W : World) (tb : Int) (htb : (Lit.int .u8 tb).wf = true) (A : Option Addr) (c : Nat) (l : List Put) (hlc : l.length ≤ c) (hC : k52.C W A l.length l) (hG : ∀ x ∈ l, gPut x) : Calls Try.prog 9 #[.int .u8 tb, .slice A l.length c] W (Holds W) := by
  have HW := Aside0.mk (Keeps.refl W)
  have HC := Aside0.mk hC
  have HPW := Aside0.mk hG
  obtain ⟨hb0, hb1⟩ := bounds_u8 htb
  obtain ⟨n, rfl⟩ : ∃ n : Nat, tb = n := ⟨tb.toNat, by omega⟩
  clear hC hG htb hlc
  go_enter Try.func9, Try.ntmps9
  go_wp2_with fail
  refine (awake_calls _).mono ?_
  rintro e w1 ⟨rfl, hb⟩
  have H1 := Aside0.mk (HW.out.step hb)
  clear hb
  by_cases hlen : 100 < l.length
  · have hd : decide (100 < (l.length : Int)) = true := by simp; omega
    go_wp2_with fail
    refine (awake_calls _).mono ?_
    rintro e w2 ⟨rfl, hb⟩
    have H2 := Aside0.mk (H1.out.step hb)
    clear hb
    go_wp2_with fail
    go_ret
    exact ⟨rfl, H2.out.below⟩
  · have hd : decide (100 < (l.length : Int)) = false := by simp; omega
    go_wp2_with fail
    refine (new_calls _ n (by omega)).mono ?_
    rintro e w2 ⟨t, lb, db, rfl, hT, htw, hlb, hdb, hb⟩
    have hlb := Nat.le_trans H1.out.size hlb
    have hdb := Nat.le_trans H1.out.size hdb
    have HT0 := Aside0.mk hT
    have H2 := Aside0.mk (H1.out.step hb)
    clear hT hb H1 hd htw
    go_wp2_with fail
    go_loopw [6] (fun i wr => ∃ k : Nat, k ≤ l.length ∧ i = .int .i64 k ∧ ∃ ps ds, Aside0 (TabAt wr t lb db n ps ds) ∧ Aside0 (Pad n ps) ∧ Aside0 (Keeps W [] wr)) (fun i _ => l.length - (intOf i).toNat)
    case atStart => exact ⟨0, by omega, rfl, _, _, HT0, ⟨pad_zeros n _⟩, H2⟩
    case round =>
      clear HT0 H2
      obtain ⟨k, hk, rfl, ps, ds, HT, HP, HK⟩ := hrel
      by_cases hlt : k < l.length
      · have hd : decide ((k : Int) < l.length) = true := by simp; omega
        have hwf := HPW.out (l.getD k put0) (getD_mem l k hlt)
        obtain ⟨ad, hA, _⟩ := at_put HC.out k hlt
        subst hA
        obtain ⟨x, hx⟩ : ∃ x, x = l.getD k put0 := ⟨_, rfl⟩
        have HAT := Aside0.mk (fun (w' : World) (hb : Below W.heap.size W w') => (put_at HC.out k hlt hb : w'.cell? (ad.add (k * 3)) = some (.int .i64 (l.getD k put0).blk) ∧ w'.cell? ⟨(ad.add (k * 3)).block, (ad.add (k * 3)).off + 1, none⟩ = some (.int .i64 (l.getD k put0).place) ∧ w'.cell? ⟨(ad.add (k * 3)).block, (ad.add (k * 3)).off + 2, none⟩ = some (.bool (l.getD k put0).clean)))
        rw [← hx] at HAT hwf
        clear hx
        obtain ⟨xb, xp, xc⟩ := x
        have hxb := (bounds_i64 hwf.1).1
        have HSC := Aside0.mk (show ∀ w', Below W.heap.size W w' → w'.cell? (ad.add (k * 3)) = some (.int .i64 xb) from fun w' hb => (HAT.out w' hb).1)
        have HSP := Aside0.mk (show ∀ w', Below W.heap.size W w' → w'.cell? ⟨(ad.add (k * 3)).block, (ad.add (k * 3)).off + 1, none⟩ = some (.int .i64 xp) from fun w' hb => (HAT.out w' hb).2.1)
        clear hwf HAT
        go_upto_region 7 with (fail)
        refine wp_region_held_drew (S := (fun w' => Below W.heap.size W w')) (by kernel_rfl) (by exact HK.out.drew.below) (fun hHeld => ?_)
        refine wpAnyH_tk (i := 0) (v := ?vz1) 29 rfl rfl (by kernel_rfl) (by kernel_rfl) (by kernel_rfl) (fun _ _ _ h => h) (Or.inl ⟨by rfl, ?yz1⟩) hHeld ?rz1
        case yz1 => (intro w hSw; go_simp; try with_reducible rfl)
        (try simp only [Act.put, List.setIfInBounds_toArray, List.set_cons_zero, List.set_cons_succ])
        refine wpAnyH_tk (i := 1) (v := ?vz2) 30 rfl rfl (by kernel_rfl) (by kernel_rfl) (by kernel_rfl) (fun _ _ _ h => h) (Or.inl ⟨by rfl, ?yz2⟩) hHeld ?rz2
        case yz2 => (intro w hSw; go_simp; try with_reducible rfl)
        (try simp only [Act.put, List.setIfInBounds_toArray, List.set_cons_zero, List.set_cons_succ])
        refine wpAnyH_tk (i := 2) (v := ?vz3) 31 rfl rfl (by kernel_rfl) (by kernel_rfl) (by kernel_rfl) (fun _ _ _ h => h) (Or.inl ⟨by rfl, ?yz3⟩) hHeld ?rz3
        case yz3 => (intro w hSw; go_simp; try with_reducible rfl)
        (try simp only [Act.put, List.setIfInBounds_toArray, List.set_cons_zero, List.set_cons_succ])
        refine wpAnyH_tk (i := 3) (v := ?vz4) 32 rfl rfl (by kernel_rfl) (by kernel_rfl) (by kernel_rfl) (fun _ _ _ h => h) (Or.inl ⟨by rfl, ?yz4⟩) hHeld ?rz4
        case yz4 => (intro w hSw; go_simp; try with_reducible rfl)
        (try simp only [Act.put, List.setIfInBounds_toArray, List.set_cons_zero, List.set_cons_succ])
        refine wpAnyH_tk (i := 4) (v := ?vz5) 33 rfl rfl (by kernel_rfl) (by kernel_rfl) (by kernel_rfl) (fun _ _ _ h => h) (Or.inl ⟨by rfl, ?yz5⟩) hHeld ?rz5
        case yz5 => (intro w hSw; go_simp; try with_reducible rfl)
        (try simp only [Act.put, List.setIfInBounds_toArray, List.set_cons_zero, List.set_cons_succ])
        refine wpAnyH_tk (i := 5) (v := _) 34 rfl rfl (by kernel_rfl) (by kernel_rfl) (by kernel_rfl) (fun _ _ _ h => h) (yields_cell (by rfl) 3 (.tmp 33) rfl _ rfl (v := .int .i64 xb) (fun w h => HSC.out w h) Try.underlying3 rfl) hHeld ?_
        (try simp only [Act.put, List.setIfInBounds_toArray, List.set_cons_zero, List.set_cons_succ])
        refine wpAnyH_tk (i := 6) (v := ?vz6) 35 rfl rfl (by kernel_rfl) (by kernel_rfl) (by kernel_rfl) (fun _ _ _ h => h) (Or.inl ⟨by rfl, ?yz6⟩) hHeld ?rz6
        case yz6 => (intro w hSw; go_simp; try with_reducible rfl)
        (try simp only [Act.put, List.setIfInBounds_toArray, List.set_cons_zero, List.set_cons_succ])
        refine wpAnyH_tk (i := 7) (v := ?vz7) 36 rfl rfl (by kernel_rfl) (by kernel_rfl) (by kernel_rfl) (fun _ _ _ h => h) (Or.inl ⟨by rfl, ?yz7⟩) hHeld ?rz7
        case yz7 => (intro w hSw; go_simp; try with_reducible rfl)
        (try simp only [Act.put, List.setIfInBounds_toArray, List.set_cons_zero, List.set_cons_succ])
        refine wpAnyH_tk (i := 8) (v := ?vz8) 37 rfl rfl (by kernel_rfl) (by kernel_rfl) (by kernel_rfl) (fun _ _ _ h => h) (Or.inl ⟨by rfl, ?yz8⟩) hHeld ?rz8
        case yz8 => (intro w hSw; go_simp; try with_reducible rfl)
        (try simp only [Act.put, List.setIfInBounds_toArray, List.set_cons_zero, List.set_cons_succ])
        refine wpAnyH_tk (i := 9) (v := ?vz9) 38 rfl rfl (by kernel_rfl) (by kernel_rfl) (by kernel_rfl) (fun _ _ _ h => h) (Or.inl ⟨by rfl, ?yz9⟩) hHeld ?rz9
        case yz9 => (intro w hSw; go_simp; try with_reducible rfl)
        (try simp only [Act.put, List.setIfInBounds_toArray, List.set_cons_zero, List.set_cons_succ])
        refine wpAnyH_tk (i := 10) (v := _) 39 rfl rfl (by kernel_rfl) (by kernel_rfl) (by kernel_rfl) (fun _ _ _ h => h) (yields_cell (by rfl) 3 (.tmp 38) rfl _ rfl (v := .int .i64 xp) (fun w h => HSP.out w h) Try.underlying3 rfl) hHeld ?_
        (try simp only [Act.put, List.setIfInBounds_toArray, List.set_cons_zero, List.set_cons_succ])
        refine wpAnyH_one (i := 11) (by kernel_rfl) rfl (fun K hK => ?_)
        go_simp
        go_wp2_with ((go_at_call 23; refine (set_calls _ t lb db n ps ds HT.out.drew xb xp hxb).mono ?_; rintro e wx ⟨rfl, hTx, hMx⟩; have hHX := hMx.below _ _ hHeld hlb hdb hHeld.size))
        refine hK.out _ _ (by exact hHX) (fun hHeld => ?_)
        clear hK K
        refine wpAnyH_done (by kernel_rfl) ?_ _
        skip
        go_wp2_with fail
        go_roundw
        case rel => exact ⟨k + 1, by omega, by go_num, _, _, ⟨hTx⟩, ⟨pad_set HP.out xb xp⟩, ⟨⟨hHX, fun _ h => by cases h⟩⟩⟩
        case measure => simp [intOf]; omega
      · obtain rfl : k = l.length := by omega
        have hd : decide ((l.length : Int) < l.length) = false := by simp
        have hps := HT.out.hps
        have hcov := pg_cover n
        have hpl := pg_le HT.out.hn
        have hcov2 := pg_least n
        have HPD := Aside0.mk (some0_pad HP.out)
        have HDS := Aside0.mk HT.out.hds
        go_wp2_with fail
        refine (leaves_calls _ t lb db n ps ds HT.out 1).mono ?_
        rintro e w3 ⟨v, rfl, hR, hb⟩
        have HT3 := Aside0.mk (HT.out.below' hb)
        have H3 := Aside0.mk (HK.out.step hb)
        obtain ⟨p, hp⟩ : ∃ p, p = pg n := ⟨_, rfl⟩
        rw [← hp] at hps hcov hpl hcov2 hR HDS
        obtain ⟨A2, c2, rfl⟩ := Kd.R_slice hR
        rw [leavesTo_length] at hR
        rw [leavesTo_length]
        have HR := Aside0.mk hR
        have HPG := Aside0.mk hp
        clear hR hb HT HK hd hp
        go_wp2_with fail
        go_loop [8, 9, 10] (fun s i u => ∃ k : Nat, k ≤ p ∧ i = .int .i64 k ∧ s = .int .i64 (some0 (ps.take (10 * k)))) (fun _ i _ => p - (intOf i).toNat)
        case atStart => exact ⟨0, by omega, rfl, rfl⟩
        case round =>
          obtain ⟨k, hk, rfl, rfl⟩ := hrel
          by_cases hlt : k < p
          · have hd2 : decide ((k : Int) < p) = true := by simp; omega
            obtain ⟨g, cap, e, hbg, hlg, _⟩ := Kd.R_form HR.out (by rw [leavesTo_length]; omega)
            rw [leavesTo_length] at e
            injection e with e1 e2 e3
            subst e1
            have HIX := Aside0.mk ((RL.at HR.out k hlt 1 (.int .i64 k) (by rw [leavesTo_at _ _ _ _ hlt]; rfl)).1)
            have HPL := Aside0.mk (fun (j : Nat) (hj : j < 10) => (RL.at HR.out k hlt (2 + j) (.int .i64 (ps.getD (10 * k + j) 0)) (by rw [leavesTo_at _ _ _ _ hlt]; exact leafC_place 1 ps k j hj (by omega))).1)
            go_wp2_with fail
            go_loop [8, 10] (fun s i => ∃ j : Nat, j ≤ 10 ∧ i = .int .i64 j ∧ s = .int .i64 (some0 (ps.take (10 * k + j)))) (fun _ i => 10 - (intOf i).toNat)
            case atStart => exact ⟨0, by omega, rfl, rfl⟩
            case round =>
              obtain ⟨j, hj, rfl, rfl⟩ := hrel
              by_cases hj2 : j < 10
              · have hcell := HPL.out j hj2
                have HS := Aside0.mk (show some0 (ps.take (10 * k + (j + 1))) = some0 (ps.take (10 * k + j)) + (if ps.getD (10 * k + j) 0 != 0 then 1 else 0) by rw [← Nat.add_assoc, take_rd ps (10 * k + j) (by omega), some0_snoc])
                have hsl := some0_le (ps.take (10 * k + j))
                rw [List.length_take] at hsl
                obtain ⟨hs0, hs1⟩ := hsl
                obtain ⟨x, hx⟩ : ∃ x, x = ps.getD (10 * k + j) 0 := ⟨_, rfl⟩
                obtain ⟨s, hs⟩ : ∃ s, s = some0 (ps.take (10 * k + j)) := ⟨_, rfl⟩
                rw [← hx] at hcell HS
                rw [← hs] at HS hs0 hs1
                rw [← hs]
                have hs2 : s ≤ 5000 := by omega
                rw [← Nat.add_assoc] at hcell
                clear hx hs
                by_cases hx0 : x = 0
                · have hbx : (x != 0) = false := by simp; exact hx0
                  rw [hbx] at HS
                  go_wp2_with fail
                  go_round
                  case rel => exact ⟨j + 1, by omega, by go_num, by rw [HS.out]; simp⟩
                  case measure => simp [intOf]; omega
                · have hbx : (x != 0) = true := by simp; exact hx0
                  rw [hbx] at HS
                  go_wp2_with fail
                  go_round
                  case rel => exact ⟨j + 1, by omega, by go_num, by rw [HS.out]; rfl⟩
                  case measure => simp [intOf]; omega
              · obtain rfl : j = 10 := by omega
                have hix := HIX.out
                rw [show 10 * k + 10 = 10 * (k + 1) by omega]
                go_wp2_with fail
                go_round
                case rel => exact ⟨_, _, _, ⟨k + 1, by omega, by go_num, rfl⟩, rfl, rfl, rfl⟩
                case measure => simp [intOf]; omega
          · obtain rfl : k = p := by omega
            have hd2 : decide ((k : Int) < k) = false := by simp
            have htk : ps.take (10 * k) = ps := List.take_of_length_le (by omega)
            rw [htk, HPD.out]
            obtain ⟨s, hs⟩ : ∃ s, s = some0 (ps.take n) := ⟨_, rfl⟩
            have HS := Aside0.mk hs
            rw [← hs]
            clear htk hs
            go_wp2_with fail
            refine (dirty_calls _ t lb db n ps ds HT3.out).mono ?_
            rintro e w4 ⟨v4, rfl, hR4, hb⟩
            have HT4 := Aside0.mk (HT3.out.below' hb)
            have H4 := Aside0.mk (H3.out.step hb)
            obtain ⟨A5, c5, rfl⟩ := Kd.R_slice hR4
            have hdl := trues_le ds
            rw [HDS.out] at hdl
            obtain ⟨dn, hdn⟩ : ∃ dn, dn = (trues ds).length := ⟨_, rfl⟩
            rw [← hdn] at hdl
            rw [← hdn]
            clear hR4 hb hdn HR
            go_wp2_with fail
            refine (count_calls _ t lb db n ps ds HT4.out).mono ?_
            rintro e w5 ⟨rfl, hb⟩
            have H5 := Aside0.mk (H4.out.step hb)
            rw [← HS.out]
            clear hb
            have hd3 : decide (dn ≤ k) = true := by simp; omega
            have hd4 : decide ((dn : Int) ≤ k) = true := by simp; omega
            have hd5 : decide ((n : Int) ≤ (k : Int) * 10) = true := by simp; omega
            have hd6 : decide ((n : Int) ≤ 10 * (k : Int)) = true := by simp; omega
            have HPL := Aside0.mk hcov2
            by_cases hk0 : k = 0
            · subst hk0
              go_wp2_with fail
              go_ret
              exact ⟨by simp; omega, H5.out.below⟩
            · have hb6 : ((k : Int) == 0) = false := by simp; omega
              have hb7 : decide (((k : Int) - 1) * 10 < (n : Int)) = true := by simp; omega
              go_wp2_with fail
              go_ret
              exact ⟨by simp, H5.out.below⟩
end Go.Proofs.Ytkkmmbbnaafhlaa.Tab
