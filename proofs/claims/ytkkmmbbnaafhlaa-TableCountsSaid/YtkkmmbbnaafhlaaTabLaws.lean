/- The walks of layer 9's statements: TableUndo. -/
import Derived.Test.YtkkmmbbnaafhlaaTabPut
namespace Go.Proofs.Ytkkmmbbnaafhlaa.Tab
set_option linter.unusedSimpArgs false
set_option linter.unusedVariables false
open Go.RowKit Go.Proofs.YtkkmmbbnaafhlaaW.PrintWords Go.Proofs.YtkkmmbbnaafhlaaW.PrintLast Go.Proofs.YtkkmmbbnaafhlaaW.PrintMore Arr

theorem setP_other (ps : List Int) (n : Nat) (b x : Int) (k : Nat) (h : (k : Int) ≠ b) : (setP ps n b x).getD k 0 = ps.getD k 0 := by
  unfold setP
  split
  · by_cases hlt : b.toNat < ps.length
    · rw [getD_set _ _ _ _ hlt, if_neg (by omega)]
    · rw [List.set_eq_of_length_le (by omega)]
  · rfl
theorem setP_here (ps : List Int) (n : Nat) (x : Int) (k : Nat) (h : k < n) (hl : k < ps.length) : (setP ps n (k : Int) x).getD k 0 = x := by
  unfold setP
  rw [if_pos (by omega), Int.toNat_natCast, getD_set _ _ _ _ hl, if_pos rfl]
theorem setP_back (ps : List Int) (n : Nat) (b x : Int) : setP (setP ps n b x) n b (getP ps n b) = ps := by
  unfold setP getP
  by_cases h : 0 ≤ b ∧ b < n
  · rw [if_pos h, if_pos h, if_pos h, List.set_set]
    apply ext_getD (by rw [List.length_set])
    intro j hj
    rw [List.length_set] at hj
    by_cases hlt : b.toNat < ps.length
    · rw [getD_set _ _ _ _ hlt]
      by_cases e : b.toNat = j
      · rw [if_pos e, e]
      · rw [if_neg e]
    · rw [List.set_eq_of_length_le (by omega)]
  · rw [if_neg h, if_neg h]
theorem pg_cover (n : Nat) : n ≤ 10 * pg n := by unfold pg; omega
set_option maxRecDepth 10000 in
set_option maxHeartbeats 4000000 in
theorem undo_walk (W : World) (tb : Int) (htb : (Lit.int .u8 tb).wf = true) (A : Option Addr) (c : Nat) (l : List Put) (hlc : l.length ≤ c) (hC : k52.C W A l.length l) (hG : ∀ x ∈ l, gPut x) (b : Int) (hbw : (Lit.int .i64 b).wf = true) (x : Int) (hxw : (Lit.int .i64 x).wf = true) : Calls Try.prog 8 #[.int .u8 tb, .slice A l.length c, .int .i64 b, .int .i64 x] W (Holds W) := by
  have HW := Aside0.mk (Keeps.refl W)
  have HC := Aside0.mk hC
  have HPW := Aside0.mk hG
  obtain ⟨hb0, hb1⟩ := bounds_u8 htb
  obtain ⟨n, rfl⟩ : ∃ n : Nat, tb = n := ⟨tb.toNat, by omega⟩
  clear hC hG htb hlc
  have hbb := (bounds_i64 hbw).1
  clear hbw hxw
  go_enter Try.func8, Try.ntmps8
  go_wp2_with fail
  refine (awake_calls _).mono ?_
  rintro e w1 ⟨rfl, hb⟩
  have H1 := Aside0.mk (HW.out.step hb)
  clear hb
  by_cases hlen : 100 < l.length
  · have hd : decide (100 < (l.length : Int)) = true := by simp; omega
    go_wp2_with fail
    refine (awake_calls _).mono ?_
    rintro e w2 ⟨rfl, hb⟩
    have H2 := Aside0.mk (H1.out.step hb)
    clear hb
    go_wp2_with fail
    go_ret
    exact ⟨rfl, H2.out.below⟩
  · have hd : decide (100 < (l.length : Int)) = false := by simp; omega
    go_wp2_with fail
    refine (new_calls _ n (by omega)).mono ?_
    rintro e w2 ⟨t, lb, db, rfl, hT, htw, hlb, hdb, hb⟩
    have hlb := Nat.le_trans H1.out.size hlb
    have hdb := Nat.le_trans H1.out.size hdb
    have HT0 := Aside0.mk hT
    have H2 := Aside0.mk (H1.out.step hb)
    clear hT hb H1 hd htw
    go_wp2_with fail
    go_loopw [10] (fun i wr => ∃ k : Nat, k ≤ l.length ∧ i = .int .i64 k ∧ ∃ ps ds, Aside0 (TabAt wr t lb db n ps ds) ∧ Aside0 (Pad n ps) ∧ Aside0 (Keeps W [] wr)) (fun i _ => l.length - (intOf i).toNat)
    case atStart => exact ⟨0, by omega, rfl, _, _, HT0, ⟨pad_zeros n _⟩, H2⟩
    case round =>
      clear HT0 H2
      obtain ⟨k, hk, rfl, ps, ds, HT, HP, HK⟩ := hrel
      by_cases hlt : k < l.length
      · have hd : decide ((k : Int) < l.length) = true := by simp; omega
        have hwf := HPW.out (l.getD k put0) (getD_mem l k hlt)
        obtain ⟨ad, hA, _⟩ := at_put HC.out k hlt
        subst hA
        obtain ⟨x, hx⟩ : ∃ x, x = l.getD k put0 := ⟨_, rfl⟩
        have HAT := Aside0.mk (fun (w' : World) (hb : Below W.heap.size W w') => (put_at HC.out k hlt hb : w'.cell? (ad.add (k * 3)) = some (.int .i64 (l.getD k put0).blk) ∧ w'.cell? ⟨(ad.add (k * 3)).block, (ad.add (k * 3)).off + 1, none⟩ = some (.int .i64 (l.getD k put0).place) ∧ w'.cell? ⟨(ad.add (k * 3)).block, (ad.add (k * 3)).off + 2, none⟩ = some (.bool (l.getD k put0).clean)))
        rw [← hx] at HAT hwf
        clear hx
        obtain ⟨xb, xp, xc⟩ := x
        have hxb := (bounds_i64 hwf.1).1
        have HSC := Aside0.mk (show ∀ w', Below W.heap.size W w' → w'.cell? (ad.add (k * 3)) = some (.int .i64 xb) from fun w' hb => (HAT.out w' hb).1)
        have HSP := Aside0.mk (show ∀ w', Below W.heap.size W w' → w'.cell? ⟨(ad.add (k * 3)).block, (ad.add (k * 3)).off + 1, none⟩ = some (.int .i64 xp) from fun w' hb => (HAT.out w' hb).2.1)
        clear hwf HAT
        go_upto_region 7 with (fail)
        refine wp_region_held_drew (S := (fun w' => Below W.heap.size W w')) (by kernel_rfl) (by exact HK.out.drew.below) (fun hHeld => ?_)
        refine wpAnyH_tk (i := 0) (v := ?vz1) 32 rfl rfl (by kernel_rfl) (by kernel_rfl) (by kernel_rfl) (fun _ _ _ h => h) (Or.inl ⟨by rfl, ?yz1⟩) hHeld ?rz1
        case yz1 => (intro w hSw; go_simp; try with_reducible rfl)
        (try simp only [Act.put, List.setIfInBounds_toArray, List.set_cons_zero, List.set_cons_succ])
        refine wpAnyH_tk (i := 1) (v := ?vz2) 33 rfl rfl (by kernel_rfl) (by kernel_rfl) (by kernel_rfl) (fun _ _ _ h => h) (Or.inl ⟨by rfl, ?yz2⟩) hHeld ?rz2
        case yz2 => (intro w hSw; go_simp; try with_reducible rfl)
        (try simp only [Act.put, List.setIfInBounds_toArray, List.set_cons_zero, List.set_cons_succ])
        refine wpAnyH_tk (i := 2) (v := ?vz3) 34 rfl rfl (by kernel_rfl) (by kernel_rfl) (by kernel_rfl) (fun _ _ _ h => h) (Or.inl ⟨by rfl, ?yz3⟩) hHeld ?rz3
        case yz3 => (intro w hSw; go_simp; try with_reducible rfl)
        (try simp only [Act.put, List.setIfInBounds_toArray, List.set_cons_zero, List.set_cons_succ])
        refine wpAnyH_tk (i := 3) (v := ?vz4) 35 rfl rfl (by kernel_rfl) (by kernel_rfl) (by kernel_rfl) (fun _ _ _ h => h) (Or.inl ⟨by rfl, ?yz4⟩) hHeld ?rz4
        case yz4 => (intro w hSw; go_simp; try with_reducible rfl)
        (try simp only [Act.put, List.setIfInBounds_toArray, List.set_cons_zero, List.set_cons_succ])
        refine wpAnyH_tk (i := 4) (v := ?vz5) 36 rfl rfl (by kernel_rfl) (by kernel_rfl) (by kernel_rfl) (fun _ _ _ h => h) (Or.inl ⟨by rfl, ?yz5⟩) hHeld ?rz5
        case yz5 => (intro w hSw; go_simp; try with_reducible rfl)
        (try simp only [Act.put, List.setIfInBounds_toArray, List.set_cons_zero, List.set_cons_succ])
        refine wpAnyH_tk (i := 5) (v := _) 37 rfl rfl (by kernel_rfl) (by kernel_rfl) (by kernel_rfl) (fun _ _ _ h => h) (yields_cell (by rfl) 3 (.tmp 36) rfl _ rfl (v := .int .i64 xb) (fun w h => HSC.out w h) Try.underlying3 rfl) hHeld ?_
        (try simp only [Act.put, List.setIfInBounds_toArray, List.set_cons_zero, List.set_cons_succ])
        refine wpAnyH_tk (i := 6) (v := ?vz6) 38 rfl rfl (by kernel_rfl) (by kernel_rfl) (by kernel_rfl) (fun _ _ _ h => h) (Or.inl ⟨by rfl, ?yz6⟩) hHeld ?rz6
        case yz6 => (intro w hSw; go_simp; try with_reducible rfl)
        (try simp only [Act.put, List.setIfInBounds_toArray, List.set_cons_zero, List.set_cons_succ])
        refine wpAnyH_tk (i := 7) (v := ?vz7) 39 rfl rfl (by kernel_rfl) (by kernel_rfl) (by kernel_rfl) (fun _ _ _ h => h) (Or.inl ⟨by rfl, ?yz7⟩) hHeld ?rz7
        case yz7 => (intro w hSw; go_simp; try with_reducible rfl)
        (try simp only [Act.put, List.setIfInBounds_toArray, List.set_cons_zero, List.set_cons_succ])
        refine wpAnyH_tk (i := 8) (v := ?vz8) 40 rfl rfl (by kernel_rfl) (by kernel_rfl) (by kernel_rfl) (fun _ _ _ h => h) (Or.inl ⟨by rfl, ?yz8⟩) hHeld ?rz8
        case yz8 => (intro w hSw; go_simp; try with_reducible rfl)
        (try simp only [Act.put, List.setIfInBounds_toArray, List.set_cons_zero, List.set_cons_succ])
        refine wpAnyH_tk (i := 9) (v := ?vz9) 41 rfl rfl (by kernel_rfl) (by kernel_rfl) (by kernel_rfl) (fun _ _ _ h => h) (Or.inl ⟨by rfl, ?yz9⟩) hHeld ?rz9
        case yz9 => (intro w hSw; go_simp; try with_reducible rfl)
        (try simp only [Act.put, List.setIfInBounds_toArray, List.set_cons_zero, List.set_cons_succ])
        refine wpAnyH_tk (i := 10) (v := _) 42 rfl rfl (by kernel_rfl) (by kernel_rfl) (by kernel_rfl) (fun _ _ _ h => h) (yields_cell (by rfl) 3 (.tmp 41) rfl _ rfl (v := .int .i64 xp) (fun w h => HSP.out w h) Try.underlying3 rfl) hHeld ?_
        (try simp only [Act.put, List.setIfInBounds_toArray, List.set_cons_zero, List.set_cons_succ])
        refine wpAnyH_one (i := 11) (by kernel_rfl) rfl (fun K hK => ?_)
        go_simp
        go_wp2_with ((go_at_call 23; refine (set_calls _ t lb db n ps ds HT.out.drew xb xp hxb).mono ?_; rintro e wx ⟨rfl, hTx, hMx⟩; have hHX := hMx.below _ _ hHeld hlb hdb hHeld.size))
        refine hK.out _ _ (by exact hHX) (fun hHeld => ?_)
        clear hK K
        refine wpAnyH_done (by kernel_rfl) ?_ _
        skip
        go_wp2_with fail
        go_roundw
        case rel => exact ⟨k + 1, by omega, by go_num, _, _, ⟨hTx⟩, ⟨pad_set HP.out xb xp⟩, ⟨⟨hHX, fun _ h => by cases h⟩⟩⟩
        case measure => simp [intOf]; omega
      · obtain rfl : k = l.length := by omega
        have hd : decide ((l.length : Int) < l.length) = false := by simp
        have hps := HT.out.hps
        have hcov := pg_cover n
        have hpl := pg_le HT.out.hn
        go_wp2_with fail
        refine (places_calls _ t lb db n ps ds HT.out).mono ?_
        rintro e w3 ⟨g1, rfl, hB1, hg1, hb⟩
        have HT3 := Aside0.mk (HT.out.below' hb)
        have H3 := Aside0.mk ((HK.out.step hb).cons hB1)
        have hg1W : W.heap.size ≤ g1 := Nat.le_trans HK.out.size hg1
        clear hB1 hb HT HK
        go_wp2_with fail
        refine (set_calls _ t lb db n ps ds HT3.out b x hbb).mono ?_
        rintro e w4 ⟨rfl, hT4, hM4⟩
        have HT4 := Aside0.mk hT4
        have H4 := Aside0.mk (show Keeps W [(g1, 3, encs (Value.int .i64) (ps.take n))] w4 from Keeps.cons (show Keeps W [] w4 from ⟨hM4.below _ _ H3.out.below hlb hdb H3.out.size, fun _ h => by cases h⟩) (hM4.blk H3.out.head (H3.out.head.ne HT3.out.lv (by decide)) (H3.out.head.ne HT3.out.dt (by decide))))
        clear hT4 hM4 HT3 H3
        obtain ⟨old, ho⟩ : ∃ old, old = getP ps n b := ⟨_, rfl⟩
        rw [← ho]
        have HO := Aside0.mk ho
        clear ho
        go_wp2_with fail
        refine (places_calls _ t lb db n _ _ HT4.out).mono ?_
        rintro e w5 ⟨g2, rfl, hB2, hg2, hb⟩
        have HT5 := Aside0.mk (HT4.out.below' hb)
        have H5 := Aside0.mk ((H4.out.step hb).cons hB2)
        clear hB2 hb HT4 H4
        go_wp2_with fail
        go_loopw [14] (fun i wr => ∃ k : Nat, k ≤ n ∧ i = .int .i64 k ∧ Aside0 (Drawn0 w5 wr)) (fun i _ => n - (intOf i).toNat)
        case atStart => exact ⟨0, by omega, rfl, ⟨Drawn0.refl w5⟩⟩
        case round =>
          obtain ⟨k, hk, rfl, HD⟩ := hrel
          obtain ⟨wd, hwd⟩ := HD.out.out
          subst hwd
          by_cases hlt : k < n
          · have hd2 : decide ((k : Int) < n) = true := by simp; omega
            have hc1 := Blk.encAt H5.out.tail.head (0 : Int) k (by rw [List.length_take]; omega)
            have hc2 := Blk.encAt H5.out.head (0 : Int) k (by rw [List.length_take]; unfold setP; split <;> (try rw [List.length_set]) <;> omega)
            rw [getD_take hlt] at hc1 hc2
            by_cases hkb : (k : Int) = b
            · subst hkb
              have e1 : (setP ps n (k : Int) x).getD k 0 = x := setP_here ps n x k hlt (by omega)
              have e2 : ps.getD k 0 = old := by rw [HO.out]; unfold getP; rw [if_pos (by omega), Int.toNat_natCast]
              rw [e1] at hc2
              rw [e2] at hc1
              clear e1 e2
              go_wp2_with fail
              go_quiet (fail)
              go_wp2_with fail
              go_roundw
              case rel => exact ⟨k + 1, by omega, by go_num, ⟨⟨⟨_, rfl⟩⟩⟩⟩
              case measure => simp [intOf]; omega
            · have hb1 : ((k : Int) != b) = true := by simp; exact hkb
              have hb2 : ((k : Int) == b) = false := by simp; exact hkb
              rw [setP_other ps n b x k hkb] at hc2
              obtain ⟨y, hy⟩ : ∃ y, y = ps.getD k 0 := ⟨_, rfl⟩
              rw [← hy] at hc1 hc2
              clear hy hkb
              go_wp2_with fail
              go_quiet (fail)
              go_wp2_with fail
              go_roundw
              case rel => exact ⟨k + 1, by omega, by go_num, ⟨⟨⟨_, rfl⟩⟩⟩⟩
              case measure => simp [intOf]; omega
          · obtain rfl : k = n := by omega
            have hd2 : decide ((k : Int) < k) = false := by simp
            go_wp2_with fail
            have HT6 := Aside0.mk (show TabAt (w5.drewN wd) t lb db k (setP ps k b x) (setD ps ds k b x) from ⟨HT5.out.tab.drewN wd, HT5.out.lv.drewN wd, HT5.out.dt.drewN wd, HT5.out.hps, HT5.out.hds, HT5.out.hn⟩)
            have H6 := Aside0.mk (H5.out.drewN wd)
            generalize w5.drewN wd = w6 at *
            clear HT5 H5 HD
            refine (set_calls _ t lb db k _ _ HT6.out b old hbb).mono ?_
            rintro e w7 ⟨rfl, hT7, hM7⟩
            have HBK := setP_back ps k b x
            rw [← HO.out] at HBK
            rw [HBK] at hT7
            have HT7 := Aside0.mk hT7
            have H7 := Aside0.mk (Keeps.cons (show Keeps W [] w7 from ⟨hM7.below _ _ H6.out.below hlb hdb H6.out.size, fun _ h => by cases h⟩) (hM7.blk H6.out.tail.head (H6.out.tail.head.ne HT6.out.lv (by decide)) (H6.out.tail.head.ne HT6.out.dt (by decide))))
            clear hT7 hM7 HT6 H6 HBK
            go_wp2_with fail
            refine (places_calls _ t lb db k _ _ HT7.out).mono ?_
            rintro e w8 ⟨g3, rfl, hB3, hg3, hb⟩
            have H8 := Aside0.mk ((H7.out.step hb).cons hB3)
            have htl : (ps.take k).length = k := by rw [List.length_take]; omega
            have hk1 : k ≤ 255 := by omega
            clear hB3 hb HT7 H7 hd2 HO
            obtain ⟨q, hq⟩ : ∃ q, q = ps.take k := ⟨_, rfl⟩
            rw [← hq] at H8 htl
            clear hq
            have HR1 := Aside0.mk (show CI w8 (some ⟨g3, 0, none⟩) k q by have := blk_reads H8.out.head (by omega); rwa [htl] at this)
            have HR2 := Aside0.mk (show CI w8 (some ⟨g1, 0, none⟩) k q by have := blk_reads H8.out.tail.head (by omega); rwa [htl] at this)
            go_wp2_with fail
            refine (same_calls _ _ k k q HR1.out _ k k q HR2.out (by omega) (by omega)).mono ?_
            rintro e w9 ⟨rfl, hb⟩
            have H9 := Aside0.mk (H8.out.step hb)
            rw [decide_eq_true rfl]
            clear hb
            go_wp2_with fail
            go_ret
            exact ⟨rfl, H9.out.below⟩
end Go.Proofs.Ytkkmmbbnaafhlaa.Tab
