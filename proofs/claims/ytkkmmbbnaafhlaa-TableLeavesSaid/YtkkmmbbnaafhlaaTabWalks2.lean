/- The walks of layer 9: a table made, where all stand, how many, what is dirty; the same numbers. -/
import Derived.Test.YtkkmmbbnaafhlaaTabPlain
namespace Go.Proofs.Ytkkmmbbnaafhlaa.Tab
set_option linter.unusedSimpArgs false
set_option linter.unusedVariables false
open Go.RowKit Go.Proofs.YtkkmmbbnaafhlaaW.PrintWords Go.Proofs.YtkkmmbbnaafhlaaW.PrintLast Go.Proofs.YtkkmmbbnaafhlaaW.PrintMore Arr

theorem info85 : (Try.prog.info? 85).map (fun i => (i.zero, i.size, i.bytes)) = some (some (.agg (List.replicate 10 (Value.int .i64 0)).toArray), 10, 80) := by kernel_rfl
theorem info4 : (Try.prog.info? 4).map (fun i => (i.zero, i.size, i.bytes)) = some (some (.bool false), 1, 1) := by kernel_rfl
theorem pg_le {n : Nat} (h : n ≤ 4096) : pg n ≤ 410 := by unfold pg; omega
theorem pages_calls (w : World) (n : Nat) (hn : n ≤ 4096) : Calls Try.prog 38 #[.int .i64 n] w fun e w' => e = .returned (.int .i64 (pg n)) ∧ w = w' := by
  have HP := Aside0.mk (show (((n : Int) + 9) / 10) = ((pg n : Nat) : Int) by unfold pg; omega)
  go_enter Try.func38, Try.ntmps38
  go_wp2_with fail
  go_ret
  exact ⟨congrArg (fun x => Ending.returned (Value.int .i64 x)) (by have := HP.out; first | exact this | (rw [← this]; unfold wrap64; omega) | omega), rfl⟩
theorem yields_build82 {ops : Array Oper} {S : World → Prop} {o : Oper} {a : Act} (hw : Region.wanted o (yielded ops a.tmps) = true) (x0 x1 x2 : Operand) (ho : o.op = .build 82 #[(0, x0), (1, x1), (2, x2)]) (n lb db : Nat) (h0 : a.eval x0 = .int .i64 n) (h1 : a.eval x1 = .slice (some ⟨lb, 0, none⟩) (pg n) (pg n)) (h2 : a.eval x2 = .slice (some ⟨db, 0, none⟩) (pg n) (pg n)) :
    YieldsIf Try.prog ops S o (.agg (tabC n lb db).toArray) a :=
  Or.inl ⟨hw, fun w _ => by simp only [execOp, ho, List.map_toArray, List.map_cons, List.map_nil, h0, h1, h2]; kernel_rfl⟩
set_option maxRecDepth 10000 in
set_option maxHeartbeats 2000000 in
theorem new_calls (w : World) (n : Nat) (hn : n ≤ 4096) : Calls Try.prog 22 #[.int .i64 n] w fun e w' => ∃ t lb db, e = .returned (.pointer (some ⟨t, 0, none⟩)) ∧ TabAt w' t lb db n (zeros (10 * pg n)) (List.replicate (pg n) false) ∧ w.heap.size ≤ t ∧ w.heap.size ≤ lb ∧ w.heap.size ≤ db ∧ Below w.heap.size w w' := by
  have HW := Aside0.mk (Keeps.refl w)
  have hpl := pg_le hn
  go_enter Try.func22, Try.ntmps22
  go_wp2_with fail
  refine (pages_calls w n hn).mono ?_
  rintro e w1 ⟨rfl, rfl⟩
  go_upto_region 2 with (fail)
  obtain ⟨p, hp⟩ : ∃ p, p = pg n := ⟨_, rfl⟩
  rw [← hp] at hpl
  rw [← hp]
  have HPG := Aside0.mk hp
  clear hp
  refine wp_region_held_drew (S := (fun w' => Keeps w [] w')) (by kernel_rfl) (by exact HW.out.drew) (fun hHeld => ?_)
  refine wpAnyH_tk (i := 0) (v := ?vz1) 6 rfl rfl (by kernel_rfl) (by kernel_rfl) (by kernel_rfl) (fun _ _ _ h => h) (Or.inl ⟨by rfl, ?yz1⟩) hHeld ?rz1
  case yz1 => (intro w hSw; go_simp; try with_reducible rfl)
  (try simp only [Act.put, List.setIfInBounds_toArray, List.set_cons_zero, List.set_cons_succ])
  refine wpAnyH_tk (i := 1) (v := ?vz2) 7 rfl rfl (by kernel_rfl) (by kernel_rfl) (by kernel_rfl) (fun _ _ _ h => h) (Or.inl ⟨by rfl, ?yz2⟩) hHeld ?rz2
  case yz2 => (intro w hSw; go_simp; try with_reducible rfl)
  (try simp only [Act.put, List.setIfInBounds_toArray, List.set_cons_zero, List.set_cons_succ])
  refine wpAnyH_tk (i := 3) (v := ?vz3) 9 rfl rfl (by kernel_rfl) (by kernel_rfl) (by kernel_rfl) (fun _ _ _ h => h) (Or.inl ⟨by rfl, ?yz3⟩) hHeld ?rz3
  case yz3 => (intro w hSw; go_simp; try with_reducible rfl)
  (try simp only [Act.put, List.setIfInBounds_toArray, List.set_cons_zero, List.set_cons_succ])
  refine wpAnyH_ready (rs := [2, 4]) (by kernel_rfl) (by simp) (AllReadyH.cons rfl (fun K hK => ?_) (AllReadyH.cons rfl (fun K hK => ?_) AllReadyH.nil))
  · skip
    rw [if_pos (by rfl)]
    refine step_make 8 rfl 79 85 (.tmp 7) (.tmp 7) rfl Try.underlying79 10 80 _ (.int .i64 0) rfl (by decide) info85 p rfl rfl (by omega) (by omega) ?_; intro wx lb hlg hL hgr; have hHX := hHeld.fresh hgr; have hlb := Nat.le_trans hHeld.size hlg; (try replace hD := Blk.grown hD hgr (by simp)); clear hgr
    refine hK.out _ _ (by exact hHX) (fun hHeld => ?_)
    clear hK K
    (try simp only [Act.put, List.setIfInBounds_toArray, List.set_cons_zero, List.set_cons_succ])
    refine wpAnyH_one (i := 4) (by kernel_rfl) rfl (fun K hK => ?_)
    rw [if_pos (by rfl)]
    refine step_make 10 rfl 80 4 (.tmp 9) (.tmp 9) rfl Try.underlying80 1 1 _ (.bool false) rfl (by decide) info4 p rfl rfl (by omega) (by omega) ?_; intro wx db hdg hD hgr; have hHX := hHeld.fresh hgr; have hdb := Nat.le_trans hHeld.size hdg; (try replace hL := Blk.grown hL hgr (by simp)); clear hgr
    refine hK.out _ _ (by exact hHX) (fun hHeld => ?_)
    clear hK K
    (try simp only [Act.put, List.setIfInBounds_toArray, List.set_cons_zero, List.set_cons_succ])
    refine wpAnyH_tk (i := 5) (v := _) 11 rfl rfl (by kernel_rfl) (by kernel_rfl) (by kernel_rfl) (fun _ _ _ h => h) (yields_build82 (by rfl) (.tmp 6) (.tmp 8) (.tmp 10) rfl n lb db rfl (by rw [← HPG.out]; rfl) (by rw [← HPG.out]; rfl)) hHeld ?_
    (try simp only [Act.put, List.setIfInBounds_toArray, List.set_cons_zero, List.set_cons_succ])
    refine wpAnyH_one (i := 6) (by kernel_rfl) rfl (fun K hK => ?_)
    rw [if_pos (by rfl)]
    refine step_box 12 rfl 82 (.tmp 11) rfl (.agg (tabC n lb db).toArray) rfl (tabC n lb db) rfl ?_; intro wx t htg hT hgr; have hHX := hHeld.fresh hgr; have htb := Nat.le_trans hHeld.size htg; replace hL := Blk.grown hL hgr (by simp); replace hD := Blk.grown hD hgr (by simp); clear hgr
    refine hK.out _ _ (by exact hHX) (fun hHeld => ?_)
    clear hK K
    (try simp only [Act.put, List.setIfInBounds_toArray, List.set_cons_zero, List.set_cons_succ])
    refine wpAnyH_tk (i := 7) (v := ?vz4) 2 rfl rfl (by kernel_rfl) (by kernel_rfl) (by kernel_rfl) (fun _ _ _ h => h) (Or.inl ⟨by rfl, ?yz4⟩) hHeld ?rz4
    case yz4 => (intro w hSw; go_simp; try with_reducible rfl)
    (try simp only [Act.put, List.setIfInBounds_toArray, List.set_cons_zero, List.set_cons_succ])
    refine wpAnyH_done (by kernel_rfl) ?_ _
    (go_wp2_with fail; go_ret; exact ⟨t, lb, db, rfl, ⟨hT, by rw [show encs (Value.int .i64) (zeros (10 * pg n)) = List.replicate (p * 10) (Value.int .i64 0) by rw [HPG.out, Nat.mul_comm]; simp [encs, zeros]]; exact hL, by rw [show encs Value.bool (List.replicate (pg n) false) = List.replicate (p * 1) (Value.bool false) by rw [HPG.out, Nat.mul_one]; simp [encs]]; exact hD, by rw [zeros_length], by simp, hn⟩, htb, hlb, hdb, hHX.below⟩)
  · skip
    rw [if_pos (by rfl)]
    refine step_make 10 rfl 80 4 (.tmp 9) (.tmp 9) rfl Try.underlying80 1 1 _ (.bool false) rfl (by decide) info4 p rfl rfl (by omega) (by omega) ?_; intro wx db hdg hD hgr; have hHX := hHeld.fresh hgr; have hdb := Nat.le_trans hHeld.size hdg; (try replace hL := Blk.grown hL hgr (by simp)); clear hgr
    refine hK.out _ _ (by exact hHX) (fun hHeld => ?_)
    clear hK K
    (try simp only [Act.put, List.setIfInBounds_toArray, List.set_cons_zero, List.set_cons_succ])
    refine wpAnyH_one (i := 2) (by kernel_rfl) rfl (fun K hK => ?_)
    rw [if_pos (by rfl)]
    refine step_make 8 rfl 79 85 (.tmp 7) (.tmp 7) rfl Try.underlying79 10 80 _ (.int .i64 0) rfl (by decide) info85 p rfl rfl (by omega) (by omega) ?_; intro wx lb hlg hL hgr; have hHX := hHeld.fresh hgr; have hlb := Nat.le_trans hHeld.size hlg; (try replace hD := Blk.grown hD hgr (by simp)); clear hgr
    refine hK.out _ _ (by exact hHX) (fun hHeld => ?_)
    clear hK K
    (try simp only [Act.put, List.setIfInBounds_toArray, List.set_cons_zero, List.set_cons_succ])
    refine wpAnyH_tk (i := 5) (v := _) 11 rfl rfl (by kernel_rfl) (by kernel_rfl) (by kernel_rfl) (fun _ _ _ h => h) (yields_build82 (by rfl) (.tmp 6) (.tmp 8) (.tmp 10) rfl n lb db rfl (by rw [← HPG.out]; rfl) (by rw [← HPG.out]; rfl)) hHeld ?_
    (try simp only [Act.put, List.setIfInBounds_toArray, List.set_cons_zero, List.set_cons_succ])
    refine wpAnyH_one (i := 6) (by kernel_rfl) rfl (fun K hK => ?_)
    rw [if_pos (by rfl)]
    refine step_box 12 rfl 82 (.tmp 11) rfl (.agg (tabC n lb db).toArray) rfl (tabC n lb db) rfl ?_; intro wx t htg hT hgr; have hHX := hHeld.fresh hgr; have htb := Nat.le_trans hHeld.size htg; replace hL := Blk.grown hL hgr (by simp); replace hD := Blk.grown hD hgr (by simp); clear hgr
    refine hK.out _ _ (by exact hHX) (fun hHeld => ?_)
    clear hK K
    (try simp only [Act.put, List.setIfInBounds_toArray, List.set_cons_zero, List.set_cons_succ])
    refine wpAnyH_tk (i := 7) (v := ?vz5) 2 rfl rfl (by kernel_rfl) (by kernel_rfl) (by kernel_rfl) (fun _ _ _ h => h) (Or.inl ⟨by rfl, ?yz5⟩) hHeld ?rz5
    case yz5 => (intro w hSw; go_simp; try with_reducible rfl)
    (try simp only [Act.put, List.setIfInBounds_toArray, List.set_cons_zero, List.set_cons_succ])
    refine wpAnyH_done (by kernel_rfl) ?_ _
    (go_wp2_with fail; go_ret; exact ⟨t, lb, db, rfl, ⟨hT, by rw [show encs (Value.int .i64) (zeros (10 * pg n)) = List.replicate (p * 10) (Value.int .i64 0) by rw [HPG.out, Nat.mul_comm]; simp [encs, zeros]]; exact hL, by rw [show encs Value.bool (List.replicate (pg n) false) = List.replicate (p * 1) (Value.bool false) by rw [HPG.out, Nat.mul_one]; simp [encs]]; exact hD, by rw [zeros_length], by simp, hn⟩, htb, hlb, hdb, hHX.below⟩)
set_option maxRecDepth 10000 in
set_option maxHeartbeats 2000000 in
theorem places_calls (w : World) (t lb db n : Nat) (ps : List Int) (ds : List Bool) (h : TabAt w t lb db n ps ds) : Calls Try.prog 24 #[.pointer (some ⟨t, 0, none⟩)] w fun e w' => ∃ g, e = .returned (.slice (some ⟨g, 0, none⟩) n n) ∧ Blk w' g 3 (encs (Value.int .i64) (ps.take n)) ∧ w.heap.size ≤ g ∧ Below w.heap.size w w' := by
  have HT := Aside0.mk h
  have HW := Aside0.mk (Keeps.refl w)
  have hn := h.hn
  have hps : n ≤ ps.length := by rw [h.hps]; unfold pg; omega
  have htl : (ps.take n).length = n := by rw [List.length_take]; omega
  have hc0 := h.c0
  clear h
  go_enter Try.func24, Try.ntmps24
  go_wp2_with (first | ((with_reducible refine gate_dst (N := 9) rfl ?_); refine wpl_make rfl 22 3 (.tmp 8) (.tmp 8) rfl Try.underlying22 1 8 _ (.int .i64 0) rfl (by decide) info3 n rfl rfl (by omega) (by omega) ?_; intro w1 g h1 h2 h3; have H1 := Aside0.mk (HW.out.new h3 (show Blk w1 g 3 (encs (Value.int .i64) (upTo (ps.take n) 0)) by rw [upTo_zero, htl, show encs (Value.int .i64) (zeros n) = List.replicate (n * 1) (Value.int .i64 0) by rw [Nat.mul_one]; simp [encs, zeros]]; exact h2)); clear h2 h3))
  clear hc0
  go_loopw [12] (fun i wr => ∃ k : Nat, k ≤ n ∧ i = .int .i64 k ∧ Aside0 (Keeps w [(g, 3, encs (Value.int .i64) (upTo (ps.take n) k))] wr)) (fun i _ => n - (intOf i).toNat)
  case atStart => exact ⟨0, by omega, rfl, H1⟩
  case round =>
    clear H1
    obtain ⟨k, hk, rfl, HK⟩ := hrel
    by_cases hlt : k < n
    · have hd : decide ((k : Int) < n) = true := by simp; omega
      have HTk := Aside0.mk (HT.out.below' HK.out.below)
      have HGP := Aside0.mk (show getP ps n (k : Int) = (ps.take n).getD k 0 by unfold getP; rw [if_pos (by omega), Int.toNat_natCast, getD_take hlt])
      have HSU := Aside0.mk (upTo_succ (ps.take n) k (by omega))
      have hcg := Blk.encAt HK.out.head (0 : Int) k (by rw [upTo_length]; omega)
      have hfg := HK.out.head.frozen k
      obtain ⟨x, hx⟩ : ∃ x, x = (ps.take n).getD k 0 := ⟨_, rfl⟩
      rw [← hx] at HGP HSU
      clear hx
      go_wp2_with fail
      refine (get_calls _ t lb db n ps ds HTk.out (k : Int) (by omega)).mono ?_
      rintro e w2 ⟨rfl, rfl⟩
      rw [HGP.out]
      go_wp2_with fail
      go_roundw
      case rel => exact ⟨k + 1, by omega, by go_num, ⟨HK.out.put (grown_set _ g k _) h1 (by simp) (by have := Blk.encSet HK.out.head k x; rw [HSU.out] at this; exact this)⟩⟩
      case measure => simp [intOf]; omega
    · obtain rfl : k = n := by omega
      have hd : decide ((k : Int) < k) = false := by simp
      go_wp2_with fail
      go_ret
      exact ⟨g, rfl, by have := HK.out.head; rwa [show upTo (ps.take k) k = ps.take k from by have := upTo_all (ps.take k); rwa [htl] at this] at this, h1, HK.out.below⟩
set_option maxRecDepth 10000 in
set_option maxHeartbeats 2000000 in
theorem count_calls (w : World) (t lb db n : Nat) (ps : List Int) (ds : List Bool) (h : TabAt w t lb db n ps ds) : Calls Try.prog 27 #[.pointer (some ⟨t, 0, none⟩)] w fun e w' => e = .returned (.int .i64 (some0 (ps.take n))) ∧ Below w.heap.size w w' := by
  have HT := Aside0.mk h
  have hn := h.hn
  have hps : n ≤ ps.length := by rw [h.hps]; unfold pg; omega
  have htl : (ps.take n).length = n := by rw [List.length_take]; omega
  clear h
  go_enter Try.func27, Try.ntmps27
  go_wp2_with fail
  refine (places_calls w t lb db n ps ds HT.out).mono ?_
  rintro e w1 ⟨g, rfl, h1, h2, h3⟩
  obtain ⟨l, hl⟩ : ∃ l, l = ps.take n := ⟨_, rfl⟩
  rw [← hl] at h1 htl
  have HL := Aside0.mk hl
  have H1 := Aside0.mk h1
  have H3 := Aside0.mk h3
  clear h1 h3 hl
  go_wp2_with fail
  go_loop [3, 9] (fun c i => ∃ k : Nat, k ≤ n ∧ i = .int .i64 k ∧ c = .int .i64 (some0 (l.take k))) (fun _ i => n - (intOf i).toNat)
  case atStart => exact ⟨0, by omega, rfl, rfl⟩
  case round =>
    obtain ⟨k, hk, rfl, rfl⟩ := hrel
    by_cases hlt : k < n
    · have hd : decide ((k : Int) < n) = true := by simp; omega
      have hc := Blk.encAt H1.out (0 : Int) k (by omega)
      have HS := Aside0.mk (show some0 (l.take (k + 1)) = some0 (l.take k) + (if l.getD k 0 != 0 then 1 else 0) by rw [take_rd l k (by omega), some0_snoc])
      have hsl := some0_le (l.take k)
      rw [List.length_take] at hsl
      obtain ⟨hs0, hs1⟩ := hsl
      obtain ⟨x, hx⟩ : ∃ x, x = l.getD k 0 := ⟨_, rfl⟩
      obtain ⟨c, hcx⟩ : ∃ c, c = some0 (l.take k) := ⟨_, rfl⟩
      rw [← hx] at hc HS
      rw [← hcx] at HS hs0 hs1
      rw [← hcx]
      have hs2 : c ≤ 4096 := by omega
      clear hx hcx
      by_cases hx0 : x = 0
      · have hb : (x != 0) = false := by simp; exact hx0
        rw [hb] at HS
        go_wp2_with fail
        go_round
        case rel => exact ⟨k + 1, by omega, by go_num, by rw [HS.out]; simp⟩
        case measure => simp [intOf]; omega
      · have hb : (x != 0) = true := by simp; exact hx0
        rw [hb] at HS
        go_wp2_with fail
        go_round
        case rel => exact ⟨k + 1, by omega, by go_num, by rw [HS.out]; rfl⟩
        case measure => simp [intOf]; omega
    · obtain rfl : k = n := by omega
      have hd : decide ((k : Int) < k) = false := by simp
      rw [show l.take k = l from List.take_of_length_le (by omega)]
      go_wp2_with fail
      go_ret
      exact ⟨by rw [← HL.out]; rfl, H3.out⟩
set_option maxRecDepth 10000 in
set_option maxHeartbeats 2000000 in
theorem dirty_calls (w : World) (t lb db n : Nat) (ps : List Int) (ds : List Bool) (h : TabAt w t lb db n ps ds) : Calls Try.prog 26 #[.pointer (some ⟨t, 0, none⟩)] w fun e w' => ∃ v, e = .returned v ∧ RI w' w.heap.size v (trues ds) ∧ Below w.heap.size w w' := by
  have HT := Aside0.mk h
  have hpl := pg_le h.hn
  have hds := h.hds
  have HX := Aside0.mk (Below.refl w.heap.size w)
  have HN := Aside0.mk (Kd.R_nil (Kd.int .i64) 3 w w.heap.size (fun _ => True))
  have hc2 := h.c2
  clear h
  go_enter Try.func26, Try.ntmps26
  go_wp2_with fail
  obtain ⟨p, hp⟩ : ∃ p, p = pg n := ⟨_, rfl⟩
  rw [← hp] at hpl hds hc2
  rw [← hp]
  clear hp
  go_loopw [3, 11] (fun v i wr => ∃ k : Nat, k ≤ p ∧ i = .int .i64 k ∧ Aside0 (RI wr w.heap.size v (trueTo ds k)) ∧ Aside0 (Below w.heap.size w wr)) (fun _ i _ => p - (intOf i).toNat)
  case atStart => exact ⟨0, by omega, rfl, HN, HX⟩
  case round =>
    clear HN HX hc2
    obtain ⟨k, hk, rfl, HO, HX⟩ := hrel
    have hS := HX.out.size
    by_cases hlt : k < p
    · have hd : decide ((k : Int) < p) = true := by simp; omega
      have hc := Blk.encAt (HT.out.below' HX.out).dt false k (by omega)
      have HS := Aside0.mk (trueTo_succ ds k)
      have hlen := trueTo_length ds k
      obtain ⟨b, hb⟩ : ∃ b, b = ds.getD k false := ⟨_, rfl⟩
      rw [← hb] at hc HS
      clear hb
      cases b
      · go_wp2_with fail
        go_roundw
        case rel => exact ⟨k + 1, by omega, by go_num, ⟨by rw [HS.out]; simpa using HO.out⟩, HX⟩
        case measure => simp [intOf]; omega
      · go_wp2_with (first | (at_builtin; refine app_i64 rfl (.tmp 17) (.tmp 19) rfl u3 (trueTo ds k) _ rfl rfl HO.out HX.out hS (by omega) ?_; intro v3 w3 h7 h8 h9; have H7 := Aside0.mk h7; have H8 := Aside0.mk h8; clear h7 h8))
        go_roundw
        case rel => exact ⟨k + 1, by omega, by go_num, ⟨by rw [HS.out, if_pos rfl]; exact H7.out⟩, H8⟩
        case measure => simp [intOf]; omega
    · obtain rfl : k = p := by omega
      have hd : decide ((k : Int) < k) = false := by simp
      go_wp2_with fail
      go_ret
      exact ⟨_, rfl, by unfold trues; rw [hds]; exact HO.out, HX.out⟩
end Go.Proofs.Ytkkmmbbnaafhlaa.Tab
