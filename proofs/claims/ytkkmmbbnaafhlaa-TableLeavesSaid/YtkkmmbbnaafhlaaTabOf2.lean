/- The walk of layer 9's Of. -/
import Derived.Test.YtkkmmbbnaafhlaaTabOf
namespace Go.Proofs.Ytkkmmbbnaafhlaa.Tab
set_option linter.unusedSimpArgs false
set_option linter.unusedVariables false
open Go.RowKit Go.Proofs.YtkkmmbbnaafhlaaW.PrintWords Go.Proofs.YtkkmmbbnaafhlaaW.PrintLast Go.Proofs.YtkkmmbbnaafhlaaW.PrintMore Arr

/-- What Of answers. -/
def OfEnd (w : World) (n : Int) (ls : List Leaf) (e : Ending) (w' : World) : Prop := ∃ v, e = .returned (.tuple #[v, .int .i64 (codeOf n ls)]) ∧ Below w.heap.size w w' ∧ (codeOf n ls ≠ 0 → v = .pointer none) ∧
  (codeOf n ls = 0 → ∃ t lb db, v = .pointer (some ⟨t, 0, none⟩) ∧ TabAt w' t lb db n.toNat (psOf ls (pg n.toNat)) (List.replicate (pg n.toNat) false) ∧ Ok31 n.toNat ls ∧ 0 ≤ n ∧ n ≤ 4096 ∧ w.heap.size ≤ t ∧ w.heap.size ≤ lb ∧ w.heap.size ≤ db)
theorem ofEnd_no {w w' : World} {n : Nat} {ls : List Leaf} (hn : n ≤ 4096) (h : ¬ Ok31 n ls) (hb : Below w.heap.size w w') : OfEnd w (n : Int) ls (.returned (.tuple #[.pointer none, .int .i64 7])) w' :=
  ⟨_, by rw [codeOf_no hn h], hb, fun _ => rfl, fun h2 => by rw [codeOf_no hn h] at h2; cases h2⟩
theorem lf_good {ls : List Leaf} {n j : Nat} (h : Ok31 n ls) (hj : j < ls.length) : goodL n (lf ls j) ∧ ∀ b, b < j → (lf ls b).idx ≠ (lf ls j).idx := h.1 j hj
theorem seen_any (ls : List Leaf) (j : Nat) (hj : j ≤ ls.length) (i : Int) : ((ls.take j).any fun L => L.idx == i) = true ↔ ∃ b, b < j ∧ (lf ls b).idx = i := by
  rw [List.any_eq_true]
  constructor
  · rintro ⟨L, hL, hi⟩
    obtain ⟨b, hb, rfl⟩ := List.getElem_of_mem hL
    rw [List.length_take] at hb
    refine ⟨b, by omega, ?_⟩
    simp only [List.getElem_take, beq_iff_eq] at hi
    rw [← hi]
    unfold lf
    rw [List.getD_eq_getElem?_getD, List.getElem?_eq_getElem (by omega)]
    rfl
  · rintro ⟨b, hb, hi⟩
    refine ⟨lf ls b, ?_, by simp [hi]⟩
    unfold lf
    rw [List.getD_eq_getElem?_getD, List.getElem?_eq_getElem (by omega)]
    exact List.mem_take_iff_getElem.2 ⟨b, by omega, rfl⟩
set_option maxRecDepth 10000 in
set_option maxHeartbeats 8000000 in
theorem of_calls (w : World) (n : Int) (A : Option Addr) (c : Nat) (ls : List Leaf) (hC : CL w A ls.length ls) (hl : ls.length ≤ 1000) : Calls Try.prog 31 #[.int .i64 n, .slice A ls.length c] w (OfEnd w n ls) := by
  have HW := Aside0.mk (Keeps.refl w)
  have HC := Aside0.mk hC
  clear hC
  by_cases harg : n < 0 ∨ 4096 < n
  · have HCODE := Aside0.mk (codeOf_arg ls harg)
    go_enter Try.func31, Try.ntmps31
    by_cases h0 : n < 0
    · have hd : decide (n < 0) = true := by simp; omega
      go_wp2_with fail
      go_ret2
      exact ⟨_, by rw [HCODE.out]; rfl, HW.out.below, fun _ => rfl, fun h => by rw [HCODE.out] at h; cases h⟩
    · have hd : decide (n < 0) = false := by simp; omega
      have hd2 : decide (4096 < n) = true := by simp; omega
      go_wp2_with fail
      go_ret2
      exact ⟨_, by rw [HCODE.out]; rfl, HW.out.below, fun _ => rfl, fun h => by rw [HCODE.out] at h; cases h⟩
  · obtain ⟨m, rfl⟩ : ∃ m : Nat, n = m := ⟨n.toNat, by omega⟩
    have hm : m ≤ 4096 := by omega
    have hd : decide ((m : Int) < 0) = false := by simp
    have hd2 : decide (4096 < (m : Int)) = false := by simp; omega
    clear harg
    go_enter Try.func31, Try.ntmps31
    go_wp2_with fail
    refine (new_calls _ m hm).mono ?_
    rintro e w2 ⟨t, lb, db, rfl, hT, htw, hlb, hdb, hb⟩
    have HT0 := Aside0.mk hT
    have H2 := Aside0.mk (HW.out.step hb)
    have hc1 := hT.c1
    have hpl := pg_le hm
    obtain ⟨p, hp⟩ : ∃ p, p = pg m := ⟨_, rfl⟩
    rw [← hp] at hpl hc1
    have HPG := Aside0.mk hp
    have htw2 := Aside0.mk htw
    clear hT hb hd hd2 hp htw
    go_wp2_with (first | ((with_reducible refine gate_dst (N := 25) rfl ?_); refine wpl_make rfl 80 4 (.tmp 24) (.tmp 24) rfl Try.underlying80 1 1 _ (.bool false) rfl (by decide) info4 p rfl rfl (by omega) (by omega) ?_; intro w3 sb h3 h4 h5; have H3 := Aside0.mk (H2.out.new h5 (show Blk w3 sb 4 (encs Value.bool (seenOf (ls.take 0) p)) by rw [List.take_zero, seenOf_nil, show encs Value.bool (List.replicate p false) = List.replicate (p * 1) (Value.bool false) by rw [Nat.mul_one]; simp [encs]]; exact h4)); have HT3 := Aside0.mk (show TabAt w3 t lb db m (psOf (ls.take 0) p) (List.replicate p false) by rw [List.take_zero, psOf_nil, HPG.out]; exact HT0.out.fresh h5); clear h4 h5))
    have hsbw : w.heap.size ≤ sb := Nat.le_trans H2.out.size h3
    have hts : t < sb := Nat.lt_of_lt_of_le HT0.out.tab.lt h3
    have hls : lb < sb := Nat.lt_of_lt_of_le HT0.out.lv.lt h3
    have hds : db < sb := Nat.lt_of_lt_of_le HT0.out.dt.lt h3
    have HOK := Aside0.mk (show OkTo m ls 0 from fun a h => by omega)
    clear HT0 H2 hc1
    go_loopw [28] (fun i wr => ∃ j : Nat, j ≤ ls.length ∧ i = .int .i64 j ∧ Aside0 (OkTo m ls j) ∧ Aside0 (TabAt wr t lb db m (psOf (ls.take j) p) (List.replicate p false)) ∧ Aside0 (Keeps w [(sb, 4, encs Value.bool (seenOf (ls.take j) p))] wr)) (fun i _ => ls.length - (intOf i).toNat)
    case atStart => exact ⟨0, by omega, rfl, HOK, HT3, H3⟩
    case round =>
      clear HOK HT3 H3
      obtain ⟨j, hj, rfl, HO, HT, HK⟩ := hrel
      by_cases hlt : j < ls.length
      · have hd : decide ((j : Int) < ls.length) = true := by simp; omega
        obtain ⟨ad, hA, hcx, hxl⟩ := CL.at HC.out j hlt
        subst hA
        have HCX := Aside0.mk (fun j' u (hu : (leafC (lf ls j))[j']? = some u) => pw_cell_below HK.out.below (hcx j' u hu))
        have HG := Aside0.mk (fun (h : Ok31 m ls) => lf_good h hlt)
        have HSN := Aside0.mk (take_lf ls j hlt)
        have HSA := Aside0.mk (seen_any ls j hj)
        obtain ⟨x, hx⟩ : ∃ x, x = lf ls j := ⟨_, rfl⟩
        rw [← hx] at HCX HG HSN hxl
        have HXE := Aside0.mk hx
        clear hcx hx
        go_upto_region 8 with (first | ((with_reducible refine gate_dst (N := 31) rfl ?_); refine load58 rfl (.tmp 30) rfl (ad.add (j * 12)) rfl x hxl HCX.out ?_) | ((with_reducible refine gate_dst (N := 9) rfl ?_); refine alloc58 rfl rfl ?_; intro w4 xg h6 h7 h8; have H4 := Aside0.mk h7; have HK4 := Aside0.mk (HK.out.fresh h8); have HT4 := Aside0.mk (HT.out.fresh h8); clear h7 h8) | (refine store58 rfl rfl (.tmp 9) (.tmp 31) rfl xg rfl x hxl rfl (M := leaf0) rfl H4.out ?_; intro w5 h9 h10 h11; have H5 := Aside0.mk h9; have HK5 := Aside0.mk (HK4.out.grown h10 (Nat.le_trans HK.out.size h6) (by simp; exact (HK4.out.head.ne H4.out (by decide)))); have HT5 := Aside0.mk (HT4.out.grown h10 (HT4.out.tab.ne H4.out (by decide)) (HT4.out.lv.ne H4.out (by decide)) (HT4.out.dt.ne H4.out (by decide))); clear h9 h10 h11))
        have hxi : w5.cell? ⟨xg, 1, none⟩ = some (.int .i64 x.idx) := H5.out.cell rfl
        clear HK HT H4 HK4 HT4 HCX
        obtain ⟨xi, hxie⟩ : ∃ xi, xi = x.idx := ⟨_, rfl⟩
        rw [← hxie] at hxi
        have HXI := Aside0.mk hxie
        clear hxie
        by_cases hneg : xi < 0
        · have hd3 : decide (xi < 0) = true := by simp; omega
          go_wp2_with fail
          go_ret2
          exact ofEnd_no hm (fun h => by have := (HG.out h).1.1; rw [← HXI.out] at this; omega) HK5.out.below
        · have hd3 : decide (xi < 0) = false := by simp; omega
          by_cases hbig : (p : Int) ≤ xi
          · have hd4 : decide ((p : Int) ≤ xi) = true := by simp; omega
            go_wp2_with fail
            go_ret2
            exact ofEnd_no hm (fun h => by have := (HG.out h).1.2.1; rw [← HXI.out, ← HPG.out] at this; omega) HK5.out.below
          · have hd4 : decide ((p : Int) ≤ xi) = false := by simp; omega
            obtain ⟨q, rfl⟩ : ∃ q : Nat, xi = q := ⟨xi.toNat, by omega⟩
            have hqp : q < p := by omega
            have hcs := Blk.encAt HK5.out.head false q (by rw [seenOf_length]; exact hqp)
            have hfs := HK5.out.head.frozen q
            rw [seenOf_getD _ _ _ hqp] at hcs
            obtain ⟨sn, hsn⟩ : ∃ sn, sn = (ls.take j).any fun L => L.idx == (q : Int) := ⟨_, rfl⟩
            rw [← hsn] at hcs
            have HSE := Aside0.mk hsn
            clear hsn
            cases sn
            · have HNS := Aside0.mk (show ∀ b, b < j → (lf ls b).idx ≠ x.idx from fun b hb e => by
                have := (HSA.out (q : Int)).2 ⟨b, hb, by rw [e, ← HXI.out]⟩
                rw [← HSE.out] at this
                cases this)
              go_upto_region 11 with (fail)
              have HK6 := Aside0.mk (show Keeps w [(sb, 4, encs Value.bool (seenOf (ls.take (j + 1)) p))] (w5.setCell ⟨sb, q, none⟩ (.bool true)) from HK5.out.put (grown_set w5 sb q _) hsbw (by simp) (by
                have := Blk.encSet HK5.out.head q true
                rw [HSN.out, seenOf_snoc _ _ q x HXI.out.symm]
                exact this))
              have HT6 := Aside0.mk (HT5.out.grown (grown_set w5 sb q (.bool true)) (by omega) (by omega) (by omega))
              have H6 := Aside0.mk (H5.out.grown (grown_set w5 sb q (.bool true)) (by simp; exact H5.out.ne HK5.out.head (by decide)))
              clear hcs hfs hxi HK5 HT5 H5
              generalize w5.setCell ⟨sb, q, none⟩ (.bool true) = w6 at *
              have hxi : w6.cell? ⟨xg, 1, none⟩ = some (.int .i64 (q : Int)) := by rw [HXI.out]; exact H6.out.cell rfl
              go_wp2_with (first | ((with_reducible refine gate_dst (N := 54) rfl ?_); refine load56 rfl (.tmp 53) rfl xg rfl x hxl H6.out ?_))
              go_loop [55] (fun i => ∃ k : Nat, k ≤ 10 ∧ i = .int .i64 k ∧ Aside0 (∀ k', k' < k → 0 ≤ x.ps.getD k' 0 ∧ (0 < x.ps.getD k' 0 → x.idx * 10 + k' < (m : Int)))) (fun i => 10 - (intOf i).toNat)
              case atStart => exact ⟨0, by omega, rfl, ⟨fun k h => by omega⟩⟩
              case round =>
                obtain ⟨k, hk, rfl, HGP⟩ := hrel
                by_cases hk10 : k < 10
                · have hd5 : decide ((k : Int) < 10) = true := by simp; omega
                  obtain ⟨v, hv⟩ : ∃ v, v = x.ps.getD k 0 := ⟨_, rfl⟩
                  have HV := Aside0.mk hv
                  clear hv
                  have HNX := Aside0.mk (fun (h1 : 0 ≤ v) (h2 : 0 < v → x.idx * 10 + k < (m : Int)) => (fun k' hk' => by
                    by_cases e : k' = k
                    · rw [e, ← HV.out]; exact ⟨h1, h2⟩
                    · exact HGP.out k' (by omega) : ∀ k', k' < k + 1 → 0 ≤ x.ps.getD k' 0 ∧ (0 < x.ps.getD k' 0 → x.idx * 10 + k' < (m : Int))))
                  by_cases hvn : v < 0
                  · have hd6 : decide (v < 0) = true := by simp; omega
                    go_wp2_with (first | ((with_reducible refine gate_dst (N := 58) rfl ?_); refine index56 rfl (.tmp 54) (.tmp 55) rfl x.ps hxl rfl k rfl hk10 ?_; rw [← HV.out]))
                    go_ret2
                    exact ofEnd_no hm (fun h => by have := ((HG.out h).1.2.2 k hk10).1; rw [← HV.out] at this; omega) HK6.out.below
                  · have hd6 : decide (v < 0) = false := by simp; omega
                    by_cases hvz : v = 0
                    · have hd7 : decide (0 < v) = false := by simp; omega
                      have hv0 := hvz
                      have HVZ := Aside0.mk hvz
                      clear hvz hv0
                      go_wp2_with (first | ((with_reducible refine gate_dst (N := 58) rfl ?_); refine index56 rfl (.tmp 54) (.tmp 55) rfl x.ps hxl rfl k rfl hk10 ?_; rw [← HV.out]))
                      go_round
                      case rel => exact ⟨k + 1, by omega, by go_num, ⟨HNX.out (by rw [HVZ.out]; decide) (fun h => by rw [HVZ.out] at h; cases h)⟩⟩
                      case measure => simp [intOf]; omega
                    · have hd7 : decide (0 < v) = true := by simp; omega
                      have hvp : 0 < v := by omega
                      go_wp2_with (first | ((with_reducible refine gate_dst (N := 58) rfl ?_); refine index56 rfl (.tmp 54) (.tmp 55) rfl x.ps hxl rfl k rfl hk10 ?_; rw [← HV.out]))
                      refine (there_calls w6 t lb db m _ _ HT6.out ((q : Int) * 10 + k)).mono ?_
                      rintro e w7 ⟨rfl, rfl⟩
                      by_cases hin : 0 ≤ (q : Int) * 10 + k ∧ (q : Int) * 10 + k < m
                      · rw [decide_eq_true hin]
                        go_wp2_with fail
                        go_round
                        case rel => exact ⟨k + 1, by omega, by go_num, ⟨HNX.out (by omega) (fun _ => by rw [← HXI.out]; exact hin.2)⟩⟩
                        case measure => simp [intOf]; omega
                      · rw [decide_eq_false hin]
                        go_wp2_with fail
                        go_ret2
                        exact ofEnd_no hm (fun h => by
                          have := ((HG.out h).1.2.2 k hk10).2 (by rw [← HV.out]; exact hvp)
                          rw [← HXI.out] at this
                          exact hin ⟨by omega, this⟩) HK6.out.below
                · obtain rfl : k = 10 := by omega
                  have hd5 : decide (((10 : Nat) : Int) < 10) = false := by simp
                  have HGOOD := Aside0.mk (show goodL m x from ⟨by rw [← HXI.out]; omega, by rw [← HXI.out, ← HPG.out]; omega, HGP.out⟩)
                  have hc1 := HT6.out.c1
                  rw [← HPG.out] at hc1
                  have hpsl := HT6.out.hps
                  rw [← HPG.out] at hpsl
                  go_upto_region 17 with (fail)
                  refine wp_region_held_drew (S := (fun w' => w'.cell? ⟨t, 1, none⟩ = some (.slice (some ⟨lb, 0, none⟩) p p) ∧ w'.cell? ⟨xg, 1, none⟩ = some (.int .i64 (q : Int)))) (by kernel_rfl) (by exact ⟨hc1, hxi⟩) (fun hHeld => ?_)
                  refine wpAnyH_tk (i := 0) (v := ?vz1) 76 rfl rfl (by kernel_rfl) (by kernel_rfl) (by kernel_rfl) (fun _ _ _ h => h) (Or.inl ⟨by rfl, ?yz1⟩) hHeld ?rz1
                  case yz1 => (intro w hSw; go_simp; try with_reducible rfl)
                  (try simp only [Act.put, List.setIfInBounds_toArray, List.set_cons_zero, List.set_cons_succ])
                  refine wpAnyH_tk (i := 1) (v := ?vz2) 77 rfl rfl (by kernel_rfl) (by kernel_rfl) (by kernel_rfl) (fun _ _ _ h => h) (Or.inl ⟨by rfl, ?yz2⟩) hHeld ?rz2
                  case yz2 => (intro w hSw; go_simp; try with_reducible rfl)
                  (try simp only [Act.put, List.setIfInBounds_toArray, List.set_cons_zero, List.set_cons_succ])
                  refine wpAnyH_tk (i := 2) (v := ?vz3) 78 rfl rfl (by kernel_rfl) (by kernel_rfl) (by kernel_rfl) (fun _ _ _ h => h) (Or.inl ⟨by rfl, ?yz3⟩) hHeld ?rz3
                  case yz3 => (intro w hSw; go_simp; try with_reducible rfl)
                  (try simp only [Act.put, List.setIfInBounds_toArray, List.set_cons_zero, List.set_cons_succ])
                  refine wpAnyH_tk (i := 3) (v := _) 79 rfl rfl (by kernel_rfl) (by kernel_rfl) (by kernel_rfl) (fun _ _ _ h => h) (yields_cell (by rfl) 79 (.tmp 78) rfl ⟨t, 1, none⟩ rfl (fun _ h => h.1) Try.underlying79 rfl) hHeld ?_
                  (try simp only [Act.put, List.setIfInBounds_toArray, List.set_cons_zero, List.set_cons_succ])
                  refine wpAnyH_tk (i := 4) (v := ?vz4) 80 rfl rfl (by kernel_rfl) (by kernel_rfl) (by kernel_rfl) (fun _ _ _ h => h) (Or.inl ⟨by rfl, ?yz4⟩) hHeld ?rz4
                  case yz4 => (intro w hSw; go_simp; try with_reducible rfl)
                  (try simp only [Act.put, List.setIfInBounds_toArray, List.set_cons_zero, List.set_cons_succ])
                  refine wpAnyH_tk (i := 5) (v := _) 81 rfl rfl (by kernel_rfl) (by kernel_rfl) (by kernel_rfl) (fun _ _ _ h => h) (yields_cell (by rfl) 3 (.tmp 80) rfl ⟨xg, 1, none⟩ rfl (fun _ h => h.2) Try.underlying3 rfl) hHeld ?_
                  (try simp only [Act.put, List.setIfInBounds_toArray, List.set_cons_zero, List.set_cons_succ])
                  refine wpAnyH_tk (i := 6) (v := ?vz5) 82 rfl rfl (by kernel_rfl) (by kernel_rfl) (by kernel_rfl) (fun _ _ _ h => h) (Or.inl ⟨by rfl, ?yz5⟩) hHeld ?rz5
                  case yz5 => (intro w hSw; go_simp; try with_reducible rfl)
                  (try simp only [Act.put, List.setIfInBounds_toArray, List.set_cons_zero, List.set_cons_succ])
                  refine wpAnyH_one (i := 7) (by kernel_rfl) rfl (fun K hK => ?_)
                  rw [if_pos (by rfl)]
                  refine step_load56 83 rfl (.tmp 82) rfl xg rfl x hxl H6.out.drew ?_
                  refine hK.out _ _ (by exact hHeld) (fun hHeld => ?_)
                  clear hK K
                  (try simp only [Act.put, List.setIfInBounds_toArray, List.set_cons_zero, List.set_cons_succ])
                  refine wpAnyH_tk (i := 8) (v := _) 84 rfl rfl (by kernel_rfl) (by kernel_rfl) (by kernel_rfl) (fun _ _ _ h => h) (show YieldsIf Try.prog _ _ _ (.pointer (some ⟨lb, q * 10, none⟩)) _ from Or.inl ⟨(by rfl), fun w hSw => by go_simp; try omega⟩) hHeld ?_
                  (try simp only [Act.put, List.setIfInBounds_toArray, List.set_cons_zero, List.set_cons_succ])
                  refine wpAnyH_one (i := 9) (by kernel_rfl) rfl (fun K hK => ?_)
                  rw [if_pos (by rfl)]
                  refine step_store85 rfl (.tmp 84) (.tmp 83) rfl lb (q * 10) rfl x.ps hxl rfl HT6.out.lv.drew (by rw [hpsl]; omega) ?_; intro w7 h12 h13 h14; have HT7 := Aside0.mk (⟨HT6.out.tab.drew.grown h13 (by have := HT6.out.n1; simpa using this), h12, HT6.out.dt.drew.grown h13 (by have := HT6.out.n3.symm; simpa using this), by rw [← psOf_snoc _ _ q x hqp HXI.out.symm hxl, psOf_length, HPG.out], HT6.out.hds, HT6.out.hn⟩ : TabAt w7 t lb db m _ _); have HK7 := Aside0.mk (HK6.out.drew.grown h13 hlb (by simp; omega)); have hS7 : w7.cell? ⟨t, 1, none⟩ = some (.slice (some ⟨lb, 0, none⟩) p p) ∧ w7.cell? ⟨xg, 1, none⟩ = some (.int .i64 (q : Int)) := ⟨by have := HT7.out.c1; rwa [← HPG.out] at this, by rw [HXI.out]; exact (H6.out.drew.grown h13 (by have := H6.out.ne HT6.out.lv (by decide); simpa using this)).cell rfl⟩
                  refine hK.out _ _ (by exact hS7) (fun hHeld => ?_)
                  clear hK K
                  (try simp only [Act.put, List.setIfInBounds_toArray, List.set_cons_zero, List.set_cons_succ])
                  refine wpAnyH_done (by kernel_rfl) ?_ _
                  skip
                  rw [← psOf_snoc _ _ q x hqp HXI.out.symm hxl, ← HSN.out] at HT7
                  go_wp2_with fail
                  go_roundw
                  case rel => exact ⟨j + 1, by omega, by go_num, ⟨fun a ha => by
                    by_cases e : a = j
                    · rw [e, ← HXE.out]; exact ⟨HGOOD.out, HNS.out⟩
                    · exact HO.out a (by omega)⟩, HT7, HK7⟩
                  case measure => simp [intOf]; omega
            · have HYS := Aside0.mk ((HSA.out (q : Int)).1 HSE.out.symm)
              go_wp2_with fail
              go_ret2
              exact ofEnd_no hm (fun h => by
                obtain ⟨b, hb, hbi⟩ := HYS.out
                exact (HG.out h).2 b hb (by rw [hbi, HXI.out])) HK5.out.below
      · obtain rfl : j = ls.length := by omega
        have hd : decide ((ls.length : Int) < ls.length) = false := by simp
        rw [List.take_length] at HT HK
        go_wp2_with fail
        refine (contains_calls wr sb (seenOf ls p) p (by rw [seenOf_length]) (by omega) HK.out.head).mono ?_
        rintro e w3 ⟨rfl, b, rfl, hb⟩
        have HB := Aside0.mk hb
        clear hb
        have HIFF := Aside0.mk (show false ∈ seenOf ls p ↔ ∃ i : Nat, i < p ∧ ∀ a, a < ls.length → (lf ls a).idx ≠ (i : Int) by
          unfold seenOf
          rw [List.mem_map]
          constructor
          · rintro ⟨i, hi, hf⟩
            refine ⟨i, List.mem_range.1 hi, fun a ha e => ?_⟩
            have := (seen_any ls ls.length (Nat.le_refl _) (i : Int)).2 ⟨a, ha, e⟩
            rw [List.take_length, hf] at this
            cases this
          · rintro ⟨i, hi, hn⟩
            refine ⟨i, List.mem_range.2 hi, ?_⟩
            rw [Bool.eq_false_iff]
            intro ht
            have := (seen_any ls ls.length (Nat.le_refl _) (i : Int)).1 (by rw [List.take_length]; exact ht)
            obtain ⟨a, ha, e⟩ := this
            exact hn a ha e)
        cases b
        · have HOK := Aside0.mk (show Ok31 m ls from ⟨HO.out, fun i hi => by
            rw [← HPG.out] at hi
            apply Classical.byContradiction
            intro hn
            have := HB.out.2 (HIFF.out.2 ⟨i, hi, fun a ha e => hn ⟨a, ha, e⟩⟩)
            cases this⟩)
          go_wp2_with fail
          go_ret2
          exact ⟨_, by rw [codeOf_ok hm HOK.out]; rfl, HK.out.below, fun h => absurd (codeOf_ok hm HOK.out) h, fun _ => ⟨t, lb, db, rfl, by rw [Int.toNat_natCast, ← HPG.out]; exact HT.out, by rw [Int.toNat_natCast]; exact HOK.out, by omega, by omega, htw2.out, hlb, hdb⟩⟩
        · have HNO := Aside0.mk (show ¬ Ok31 m ls from fun h => by
            obtain ⟨i, hi, hn⟩ := HIFF.out.1 (HB.out.1 rfl)
            obtain ⟨a, ha, e⟩ := h.2 i (by rw [← HPG.out]; exact hi)
            exact hn a ha e)
          go_wp2_with fail
          go_ret2
          exact ofEnd_no hm HNO.out HK.out.below
end Go.Proofs.Ytkkmmbbnaafhlaa.Tab
