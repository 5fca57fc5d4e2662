/- The walk of layer 9's statement TableSets. -/
import Derived.Test.YtkkmmbbnaafhlaaTabClean
namespace Go.Proofs.Ytkkmmbbnaafhlaa.Tab
set_option linter.unusedSimpArgs false
set_option linter.unusedVariables false
open Go.RowKit Go.Proofs.YtkkmmbbnaafhlaaW.PrintWords Go.Proofs.YtkkmmbbnaafhlaaW.PrintLast Go.Proofs.YtkkmmbbnaafhlaaW.PrintMore Arr

theorem add_j (ad : Addr) (m j : Nat) (hj : 0 < j) : (ad.add m).add j = ⟨(ad.add m).block, (ad.add m).off + j, none⟩ := by
  generalize ad.add m = b
  unfold Addr.add
  rw [if_neg (by omega)]
theorem load52 {ops : Array Oper} {rest : List Oper} {o : Oper} {a : Act} {Q : Exit → Act → World → Prop} {W : World} (hgd : o.guard = none) (p : Operand) (ho : o.op = .load 52 p) (ad : Addr) (m : Nat) (hp : a.eval p = .pointer (some (ad.add m))) (x : Put)
    (h0 : W.cell? (ad.add m) = some (.int .i64 x.blk)) (h1 : W.cell? ⟨(ad.add m).block, (ad.add m).off + 1, none⟩ = some (.int .i64 x.place)) (h2 : W.cell? ⟨(ad.add m).block, (ad.add m).off + 2, none⟩ = some (.bool x.clean))
    (h : wpList Try.prog ops Q rest (a.put o.dst (.agg (putC x).toArray)) W) : wpList Try.prog ops Q (o :: rest) a W :=
  wpl_load hgd 52 p ho (ad.add m) hp (putC x) Try.underlying52 rfl size52 (fun j v hv => by
    match j, hv with
    | 0, hv => cases hv; exact h0
    | 1, hv => cases hv; rw [add_j ad m 1 (by decide)]; exact h1
    | 2, hv => cases hv; rw [add_j ad m 2 (by decide)]; exact h2
    | j + 3, hv => simp [putC] at hv) h
set_option maxRecDepth 10000 in
set_option maxHeartbeats 8000000 in
theorem sets_walk (W : World) (tb : Int) (htb : (Lit.int .u8 tb).wf = true) (A : Option Addr) (c : Nat) (l : List Put) (hlc : l.length ≤ c) (hC : k52.C W A l.length l) (hG : ∀ x ∈ l, gPut x) (bk : Int) (hbk : (Lit.int .i64 bk).wf = true) : Calls Try.prog 10 #[.int .u8 tb, .slice A l.length c, .int .i64 bk] W (Holds W) := by
  have HW := Aside0.mk (Keeps.refl W)
  have HC := Aside0.mk hC
  have HPW := Aside0.mk hG
  obtain ⟨hb0, hb1⟩ := bounds_u8 htb
  have hbk0 := (bounds_i64 hbk).1
  obtain ⟨n, rfl⟩ : ∃ n : Nat, tb = n := ⟨tb.toNat, by omega⟩
  clear hC hG htb hlc hbk
  go_enter Try.func10, Try.ntmps10
  go_wp2_with fail
  refine (awake_calls _).mono ?_
  rintro e w1 ⟨rfl, hb⟩
  have H1 := Aside0.mk (HW.out.step hb)
  clear hb
  by_cases hlen : 100 < l.length
  · have hd : decide (100 < (l.length : Int)) = true := by simp; omega
    go_wp2_with fail
    refine (awake_calls _).mono ?_
    rintro e w2 ⟨rfl, hb⟩
    have H2 := Aside0.mk (H1.out.step hb)
    clear hb
    go_wp2_with fail
    go_ret
    exact ⟨rfl, H2.out.below⟩
  · have hd : decide (100 < (l.length : Int)) = false := by simp; omega
    go_wp2_with fail
    refine (new_calls _ n (by omega)).mono ?_
    rintro e w2 ⟨t, lb, db, rfl, hT, htw, hlb, hdb, hb⟩
    have hlb := Nat.le_trans H1.out.size hlb
    have hdb := Nat.le_trans H1.out.size hdb
    have HT0 := Aside0.mk hT
    have H2 := Aside0.mk (H1.out.step hb)
    clear hT hb H1 hd htw
    go_wp2_with (first | ((with_reducible refine gate_dst (N := 31) rfl ?_); refine make_i64 (w0 := W) (B := W.heap.size) rfl rfl (.tmp 30) (.tmp 30) rfl n rfl rfl (by omega) H2.out.below H2.out.size ?_; intro v3 w3 h3 h4 h5; have H3 := Aside0.mk h3; have H4 := Aside0.mk (⟨h4, fun _ h => by cases h⟩ : Keeps W [] w3); have HT3 := Aside0.mk (HT0.out.fresh h5); clear h3 h4 h5))
    have HN := Aside0.mk (Kd.R_nil (Kd.int .i64) 3 w3 W.heap.size (fun _ => True))
    have HZ := Aside0.mk (show RI w3 W.heap.size v3 ((zeros (10 * pg n)).take n) by rw [show (zeros (10 * pg n)).take n = zeros n by unfold zeros; rw [List.take_replicate]; congr 1; unfold pg; omega]; exact H3.out)
    have HD0 := Aside0.mk (trues_none (pg n))
    clear H3 HT0 H2
    go_loopw [8, 9, 10] (fun p d i wr => ∃ k : Nat, k ≤ l.length ∧ i = .int .i64 k ∧ ∃ ps ds, Aside0 (TabAt wr t lb db n ps ds) ∧ Aside0 (Pad n ps) ∧ Aside0 (Keeps W [] wr) ∧ Aside0 (RI wr W.heap.size p (ps.take n)) ∧ Aside0 (RI wr W.heap.size d (trues ds))) (fun _ _ i _ => l.length - (intOf i).toNat)
    case atStart => exact ⟨0, by omega, rfl, _, _, HT3, ⟨pad_zeros n _⟩, H4, HZ, ⟨by rw [HD0.out]; exact HN.out⟩⟩
    case round =>
      clear HT3 H4 HZ HN HD0
      obtain ⟨k, hk, rfl, ps, ds, HT, HP, HK, HRP, HRD⟩ := hrel
      by_cases hlt : k < l.length
      · have hd : decide ((k : Int) < l.length) = true := by simp; omega
        have hwf := HPW.out (l.getD k put0) (getD_mem l k hlt)
        obtain ⟨ad, hA, _⟩ := at_put HC.out k hlt
        subst hA
        obtain ⟨x, hx⟩ : ∃ x, x = l.getD k put0 := ⟨_, rfl⟩
        have HAT := Aside0.mk (fun (w' : World) (hb : Below W.heap.size W w') => (put_at HC.out k hlt hb : w'.cell? (ad.add (k * 3)) = some (.int .i64 (l.getD k put0).blk) ∧ w'.cell? ⟨(ad.add (k * 3)).block, (ad.add (k * 3)).off + 1, none⟩ = some (.int .i64 (l.getD k put0).place) ∧ w'.cell? ⟨(ad.add (k * 3)).block, (ad.add (k * 3)).off + 2, none⟩ = some (.bool (l.getD k put0).clean)))
        rw [← hx] at HAT hwf
        clear hx
        have HWF := Aside0.mk hwf
        obtain ⟨xb, xp, xc⟩ := x
        have hxb := (bounds_i64 hwf.1).1
        have HSC := Aside0.mk (show ∀ w', Below W.heap.size W w' → w'.cell? (ad.add (k * 3)) = some (.int .i64 xb) from fun w' hb => (HAT.out w' hb).1)
        have HSP := Aside0.mk (show ∀ w', Below W.heap.size W w' → w'.cell? ⟨(ad.add (k * 3)).block, (ad.add (k * 3)).off + 1, none⟩ = some (.int .i64 xp) from fun w' hb => (HAT.out w' hb).2.1)
        have HSB := Aside0.mk (show ∀ w', Below W.heap.size W w' → w'.cell? ⟨(ad.add (k * 3)).block, (ad.add (k * 3)).off + 2, none⟩ = some (.bool xc) from fun w' hb => (HAT.out w' hb).2.2)
        have hcb := HSB.out wr HK.out.below
        have HDL := Aside0.mk (show (trues ds).length ≤ 1000 by
          have h1 := trueTo_length ds ds.length
          have h2 := pg_le HT.out.hn
          have h3 := HT.out.hds
          unfold trues
          omega)
        clear hwf HAT
        cases xc
        · skip
          have HDE := Aside0.mk (show (if false = true then [] else trues ds) = trues ds from rfl)
          have HRP4 := HRP
          have HRD4 := HRD
          have HT4 := HT
          have H4 := HK
          clear HT HK HRP HRD
          have hps := HT4.out.hps
          have hds := HT4.out.hds
          have HE1 := Aside0.mk (do_place hps ⟨xb, xp, false⟩)
          have HE2 := Aside0.mk (do_was hps xb)
          have HE3 := Aside0.mk (do_dirty hps hds _ ⟨xb, xp, false⟩ HDE.out)
          have HTL := Aside0.mk (take_len hps)
          clear hps hds
          go_upto_region 11 with (fail)
          refine wp_region_held_drew (S := (fun w' => Below W.heap.size W w')) (by kernel_rfl) (by exact H4.out.drew.below) (fun hHeld => ?_)
          refine wpAnyH_tk (i := 0) (v := ?vz1) 45 rfl rfl (by kernel_rfl) (by kernel_rfl) (by kernel_rfl) (fun _ _ _ h => h) (Or.inl ⟨by rfl, ?yz1⟩) hHeld ?rz1
          case yz1 => (intro w hSw; go_simp; try with_reducible rfl)
          (try simp only [Act.put, List.setIfInBounds_toArray, List.set_cons_zero, List.set_cons_succ])
          refine wpAnyH_tk (i := 1) (v := ?vz2) 46 rfl rfl (by kernel_rfl) (by kernel_rfl) (by kernel_rfl) (fun _ _ _ h => h) (Or.inl ⟨by rfl, ?yz2⟩) hHeld ?rz2
          case yz2 => (intro w hSw; go_simp; try with_reducible rfl)
          (try simp only [Act.put, List.setIfInBounds_toArray, List.set_cons_zero, List.set_cons_succ])
          refine wpAnyH_tk (i := 2) (v := ?vz3) 47 rfl rfl (by kernel_rfl) (by kernel_rfl) (by kernel_rfl) (fun _ _ _ h => h) (Or.inl ⟨by rfl, ?yz3⟩) hHeld ?rz3
          case yz3 => (intro w hSw; go_simp; try with_reducible rfl)
          (try simp only [Act.put, List.setIfInBounds_toArray, List.set_cons_zero, List.set_cons_succ])
          refine wpAnyH_tk (i := 3) (v := ?vz4) 48 rfl rfl (by kernel_rfl) (by kernel_rfl) (by kernel_rfl) (fun _ _ _ h => h) (Or.inl ⟨by rfl, ?yz4⟩) hHeld ?rz4
          case yz4 => (intro w hSw; go_simp; try with_reducible rfl)
          (try simp only [Act.put, List.setIfInBounds_toArray, List.set_cons_zero, List.set_cons_succ])
          refine wpAnyH_tk (i := 4) (v := ?vz5) 49 rfl rfl (by kernel_rfl) (by kernel_rfl) (by kernel_rfl) (fun _ _ _ h => h) (Or.inl ⟨by rfl, ?yz5⟩) hHeld ?rz5
          case yz5 => (intro w hSw; go_simp; try with_reducible rfl)
          (try simp only [Act.put, List.setIfInBounds_toArray, List.set_cons_zero, List.set_cons_succ])
          refine wpAnyH_tk (i := 5) (v := _) 50 rfl rfl (by kernel_rfl) (by kernel_rfl) (by kernel_rfl) (fun _ _ _ h => h) (yields_cell (by rfl) 3 (.tmp 49) rfl _ rfl (v := .int .i64 xb) (fun w h => HSC.out w h) Try.underlying3 rfl) hHeld ?_
          (try simp only [Act.put, List.setIfInBounds_toArray, List.set_cons_zero, List.set_cons_succ])
          refine wpAnyH_tk (i := 6) (v := ?vz6) 51 rfl rfl (by kernel_rfl) (by kernel_rfl) (by kernel_rfl) (fun _ _ _ h => h) (Or.inl ⟨by rfl, ?yz6⟩) hHeld ?rz6
          case yz6 => (intro w hSw; go_simp; try with_reducible rfl)
          (try simp only [Act.put, List.setIfInBounds_toArray, List.set_cons_zero, List.set_cons_succ])
          refine wpAnyH_tk (i := 7) (v := ?vz7) 52 rfl rfl (by kernel_rfl) (by kernel_rfl) (by kernel_rfl) (fun _ _ _ h => h) (Or.inl ⟨by rfl, ?yz7⟩) hHeld ?rz7
          case yz7 => (intro w hSw; go_simp; try with_reducible rfl)
          (try simp only [Act.put, List.setIfInBounds_toArray, List.set_cons_zero, List.set_cons_succ])
          refine wpAnyH_tk (i := 8) (v := ?vz8) 53 rfl rfl (by kernel_rfl) (by kernel_rfl) (by kernel_rfl) (fun _ _ _ h => h) (Or.inl ⟨by rfl, ?yz8⟩) hHeld ?rz8
          case yz8 => (intro w hSw; go_simp; try with_reducible rfl)
          (try simp only [Act.put, List.setIfInBounds_toArray, List.set_cons_zero, List.set_cons_succ])
          refine wpAnyH_tk (i := 9) (v := ?vz9) 54 rfl rfl (by kernel_rfl) (by kernel_rfl) (by kernel_rfl) (fun _ _ _ h => h) (Or.inl ⟨by rfl, ?yz9⟩) hHeld ?rz9
          case yz9 => (intro w hSw; go_simp; try with_reducible rfl)
          (try simp only [Act.put, List.setIfInBounds_toArray, List.set_cons_zero, List.set_cons_succ])
          refine wpAnyH_tk (i := 10) (v := _) 55 rfl rfl (by kernel_rfl) (by kernel_rfl) (by kernel_rfl) (fun _ _ _ h => h) (yields_cell (by rfl) 3 (.tmp 54) rfl _ rfl (v := .int .i64 xp) (fun w h => HSP.out w h) Try.underlying3 rfl) hHeld ?_
          (try simp only [Act.put, List.setIfInBounds_toArray, List.set_cons_zero, List.set_cons_succ])
          refine wpAnyH_one (i := 11) (by kernel_rfl) rfl (fun K hK => ?_)
          go_simp
          go_wp2_with ((go_at_call 23; refine (set_calls _ t lb db n ps ds HT4.out.drew xb xp hxb).mono ?_; rintro e wx ⟨rfl, hTx, hMx⟩; have hHX := hMx.below _ _ hHeld hlb hdb hHeld.size))
          refine hK.out _ _ (by exact hHX) (fun hHeld => ?_)
          clear hK K
          refine wpAnyH_tk (i := 12) (v := ?vz10) 11 rfl rfl (by kernel_rfl) (by kernel_rfl) (by kernel_rfl) (fun _ _ _ h => h) (Or.inl ⟨by rfl, ?yz10⟩) hHeld ?rz10
          case yz10 => (intro w hSw; go_simp; try with_reducible rfl)
          (try simp only [Act.put, List.setIfInBounds_toArray, List.set_cons_zero, List.set_cons_succ])
          refine wpAnyH_done (by kernel_rfl) ?_ _
          skip
          have HRP5 := Aside0.mk (RI.moves (Kd.R_drew HRP4.out) HT4.out.drew hMx)
          have HRD5 := Aside0.mk (RI.moves (Kd.R_drew HRD4.out) HT4.out.drew hMx)
          have HT5 := Aside0.mk hTx
          have H5 := Aside0.mk (show Keeps W [] wx from ⟨hHX, fun _ h => by cases h⟩)
          have hx0 := HSC.out wx hHX
          have hx1 := HSP.out wx hHX
          have hx2 := HSB.out wx hHX
          clear hTx hMx HT4 H4 HRP4 HRD4
          go_wp2_with (first | ((with_reducible refine gate_dst (N := 63) rfl ?_); refine load52 rfl (.tmp 62) rfl ad (k * 3) rfl ⟨xb, xp, false⟩ hx0 hx1 hx2 ?_))
          refine (do_calls _ W.heap.size H5.out.size _ _ _ _ HRP5.out HRD5.out ⟨xb, xp, false⟩ HWF.out (by rw [HTL.out]; omega) HDL.out).mono ?_
          rintro e w6 ⟨v1, v2, rfl, hP6, hD6, hb6⟩
          rw [HE1.out] at hP6
          rw [HE3.out] at hD6
          rw [show getP (List.take n ps) (List.take n ps).length (Put.mk xb xp false).blk = getP ps n xb from HE2.out]
          have HT6 := Aside0.mk (HT5.out.below' hb6)
          have H6 := Aside0.mk (H5.out.step hb6)
          have HP6 := Aside0.mk hP6
          have HD6 := Aside0.mk hD6
          clear hP6 hD6 hb6 HRP5 HRD5 HT5 H5 hx0 hx1 hx2
          go_wp2_with fail
          go_roundw
          case rel => exact ⟨k + 1, by omega, by go_num, _, _, HT6, ⟨pad_set HP.out xb xp⟩, H6, HP6, HD6⟩
          case measure => simp [intOf]; omega
        · skip
          go_wp2_with fail
          refine (clean_calls _ t lb db n ps ds HT.out).mono ?_
          rintro e w4 ⟨rfl, hT4, hM4⟩
          have HDE := Aside0.mk (show (if true = true then [] else trues ds) = trues (List.replicate (pg n) false) by rw [trues_none]; rfl)
          have HRP4 := Aside0.mk (RI.moves HRP.out HT.out hM4)
          have HRD4 := Aside0.mk (RI.moves HRD.out HT.out hM4)
          have HT4 := Aside0.mk hT4
          have H4 := Aside0.mk (show Keeps W [] w4 from ⟨hM4.below _ _ HK.out.below hlb hdb HK.out.size, fun _ h => by cases h⟩)
          clear hT4 hM4 HT HK HRP HRD hcb
          have hps := HT4.out.hps
          have hds := HT4.out.hds
          have HE1 := Aside0.mk (do_place hps ⟨xb, xp, true⟩)
          have HE2 := Aside0.mk (do_was hps xb)
          have HE3 := Aside0.mk (do_dirty hps hds _ ⟨xb, xp, true⟩ HDE.out)
          have HTL := Aside0.mk (take_len hps)
          clear hps hds
          go_upto_region 11 with (fail)
          refine wp_region_held_drew (S := (fun w' => Below W.heap.size W w')) (by kernel_rfl) (by exact H4.out.drew.below) (fun hHeld => ?_)
          refine wpAnyH_tk (i := 0) (v := ?vz11) 45 rfl rfl (by kernel_rfl) (by kernel_rfl) (by kernel_rfl) (fun _ _ _ h => h) (Or.inl ⟨by rfl, ?yz11⟩) hHeld ?rz11
          case yz11 => (intro w hSw; go_simp; try with_reducible rfl)
          (try simp only [Act.put, List.setIfInBounds_toArray, List.set_cons_zero, List.set_cons_succ])
          refine wpAnyH_tk (i := 1) (v := ?vz12) 46 rfl rfl (by kernel_rfl) (by kernel_rfl) (by kernel_rfl) (fun _ _ _ h => h) (Or.inl ⟨by rfl, ?yz12⟩) hHeld ?rz12
          case yz12 => (intro w hSw; go_simp; try with_reducible rfl)
          (try simp only [Act.put, List.setIfInBounds_toArray, List.set_cons_zero, List.set_cons_succ])
          refine wpAnyH_tk (i := 2) (v := ?vz13) 47 rfl rfl (by kernel_rfl) (by kernel_rfl) (by kernel_rfl) (fun _ _ _ h => h) (Or.inl ⟨by rfl, ?yz13⟩) hHeld ?rz13
          case yz13 => (intro w hSw; go_simp; try with_reducible rfl)
          (try simp only [Act.put, List.setIfInBounds_toArray, List.set_cons_zero, List.set_cons_succ])
          refine wpAnyH_tk (i := 3) (v := ?vz14) 48 rfl rfl (by kernel_rfl) (by kernel_rfl) (by kernel_rfl) (fun _ _ _ h => h) (Or.inl ⟨by rfl, ?yz14⟩) hHeld ?rz14
          case yz14 => (intro w hSw; go_simp; try with_reducible rfl)
          (try simp only [Act.put, List.setIfInBounds_toArray, List.set_cons_zero, List.set_cons_succ])
          refine wpAnyH_tk (i := 4) (v := ?vz15) 49 rfl rfl (by kernel_rfl) (by kernel_rfl) (by kernel_rfl) (fun _ _ _ h => h) (Or.inl ⟨by rfl, ?yz15⟩) hHeld ?rz15
          case yz15 => (intro w hSw; go_simp; try with_reducible rfl)
          (try simp only [Act.put, List.setIfInBounds_toArray, List.set_cons_zero, List.set_cons_succ])
          refine wpAnyH_tk (i := 5) (v := _) 50 rfl rfl (by kernel_rfl) (by kernel_rfl) (by kernel_rfl) (fun _ _ _ h => h) (yields_cell (by rfl) 3 (.tmp 49) rfl _ rfl (v := .int .i64 xb) (fun w h => HSC.out w h) Try.underlying3 rfl) hHeld ?_
          (try simp only [Act.put, List.setIfInBounds_toArray, List.set_cons_zero, List.set_cons_succ])
          refine wpAnyH_tk (i := 6) (v := ?vz16) 51 rfl rfl (by kernel_rfl) (by kernel_rfl) (by kernel_rfl) (fun _ _ _ h => h) (Or.inl ⟨by rfl, ?yz16⟩) hHeld ?rz16
          case yz16 => (intro w hSw; go_simp; try with_reducible rfl)
          (try simp only [Act.put, List.setIfInBounds_toArray, List.set_cons_zero, List.set_cons_succ])
          refine wpAnyH_tk (i := 7) (v := ?vz17) 52 rfl rfl (by kernel_rfl) (by kernel_rfl) (by kernel_rfl) (fun _ _ _ h => h) (Or.inl ⟨by rfl, ?yz17⟩) hHeld ?rz17
          case yz17 => (intro w hSw; go_simp; try with_reducible rfl)
          (try simp only [Act.put, List.setIfInBounds_toArray, List.set_cons_zero, List.set_cons_succ])
          refine wpAnyH_tk (i := 8) (v := ?vz18) 53 rfl rfl (by kernel_rfl) (by kernel_rfl) (by kernel_rfl) (fun _ _ _ h => h) (Or.inl ⟨by rfl, ?yz18⟩) hHeld ?rz18
          case yz18 => (intro w hSw; go_simp; try with_reducible rfl)
          (try simp only [Act.put, List.setIfInBounds_toArray, List.set_cons_zero, List.set_cons_succ])
          refine wpAnyH_tk (i := 9) (v := ?vz19) 54 rfl rfl (by kernel_rfl) (by kernel_rfl) (by kernel_rfl) (fun _ _ _ h => h) (Or.inl ⟨by rfl, ?yz19⟩) hHeld ?rz19
          case yz19 => (intro w hSw; go_simp; try with_reducible rfl)
          (try simp only [Act.put, List.setIfInBounds_toArray, List.set_cons_zero, List.set_cons_succ])
          refine wpAnyH_tk (i := 10) (v := _) 55 rfl rfl (by kernel_rfl) (by kernel_rfl) (by kernel_rfl) (fun _ _ _ h => h) (yields_cell (by rfl) 3 (.tmp 54) rfl _ rfl (v := .int .i64 xp) (fun w h => HSP.out w h) Try.underlying3 rfl) hHeld ?_
          (try simp only [Act.put, List.setIfInBounds_toArray, List.set_cons_zero, List.set_cons_succ])
          refine wpAnyH_one (i := 11) (by kernel_rfl) rfl (fun K hK => ?_)
          go_simp
          go_wp2_with ((go_at_call 23; refine (set_calls _ t lb db n ps (List.replicate (pg n) false) HT4.out.drew xb xp hxb).mono ?_; rintro e wx ⟨rfl, hTx, hMx⟩; have hHX := hMx.below _ _ hHeld hlb hdb hHeld.size))
          refine hK.out _ _ (by exact hHX) (fun hHeld => ?_)
          clear hK K
          refine wpAnyH_tk (i := 12) (v := ?vz20) 11 rfl rfl (by kernel_rfl) (by kernel_rfl) (by kernel_rfl) (fun _ _ _ h => h) (Or.inl ⟨by rfl, ?yz20⟩) hHeld ?rz20
          case yz20 => (intro w hSw; go_simp; try with_reducible rfl)
          (try simp only [Act.put, List.setIfInBounds_toArray, List.set_cons_zero, List.set_cons_succ])
          refine wpAnyH_done (by kernel_rfl) ?_ _
          skip
          have HRP5 := Aside0.mk (RI.moves (Kd.R_drew HRP4.out) HT4.out.drew hMx)
          have HRD5 := Aside0.mk (RI.moves (Kd.R_drew HRD4.out) HT4.out.drew hMx)
          have HT5 := Aside0.mk hTx
          have H5 := Aside0.mk (show Keeps W [] wx from ⟨hHX, fun _ h => by cases h⟩)
          have hx0 := HSC.out wx hHX
          have hx1 := HSP.out wx hHX
          have hx2 := HSB.out wx hHX
          clear hTx hMx HT4 H4 HRP4 HRD4
          go_wp2_with (first | ((with_reducible refine gate_dst (N := 63) rfl ?_); refine load52 rfl (.tmp 62) rfl ad (k * 3) rfl ⟨xb, xp, true⟩ hx0 hx1 hx2 ?_))
          refine (do_calls _ W.heap.size H5.out.size _ _ _ _ HRP5.out HRD5.out ⟨xb, xp, true⟩ HWF.out (by rw [HTL.out]; omega) HDL.out).mono ?_
          rintro e w6 ⟨v1, v2, rfl, hP6, hD6, hb6⟩
          rw [HE1.out] at hP6
          rw [HE3.out] at hD6
          rw [show getP (List.take n ps) (List.take n ps).length (Put.mk xb xp true).blk = getP ps n xb from HE2.out]
          have HT6 := Aside0.mk (HT5.out.below' hb6)
          have H6 := Aside0.mk (H5.out.step hb6)
          have HP6 := Aside0.mk hP6
          have HD6 := Aside0.mk hD6
          clear hP6 hD6 hb6 HRP5 HRD5 HT5 H5 hx0 hx1 hx2
          go_wp2_with fail
          go_roundw
          case rel => exact ⟨k + 1, by omega, by go_num, _, _, HT6, ⟨pad_set HP.out xb xp⟩, H6, HP6, HD6⟩
          case measure => simp [intOf]; omega
      · obtain rfl : k = l.length := by omega
        have hd : decide ((l.length : Int) < l.length) = false := by simp
        have hps := HT.out.hps
        have hds := HT.out.hds
        have htl := take_len hps
        obtain ⟨q, hq⟩ : ∃ q, q = ps.take n := ⟨_, rfl⟩
        obtain ⟨r, hr⟩ : ∃ r, r = trues ds := ⟨_, rfl⟩
        have hrl : r.length ≤ 1000 := by
          have h1 := trueTo_length ds ds.length
          have h2 := pg_le HT.out.hn
          rw [hr]
          unfold trues
          omega
        have hgp : getP ps n bk = if 0 ≤ bk ∧ bk < n then q.getD bk.toNat 0 else 0 := by
          unfold getP
          rw [hq]
          split
          · rw [getD_take (by omega)]
          · rfl
        rw [← hq] at HRP htl
        have hRD := HRD.out
        rw [← hr] at hRD
        obtain ⟨AP, cP, rfl, _, hCP⟩ := RI.reads HRP.out
        obtain ⟨AD, cD, rfl⟩ := Kd.R_slice hRD
        rw [htl] at hCP HRP ⊢
        have HCP := Aside0.mk hCP
        have hql := htl
        have HQ := Aside0.mk hq
        have HR := Aside0.mk hr
        have HGP := Aside0.mk hgp
        clear hd hps hds htl hq hr hCP hRD hgp
        go_wp2_with fail
        go_loop [15, 16] (fun s i => ∃ j : Nat, j ≤ n ∧ i = .int .i64 j ∧ s = .int .i64 (some0 (q.take j))) (fun _ i => n - (intOf i).toNat)
        case atStart => exact ⟨0, by omega, rfl, rfl⟩
        case round =>
          obtain ⟨j, hj, rfl, rfl⟩ := hrel
          by_cases hlt2 : j < n
          · have hd : decide ((j : Int) < n) = true := by simp; omega
            obtain ⟨ad, hA, hc⟩ := Kd.at_int HCP.out (j : Int) (by omega) (by omega)
            subst hA
            rw [Int.toNat_natCast] at hc
            have HS := Aside0.mk (show some0 (q.take (j + 1)) = some0 (q.take j) + (if rd q (j : Int) != 0 then 1 else 0) by rw [take_rd q j (by omega), some0_snoc]; rfl)
            have hsl := some0_le (q.take j)
            rw [List.length_take] at hsl
            obtain ⟨hs0, hs1⟩ := hsl
            obtain ⟨x, hx⟩ : ∃ x, x = rd q (j : Int) := ⟨_, rfl⟩
            obtain ⟨s, hs⟩ : ∃ s, s = some0 (q.take j) := ⟨_, rfl⟩
            rw [← hx] at hc HS
            rw [← hs] at HS hs0 hs1
            rw [← hs]
            have hs2 : s ≤ 4096 := by omega
            clear hx hs
            by_cases hx0 : x = 0
            · have hb : (x != 0) = false := by simp; exact hx0
              rw [hb] at HS
              go_wp2_with fail
              go_round
              case rel => exact ⟨j + 1, by omega, by go_num, by rw [HS.out]; simp⟩
              case measure => simp [intOf]; omega
            · have hb : (x != 0) = true := by simp; exact hx0
              rw [hb] at HS
              go_wp2_with fail
              go_round
              case rel => exact ⟨j + 1, by omega, by go_num, by rw [HS.out]; rfl⟩
              case measure => simp [intOf]; omega
          · obtain rfl : j = n := by omega
            have hd : decide ((j : Int) < j) = false := by simp
            rw [show q.take j = q from List.take_of_length_le (by omega)]
            by_cases hr : 0 ≤ bk ∧ bk < j
            · obtain ⟨kb, rfl⟩ : ∃ kb : Nat, bk = kb := ⟨bk.toNat, by omega⟩
              have hkb : kb < j := by omega
              obtain ⟨ad, hA, hc⟩ := Kd.at_int HCP.out (kb : Int) (by omega) (by omega)
              subst hA
              rw [Int.toNat_natCast] at hc
              have HAT := Aside0.mk (show getP ps j (kb : Int) = rd q (kb : Int) by rw [HGP.out, if_pos hr]; rfl)
              obtain ⟨x, hx⟩ : ∃ x, x = rd q (kb : Int) := ⟨_, rfl⟩
              rw [← hx] at hc HAT
              clear hx
              go_wp2_with fail
              refine (places_calls _ t lb db j ps ds HT.out).mono ?_
              rintro e w7 ⟨g1, rfl, hB1, hg1, hb⟩
              have HT7 := Aside0.mk (HT.out.below' hb)
              have H7 := Aside0.mk ((HK.out.step hb).cons hB1)
              rw [← HQ.out] at H7
              have HR1 := Aside0.mk (show CI w7 (some ⟨g1, 0, none⟩) j q by have := blk_reads H7.out.head (by omega); rwa [hql] at this)
              have HR2 := Aside0.mk (Kd.C_below HCP.out hb)
              have HD7 := Aside0.mk (Kd.R_below HRD.out hb)
              clear hB1 hb
              go_wp2_with fail
              refine (same_calls _ _ j j q HR1.out _ j cP q HR2.out (by omega) (by omega)).mono ?_
              rintro e w8 ⟨rfl, hb⟩
              rw [decide_eq_true rfl]
              have HT8 := Aside0.mk (HT7.out.below' hb)
              have H8 := Aside0.mk (H7.out.step hb)
              have HD8 := Aside0.mk (Kd.R_below HD7.out hb)
              clear hb HR1 HR2 HT7 H7 HD7
              go_wp2_with fail
              refine (dirty_calls _ t lb db j ps ds HT8.out).mono ?_
              rintro e w9 ⟨v9, rfl, hR9, hb⟩
              rw [← HR.out] at hR9
              obtain ⟨A9, c9, rfl, _, hC9⟩ := RI.reads hR9
              have HC9 := Aside0.mk hC9
              have HT9 := Aside0.mk (HT8.out.below' hb)
              have H9 := Aside0.mk (H8.out.step hb)
              have hR9' := Kd.R_below HD8.out hb
              rw [← HR.out] at hR9'
              have HC9' := Aside0.mk ((Kd.R_reads' hR9').2.2)
              clear hb hR9 hC9 hR9' HT8 H8 HD8
              go_wp2_with fail
              refine (same_calls _ A9 r.length c9 r HC9.out AD r.length cD r HC9'.out (by omega) (by omega)).mono ?_
              rintro e w10 ⟨rfl, hb⟩
              rw [decide_eq_true rfl]
              have HT10 := Aside0.mk (HT9.out.below' hb)
              have H10 := Aside0.mk (H9.out.step hb)
              clear hb HT9 H9 HC9 HC9'
              go_wp2_with fail
              refine (count_calls _ t lb db j ps ds HT10.out).mono ?_
              rintro e w11 ⟨rfl, hb⟩
              rw [← HQ.out]
              have HT11 := Aside0.mk (HT10.out.below' hb)
              have H11 := Aside0.mk (H10.out.step hb)
              clear hb HT10 H10
              obtain ⟨s, hs⟩ : ∃ s, s = some0 q := ⟨_, rfl⟩
              rw [← hs]
              clear hs
              go_wp2_with fail
              refine (get_calls _ t lb db j ps ds HT11.out _ hbk0).mono ?_
              rintro e w12 ⟨rfl, rfl⟩
              rw [HAT.out]
              go_wp2_with fail
              go_ret
              exact ⟨by simp, H11.out.below⟩
            · have HAT := Aside0.mk (show getP ps j bk = 0 by rw [HGP.out, if_neg hr])
              by_cases hr0 : 0 ≤ bk
              · have hr1 : decide (0 ≤ bk) = true := by simp; omega
                have hr2 : decide (bk < (j : Int)) = false := by simp; omega
                go_wp2_with fail
                refine (places_calls _ t lb db j ps ds HT.out).mono ?_
                rintro e w7 ⟨g1, rfl, hB1, hg1, hb⟩
                have HT7 := Aside0.mk (HT.out.below' hb)
                have H7 := Aside0.mk ((HK.out.step hb).cons hB1)
                rw [← HQ.out] at H7
                have HR1 := Aside0.mk (show CI w7 (some ⟨g1, 0, none⟩) j q by have := blk_reads H7.out.head (by omega); rwa [hql] at this)
                have HR2 := Aside0.mk (Kd.C_below HCP.out hb)
                have HD7 := Aside0.mk (Kd.R_below HRD.out hb)
                clear hB1 hb
                go_wp2_with fail
                refine (same_calls _ _ j j q HR1.out _ j cP q HR2.out (by omega) (by omega)).mono ?_
                rintro e w8 ⟨rfl, hb⟩
                rw [decide_eq_true rfl]
                have HT8 := Aside0.mk (HT7.out.below' hb)
                have H8 := Aside0.mk (H7.out.step hb)
                have HD8 := Aside0.mk (Kd.R_below HD7.out hb)
                clear hb HR1 HR2 HT7 H7 HD7
                go_wp2_with fail
                refine (dirty_calls _ t lb db j ps ds HT8.out).mono ?_
                rintro e w9 ⟨v9, rfl, hR9, hb⟩
                rw [← HR.out] at hR9
                obtain ⟨A9, c9, rfl, _, hC9⟩ := RI.reads hR9
                have HC9 := Aside0.mk hC9
                have HT9 := Aside0.mk (HT8.out.below' hb)
                have H9 := Aside0.mk (H8.out.step hb)
                have hR9' := Kd.R_below HD8.out hb
                rw [← HR.out] at hR9'
                have HC9' := Aside0.mk ((Kd.R_reads' hR9').2.2)
                clear hb hR9 hC9 hR9' HT8 H8 HD8
                go_wp2_with fail
                refine (same_calls _ A9 r.length c9 r HC9.out AD r.length cD r HC9'.out (by omega) (by omega)).mono ?_
                rintro e w10 ⟨rfl, hb⟩
                rw [decide_eq_true rfl]
                have HT10 := Aside0.mk (HT9.out.below' hb)
                have H10 := Aside0.mk (H9.out.step hb)
                clear hb HT9 H9 HC9 HC9'
                go_wp2_with fail
                refine (count_calls _ t lb db j ps ds HT10.out).mono ?_
                rintro e w11 ⟨rfl, hb⟩
                rw [← HQ.out]
                have HT11 := Aside0.mk (HT10.out.below' hb)
                have H11 := Aside0.mk (H10.out.step hb)
                clear hb HT10 H10
                obtain ⟨s, hs⟩ : ∃ s, s = some0 q := ⟨_, rfl⟩
                rw [← hs]
                clear hs
                go_wp2_with fail
                refine (get_calls _ t lb db j ps ds HT11.out _ hbk0).mono ?_
                rintro e w12 ⟨rfl, rfl⟩
                rw [HAT.out]
                go_wp2_with fail
                go_ret
                exact ⟨by simp, H11.out.below⟩
              · have hr1 : decide (0 ≤ bk) = false := by simp; omega
                go_wp2_with fail
                refine (places_calls _ t lb db j ps ds HT.out).mono ?_
                rintro e w7 ⟨g1, rfl, hB1, hg1, hb⟩
                have HT7 := Aside0.mk (HT.out.below' hb)
                have H7 := Aside0.mk ((HK.out.step hb).cons hB1)
                rw [← HQ.out] at H7
                have HR1 := Aside0.mk (show CI w7 (some ⟨g1, 0, none⟩) j q by have := blk_reads H7.out.head (by omega); rwa [hql] at this)
                have HR2 := Aside0.mk (Kd.C_below HCP.out hb)
                have HD7 := Aside0.mk (Kd.R_below HRD.out hb)
                clear hB1 hb
                go_wp2_with fail
                refine (same_calls _ _ j j q HR1.out _ j cP q HR2.out (by omega) (by omega)).mono ?_
                rintro e w8 ⟨rfl, hb⟩
                rw [decide_eq_true rfl]
                have HT8 := Aside0.mk (HT7.out.below' hb)
                have H8 := Aside0.mk (H7.out.step hb)
                have HD8 := Aside0.mk (Kd.R_below HD7.out hb)
                clear hb HR1 HR2 HT7 H7 HD7
                go_wp2_with fail
                refine (dirty_calls _ t lb db j ps ds HT8.out).mono ?_
                rintro e w9 ⟨v9, rfl, hR9, hb⟩
                rw [← HR.out] at hR9
                obtain ⟨A9, c9, rfl, _, hC9⟩ := RI.reads hR9
                have HC9 := Aside0.mk hC9
                have HT9 := Aside0.mk (HT8.out.below' hb)
                have H9 := Aside0.mk (H8.out.step hb)
                have hR9' := Kd.R_below HD8.out hb
                rw [← HR.out] at hR9'
                have HC9' := Aside0.mk ((Kd.R_reads' hR9').2.2)
                clear hb hR9 hC9 hR9' HT8 H8 HD8
                go_wp2_with fail
                refine (same_calls _ A9 r.length c9 r HC9.out AD r.length cD r HC9'.out (by omega) (by omega)).mono ?_
                rintro e w10 ⟨rfl, hb⟩
                rw [decide_eq_true rfl]
                have HT10 := Aside0.mk (HT9.out.below' hb)
                have H10 := Aside0.mk (H9.out.step hb)
                clear hb HT9 H9 HC9 HC9'
                go_wp2_with fail
                refine (count_calls _ t lb db j ps ds HT10.out).mono ?_
                rintro e w11 ⟨rfl, hb⟩
                rw [← HQ.out]
                have HT11 := Aside0.mk (HT10.out.below' hb)
                have H11 := Aside0.mk (H10.out.step hb)
                clear hb HT10 H10
                obtain ⟨s, hs⟩ : ∃ s, s = some0 q := ⟨_, rfl⟩
                rw [← hs]
                clear hs
                go_wp2_with fail
                refine (get_calls _ t lb db j ps ds HT11.out _ hbk0).mono ?_
                rintro e w12 ⟨rfl, rfl⟩
                rw [HAT.out]
                go_wp2_with fail
                go_ret
                exact ⟨by simp, H11.out.below⟩
end Go.Proofs.Ytkkmmbbnaafhlaa.Tab
