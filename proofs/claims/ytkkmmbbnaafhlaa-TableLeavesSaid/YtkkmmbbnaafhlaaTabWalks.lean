/- The walks of layer 9: a table made, a block set, where all stand. -/
import Derived.Test.YtkkmmbbnaafhlaaTabMem
namespace Go.Proofs.Ytkkmmbbnaafhlaa.Tab
set_option linter.unusedSimpArgs false
set_option linter.unusedVariables false
open Go.RowKit Go.Proofs.YtkkmmbbnaafhlaaW.PrintWords Go.Proofs.YtkkmmbbnaafhlaaW.PrintLast Go.Proofs.YtkkmmbbnaafhlaaW.PrintMore Arr

theorem size4 : (Try.prog.info? 4).map (·.size) = some 1 := by kernel_rfl
def setP (ps : List Int) (n : Nat) (b x : Int) : List Int := if 0 ≤ b ∧ b < n then ps.set b.toNat x else ps
def setD (ps : List Int) (ds : List Bool) (n : Nat) (b x : Int) : List Bool := if 0 ≤ b ∧ b < n then ds.set (b.toNat / 10) (ds.getD (b.toNat / 10) false || (ps.getD b.toNat 0 != x)) else ds
/-- Nothing changes but these two blocks. -/
structure Moves (w w' : World) (lb db : Nat) : Prop where
  size : w'.heap.size = w.heap.size
  heap : ∀ k, k ≠ lb → k ≠ db → w'.heap[k]? = w.heap[k]?
  below : ∀ B w0, Below B w0 w → B ≤ lb → B ≤ db → B ≤ w.heap.size → Below B w0 w'
theorem Moves.refl (w : World) (lb db : Nat) : Moves w w lb db := ⟨rfl, fun _ _ _ => rfl, fun _ _ h _ _ _ => h⟩
theorem Moves.blk {w w' : World} {lb db g : Nat} {T : TypeId} {cs : List Value} (h : Moves w w' lb db) (hb : Blk w g T cs) (h1 : g ≠ lb) (h2 : g ≠ db) : Blk w' g T cs := (h.heap g h1 h2).trans hb
set_option maxRecDepth 10000 in
set_option maxHeartbeats 2000000 in
theorem set_calls (w : World) (t lb db n : Nat) (ps : List Int) (ds : List Bool) (h : TabAt w t lb db n ps ds) (b x : Int) (hb1 : -9223372036854775808 ≤ b) : Calls Try.prog 23 #[.pointer (some ⟨t, 0, none⟩), .int .i64 b, .int .i64 x] w fun e w' => e = .returned (.int .i64 (getP ps n b)) ∧ TabAt w' t lb db n (setP ps n b x) (setD ps ds n b x) ∧ Moves w w' lb db := by
  have HT := Aside0.mk h
  have hps := h.hps
  have hds := h.hds
  clear h
  go_enter Try.func23, Try.ntmps23
  go_wp2_with fail
  refine (there_calls w t lb db n ps ds HT.out b).mono ?_
  rintro e w1 ⟨rfl, rfl⟩
  by_cases hb : 0 ≤ b ∧ b < n
  · rw [decide_eq_true hb]
    have h1 := HT.out.c1
    obtain ⟨k, rfl⟩ : ∃ k : Nat, b = k := ⟨b.toNat, by omega⟩
    have hkn : k < n := by omega
    have hlt : k < ps.length := by rw [hps]; unfold pg; omega
    obtain ⟨q, hq⟩ : ∃ q, q = k / 10 := ⟨_, rfl⟩
    have hqp : q < pg n := by unfold pg; omega
    have hqk : q * 10 + k % 10 = k := by omega
    have hqd : q < ds.length := by omega
    have hc : w.cell? ⟨lb, q * 10 + k % 10, none⟩ = some (.int .i64 (ps.getD k 0)) := by rw [hqk]; exact HT.out.lv.encAt (0 : Int) k hlt
    have hf : w.frozen? ⟨lb, q * 10 + k % 10, none⟩ = false := HT.out.lv.frozen _
    have HG := Aside0.mk (show getP ps n (k : Int) = ps.getD k 0 by unfold getP; rw [if_pos hb, Int.toNat_natCast])
    have HSP := Aside0.mk (show setP ps n (k : Int) x = ps.set k x by unfold setP; rw [if_pos hb, Int.toNat_natCast])
    have HSD := Aside0.mk (show setD ps ds n (k : Int) x = ds.set q (ds.getD q false || (ps.getD k 0 != x)) by unfold setD; rw [if_pos hb, Int.toNat_natCast, ← hq])
    obtain ⟨old, ho⟩ : ∃ old, old = ps.getD k 0 := ⟨_, rfl⟩
    rw [← ho] at hc HG HSD
    have hwq : wrap64 ((k : Int) / 10) = (q : Int) := by unfold wrap64; have := HT.out.hn; omega
    clear ho hq hps hds
    have HQK := Aside0.mk hqk
    clear hqk
    go_upto_region 4 with (fail)
    rw [hwq]
    clear hwq
    go_upto_region 7 with (fail)
    have HT1 := Aside0.mk (show TabAt (w.setCell ⟨lb, q * 10 + k % 10, none⟩ (.int .i64 x)) t lb db n (ps.set k x) ds by rw [HQK.out]; exact HT.out.setP k x)
    have HM1 := Aside0.mk (show Moves w (w.setCell ⟨lb, q * 10 + k % 10, none⟩ (.int .i64 x)) lb db from ⟨by simp [World.setCell], fun k' h1 h2 => Below.heap_setCell w ⟨lb, q * 10 + k % 10, none⟩ _ k' (fun e => h1 e), fun B w0 hB h1 h2 h3 => below_grown hB h1 h3 (grown_set _ _ _ _)⟩)
    generalize w.setCell ⟨lb, q * 10 + k % 10, none⟩ (.int .i64 x) = w2 at *
    have HCD := Aside0.mk (show w2.drew.cell? ⟨db, q, none⟩ = some (.bool (ds.getD q false)) from HT1.out.drew.dt.encAt false q hqd)
    obtain ⟨c, hcc⟩ : ∃ c, c = ds.getD q false := ⟨_, rfl⟩
    rw [← hcc] at HCD HSD
    clear hcc hc hf h1
    cases c
    · skip
      refine wp_region_held_drew (S := (fun w' => w'.cell? ⟨t, 2, none⟩ = some (.slice (some ⟨db, 0, none⟩) (pg n) (pg n)))) (by kernel_rfl) (by exact HT1.out.drew.c2) (fun hHeld => ?_)
      refine wpAnyH_tk (i := 0) (v := ?vz1) 31 rfl rfl (by kernel_rfl) (by kernel_rfl) (by kernel_rfl) (fun _ _ _ h => h) (Or.inl ⟨by rfl, ?yz1⟩) hHeld ?rz1
      case yz1 => (intro w hSw; go_simp; try with_reducible rfl)
      (try simp only [Act.put, List.setIfInBounds_toArray, List.set_cons_zero, List.set_cons_succ])
      refine wpAnyH_tk (i := 1) (v := ?vz2) 32 rfl rfl (by kernel_rfl) (by kernel_rfl) (by kernel_rfl) (fun _ _ _ h => h) (Or.inl ⟨by rfl, ?yz2⟩) hHeld ?rz2
      case yz2 => (intro w hSw; go_simp; try with_reducible rfl)
      (try simp only [Act.put, List.setIfInBounds_toArray, List.set_cons_zero, List.set_cons_succ])
      refine wpAnyH_tk (i := 2) (v := ?vz3) 33 rfl rfl (by kernel_rfl) (by kernel_rfl) (by kernel_rfl) (fun _ _ _ h => h) (Or.inl ⟨by rfl, ?yz3⟩) hHeld ?rz3
      case yz3 => (intro w hSw; go_simp; try with_reducible rfl)
      (try simp only [Act.put, List.setIfInBounds_toArray, List.set_cons_zero, List.set_cons_succ])
      refine wpAnyH_tk (i := 3) (v := _) 34 rfl rfl (by kernel_rfl) (by kernel_rfl) (by kernel_rfl) (fun _ _ _ h => h) (yields_cell (by rfl) 80 (.tmp 33) rfl ⟨t, 2, none⟩ rfl (fun _ h => h) Try.underlying80 rfl) hHeld ?_
      (try simp only [Act.put, List.setIfInBounds_toArray, List.set_cons_zero, List.set_cons_succ])
      refine wpAnyH_tk (i := 4) (v := ?vz4) 35 rfl rfl (by kernel_rfl) (by kernel_rfl) (by kernel_rfl) (fun _ _ _ h => h) (Or.inl ⟨by rfl, ?yz4⟩) hHeld ?rz4
      case yz4 => (intro w hSw; go_simp; try with_reducible rfl)
      (try simp only [Act.put, List.setIfInBounds_toArray, List.set_cons_zero, List.set_cons_succ])
      refine wpAnyH_tk (i := 5) (v := ?vz5) 36 rfl rfl (by kernel_rfl) (by kernel_rfl) (by kernel_rfl) (fun _ _ _ h => h) (Or.inl ⟨by rfl, ?yz5⟩) hHeld ?rz5
      case yz5 => (intro w hSw; go_simp; try with_reducible rfl)
      (try simp only [Act.put, List.setIfInBounds_toArray, List.set_cons_zero, List.set_cons_succ])
      refine wpAnyH_tk (i := 6) (v := ?vz6) 37 rfl rfl (by kernel_rfl) (by kernel_rfl) (by kernel_rfl) (fun _ _ _ h => h) (Or.inl ⟨by rfl, ?yz6⟩) hHeld ?rz6
      case yz6 => (intro w hSw; go_simp; try with_reducible rfl)
      (try simp only [Act.put, List.setIfInBounds_toArray, List.set_cons_zero, List.set_cons_succ])
      refine wpAnyH_tk (i := 7) (v := ?vz7) 38 rfl rfl (by kernel_rfl) (by kernel_rfl) (by kernel_rfl) (fun _ _ _ h => h) (Or.inl ⟨by rfl, ?yz7⟩) hHeld ?rz7
      case yz7 => (intro w hSw; go_simp; try with_reducible rfl)
      (try simp only [Act.put, List.setIfInBounds_toArray, List.set_cons_zero, List.set_cons_succ])
      refine wpAnyH_tk (i := 8) (v := _) 39 rfl rfl (by kernel_rfl) (by kernel_rfl) (by kernel_rfl) (fun _ _ _ h => h) (yields_cell (by rfl) 80 (.tmp 38) rfl ⟨t, 2, none⟩ rfl (fun _ h => h) Try.underlying80 rfl) hHeld ?_
      (try simp only [Act.put, List.setIfInBounds_toArray, List.set_cons_zero, List.set_cons_succ])
      refine wpAnyH_tk (i := 9) (v := ?vz8) 40 rfl rfl (by kernel_rfl) (by kernel_rfl) (by kernel_rfl) (fun _ _ _ h => h) (Or.inl ⟨by rfl, ?yz8⟩) hHeld ?rz8
      case yz8 => (intro w hSw; go_simp; try with_reducible rfl)
      (try simp only [Act.put, List.setIfInBounds_toArray, List.set_cons_zero, List.set_cons_succ])
      refine wpAnyH_tk (i := 10) (v := _) 41 rfl rfl (by kernel_rfl) (by kernel_rfl) (by kernel_rfl) (fun _ _ _ h => h) (show YieldsIf Try.prog _ _ _ (.pointer (some ⟨db, q, none⟩)) _ from Or.inl ⟨(by rfl), fun w hSw => by go_simp; try (intro hh; omega)⟩) hHeld ?_
      (try simp only [Act.put, List.setIfInBounds_toArray, List.set_cons_zero, List.set_cons_succ])
      refine wpAnyH_one (i := 11) (by kernel_rfl) rfl (fun K hK => ?_)
      rw [if_pos (by rfl)]
      refine step_read 42 rfl 4 (.tmp 41) rfl ⟨db, q, none⟩ rfl HCD.out Try.underlying4 rfl ?_
      refine hK.out _ _ (by exact hHeld) (fun hHeld => ?_)
      clear hK K
      (try simp only [Act.put, List.setIfInBounds_toArray, List.set_cons_zero, List.set_cons_succ])
      refine wpAnyH_tk (i := 12) (v := ?vz9) 43 rfl rfl (by kernel_rfl) (by kernel_rfl) (by kernel_rfl) (fun _ _ _ h => h) (Or.inl ⟨by rfl, ?yz9⟩) hHeld ?rz9
      case yz9 => (intro w hSw; go_simp; try with_reducible rfl)
      (try simp only [Act.put, List.setIfInBounds_toArray, List.set_cons_zero, List.set_cons_succ])
      refine wpAnyH_tk (i := 13) (v := ?vz10) 44 rfl rfl (by kernel_rfl) (by kernel_rfl) (by kernel_rfl) (fun _ _ _ h => h) (Or.inl ⟨by rfl, ?yz10⟩) hHeld ?rz10
      case yz10 => (intro w hSw; go_simp; try with_reducible rfl)
      (try simp only [Act.put, List.setIfInBounds_toArray, List.set_cons_zero, List.set_cons_succ])
      refine wpAnyH_tk (i := 14) (v := ?vz11) 45 rfl rfl (by kernel_rfl) (by kernel_rfl) (by kernel_rfl) (fun _ _ _ h => h) (Or.inl ⟨by rfl, ?yz11⟩) hHeld ?rz11
      case yz11 => (intro w hSw; go_simp; try with_reducible rfl)
      (try simp only [Act.put, List.setIfInBounds_toArray, List.set_cons_zero, List.set_cons_succ])
      refine wpAnyH_tk (i := 15) (v := _) 46 rfl rfl (by kernel_rfl) (by kernel_rfl) (by kernel_rfl) (fun _ _ _ h => h) (show YieldsIf Try.prog _ _ _ (.bool (old != x)) _ from Or.inl ⟨(by rfl), fun w hSw => by go_simp; try rfl⟩) hHeld ?_
      (try simp only [Act.put, List.setIfInBounds_toArray, List.set_cons_zero, List.set_cons_succ])
      refine wpAnyH_tk (i := 16) (v := ?vz12) 47 rfl rfl (by kernel_rfl) (by kernel_rfl) (by kernel_rfl) (fun _ _ _ h => h) (Or.inl ⟨by rfl, ?yz12⟩) hHeld ?rz12
      case yz12 => (intro w hSw; go_simp; try with_reducible rfl)
      (try simp only [Act.put, List.setIfInBounds_toArray, List.set_cons_zero, List.set_cons_succ])
      refine wpAnyH_tk (i := 17) (v := _) 48 rfl rfl (by kernel_rfl) (by kernel_rfl) (by kernel_rfl) (fun _ _ _ h => h) (show YieldsIf Try.prog _ _ _ (.pointer (some ⟨db, q, none⟩)) _ from Or.inl ⟨(by rfl), fun w hSw => by go_simp; try (intro hh; omega)⟩) hHeld ?_
      (try simp only [Act.put, List.setIfInBounds_toArray, List.set_cons_zero, List.set_cons_succ])
      refine wpAnyH_one (i := 18) (by kernel_rfl) rfl (fun K hK => ?_)
      rw [if_pos (by rfl)]
      refine step_cell rfl 4 (.tmp 48) (.tmp 47) rfl db q rfl (.bool (old != x)) rfl rfl size4 HT1.out.drew.dt (by rw [encsLen]; exact hqd) ?_; have HT2 := HT1.out.drew.setD q (false || (old != x))
      refine hK.out _ _ (by exact HT2.c2) (fun hHeld => ?_)
      clear hK K
      (try simp only [Act.put, List.setIfInBounds_toArray, List.set_cons_zero, List.set_cons_succ])
      refine wpAnyH_done (by kernel_rfl) ?_ _
      skip
      go_wp2_with fail
      go_ret
      exact ⟨by rw [HG.out]; rfl, by rw [HSP.out, HSD.out]; exact HT2, ⟨by have := HM1.out.size; simp [World.setCell]; exact this, fun k' h1 h2 => by rw [Below.heap_setCell w2.drew ⟨db, q, none⟩ _ k' (fun e => h2 e)]; exact HM1.out.heap k' h1 h2, fun B w0 hB h1 h2 h3 => below_grown (pw_below_drewN (HM1.out.below B w0 hB h1 h2 h3) 1) h2 (by have := HM1.out.size; exact Nat.le_trans h3 (Nat.le_of_eq this.symm)) (grown_set _ _ _ _)⟩⟩
    · skip
      refine wp_region_held_drew (S := (fun w' => w'.cell? ⟨t, 2, none⟩ = some (.slice (some ⟨db, 0, none⟩) (pg n) (pg n)))) (by kernel_rfl) (by exact HT1.out.drew.c2) (fun hHeld => ?_)
      refine wpAnyH_tk (i := 0) (v := ?vz13) 31 rfl rfl (by kernel_rfl) (by kernel_rfl) (by kernel_rfl) (fun _ _ _ h => h) (Or.inl ⟨by rfl, ?yz13⟩) hHeld ?rz13
      case yz13 => (intro w hSw; go_simp; try with_reducible rfl)
      (try simp only [Act.put, List.setIfInBounds_toArray, List.set_cons_zero, List.set_cons_succ])
      refine wpAnyH_tk (i := 1) (v := ?vz14) 32 rfl rfl (by kernel_rfl) (by kernel_rfl) (by kernel_rfl) (fun _ _ _ h => h) (Or.inl ⟨by rfl, ?yz14⟩) hHeld ?rz14
      case yz14 => (intro w hSw; go_simp; try with_reducible rfl)
      (try simp only [Act.put, List.setIfInBounds_toArray, List.set_cons_zero, List.set_cons_succ])
      refine wpAnyH_tk (i := 2) (v := ?vz15) 33 rfl rfl (by kernel_rfl) (by kernel_rfl) (by kernel_rfl) (fun _ _ _ h => h) (Or.inl ⟨by rfl, ?yz15⟩) hHeld ?rz15
      case yz15 => (intro w hSw; go_simp; try with_reducible rfl)
      (try simp only [Act.put, List.setIfInBounds_toArray, List.set_cons_zero, List.set_cons_succ])
      refine wpAnyH_tk (i := 3) (v := _) 34 rfl rfl (by kernel_rfl) (by kernel_rfl) (by kernel_rfl) (fun _ _ _ h => h) (yields_cell (by rfl) 80 (.tmp 33) rfl ⟨t, 2, none⟩ rfl (fun _ h => h) Try.underlying80 rfl) hHeld ?_
      (try simp only [Act.put, List.setIfInBounds_toArray, List.set_cons_zero, List.set_cons_succ])
      refine wpAnyH_tk (i := 4) (v := ?vz16) 35 rfl rfl (by kernel_rfl) (by kernel_rfl) (by kernel_rfl) (fun _ _ _ h => h) (Or.inl ⟨by rfl, ?yz16⟩) hHeld ?rz16
      case yz16 => (intro w hSw; go_simp; try with_reducible rfl)
      (try simp only [Act.put, List.setIfInBounds_toArray, List.set_cons_zero, List.set_cons_succ])
      refine wpAnyH_tk (i := 5) (v := ?vz17) 36 rfl rfl (by kernel_rfl) (by kernel_rfl) (by kernel_rfl) (fun _ _ _ h => h) (Or.inl ⟨by rfl, ?yz17⟩) hHeld ?rz17
      case yz17 => (intro w hSw; go_simp; try with_reducible rfl)
      (try simp only [Act.put, List.setIfInBounds_toArray, List.set_cons_zero, List.set_cons_succ])
      refine wpAnyH_tk (i := 6) (v := ?vz18) 37 rfl rfl (by kernel_rfl) (by kernel_rfl) (by kernel_rfl) (fun _ _ _ h => h) (Or.inl ⟨by rfl, ?yz18⟩) hHeld ?rz18
      case yz18 => (intro w hSw; go_simp; try with_reducible rfl)
      (try simp only [Act.put, List.setIfInBounds_toArray, List.set_cons_zero, List.set_cons_succ])
      refine wpAnyH_tk (i := 7) (v := ?vz19) 38 rfl rfl (by kernel_rfl) (by kernel_rfl) (by kernel_rfl) (fun _ _ _ h => h) (Or.inl ⟨by rfl, ?yz19⟩) hHeld ?rz19
      case yz19 => (intro w hSw; go_simp; try with_reducible rfl)
      (try simp only [Act.put, List.setIfInBounds_toArray, List.set_cons_zero, List.set_cons_succ])
      refine wpAnyH_tk (i := 8) (v := _) 39 rfl rfl (by kernel_rfl) (by kernel_rfl) (by kernel_rfl) (fun _ _ _ h => h) (yields_cell (by rfl) 80 (.tmp 38) rfl ⟨t, 2, none⟩ rfl (fun _ h => h) Try.underlying80 rfl) hHeld ?_
      (try simp only [Act.put, List.setIfInBounds_toArray, List.set_cons_zero, List.set_cons_succ])
      refine wpAnyH_tk (i := 9) (v := ?vz20) 40 rfl rfl (by kernel_rfl) (by kernel_rfl) (by kernel_rfl) (fun _ _ _ h => h) (Or.inl ⟨by rfl, ?yz20⟩) hHeld ?rz20
      case yz20 => (intro w hSw; go_simp; try with_reducible rfl)
      (try simp only [Act.put, List.setIfInBounds_toArray, List.set_cons_zero, List.set_cons_succ])
      refine wpAnyH_tk (i := 10) (v := _) 41 rfl rfl (by kernel_rfl) (by kernel_rfl) (by kernel_rfl) (fun _ _ _ h => h) (show YieldsIf Try.prog _ _ _ (.pointer (some ⟨db, q, none⟩)) _ from Or.inl ⟨(by rfl), fun w hSw => by go_simp; try (intro hh; omega)⟩) hHeld ?_
      (try simp only [Act.put, List.setIfInBounds_toArray, List.set_cons_zero, List.set_cons_succ])
      refine wpAnyH_one (i := 11) (by kernel_rfl) rfl (fun K hK => ?_)
      rw [if_pos (by rfl)]
      refine step_read 42 rfl 4 (.tmp 41) rfl ⟨db, q, none⟩ rfl HCD.out Try.underlying4 rfl ?_
      refine hK.out _ _ (by exact hHeld) (fun hHeld => ?_)
      clear hK K
      (try simp only [Act.put, List.setIfInBounds_toArray, List.set_cons_zero, List.set_cons_succ])
      refine wpAnyH_tk (i := 12) (v := ?vz21) 43 rfl rfl (by kernel_rfl) (by kernel_rfl) (by kernel_rfl) (fun _ _ _ h => h) (Or.inl ⟨by rfl, ?yz21⟩) hHeld ?rz21
      case yz21 => (intro w hSw; go_simp; try with_reducible rfl)
      (try simp only [Act.put, List.setIfInBounds_toArray, List.set_cons_zero, List.set_cons_succ])
      refine wpAnyH_tk (i := 13) (v := undef) 44 rfl rfl (by kernel_rfl) (by kernel_rfl) (by kernel_rfl) (fun _ _ _ h => h) (yields_not (by rfl)) hHeld ?_
      (try simp only [Act.put, List.setIfInBounds_toArray, List.set_cons_zero, List.set_cons_succ])
      refine wpAnyH_tk (i := 14) (v := undef) 45 rfl rfl (by kernel_rfl) (by kernel_rfl) (by kernel_rfl) (fun _ _ _ h => h) (yields_not (by rfl)) hHeld ?_
      (try simp only [Act.put, List.setIfInBounds_toArray, List.set_cons_zero, List.set_cons_succ])
      refine wpAnyH_tk (i := 15) (v := undef) 46 rfl rfl (by kernel_rfl) (by kernel_rfl) (by kernel_rfl) (fun _ _ _ h => h) (yields_not (by rfl)) hHeld ?_
      (try simp only [Act.put, List.setIfInBounds_toArray, List.set_cons_zero, List.set_cons_succ])
      refine wpAnyH_tk (i := 16) (v := ?vz22) 47 rfl rfl (by kernel_rfl) (by kernel_rfl) (by kernel_rfl) (fun _ _ _ h => h) (Or.inl ⟨by rfl, ?yz22⟩) hHeld ?rz22
      case yz22 => (intro w hSw; go_simp; try with_reducible rfl)
      (try simp only [Act.put, List.setIfInBounds_toArray, List.set_cons_zero, List.set_cons_succ])
      refine wpAnyH_tk (i := 17) (v := _) 48 rfl rfl (by kernel_rfl) (by kernel_rfl) (by kernel_rfl) (fun _ _ _ h => h) (show YieldsIf Try.prog _ _ _ (.pointer (some ⟨db, q, none⟩)) _ from Or.inl ⟨(by rfl), fun w hSw => by go_simp; try (intro hh; omega)⟩) hHeld ?_
      (try simp only [Act.put, List.setIfInBounds_toArray, List.set_cons_zero, List.set_cons_succ])
      refine wpAnyH_one (i := 18) (by kernel_rfl) rfl (fun K hK => ?_)
      rw [if_pos (by rfl)]
      refine step_cell rfl 4 (.tmp 48) (.tmp 47) rfl db q rfl (.bool (true)) rfl rfl size4 HT1.out.drew.dt (by rw [encsLen]; exact hqd) ?_; have HT2 := HT1.out.drew.setD q (true || (old != x))
      refine hK.out _ _ (by exact HT2.c2) (fun hHeld => ?_)
      clear hK K
      (try simp only [Act.put, List.setIfInBounds_toArray, List.set_cons_zero, List.set_cons_succ])
      refine wpAnyH_done (by kernel_rfl) ?_ _
      skip
      go_wp2_with fail
      go_ret
      exact ⟨by rw [HG.out]; rfl, by rw [HSP.out, HSD.out]; exact HT2, ⟨by have := HM1.out.size; simp [World.setCell]; exact this, fun k' h1 h2 => by rw [Below.heap_setCell w2.drew ⟨db, q, none⟩ _ k' (fun e => h2 e)]; exact HM1.out.heap k' h1 h2, fun B w0 hB h1 h2 h3 => below_grown (pw_below_drewN (HM1.out.below B w0 hB h1 h2 h3) 1) h2 (by have := HM1.out.size; exact Nat.le_trans h3 (Nat.le_of_eq this.symm)) (grown_set _ _ _ _)⟩⟩
  · rw [decide_eq_false hb]
    have HG := Aside0.mk (show getP ps n b = 0 by unfold getP; rw [if_neg hb])
    have HSP := Aside0.mk (show setP ps n b x = ps by unfold setP; rw [if_neg hb])
    have HSD := Aside0.mk (show setD ps ds n b x = ds by unfold setD; rw [if_neg hb])
    go_wp2_with fail
    go_ret
    exact ⟨by rw [HG.out]; rfl, by rw [HSP.out, HSD.out]; exact HT.out, Moves.refl _ _ _⟩
end Go.Proofs.Ytkkmmbbnaafhlaa.Tab
