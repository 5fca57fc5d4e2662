/- The walks of layer 3 and of layer 8, with their references: measures. -/
import Derived.Test.YtmkkkenpjealdaaMastAll
/-! The walks of layer 3 and of its reference: which measures are right. -/
namespace Go.Proofs.Ytmkkkenpjealdaa.GeomWalks
set_option linter.unusedSimpArgs false
set_option linter.unusedVariables false
open Go.RowKit Go.Proofs.YtmkkkenpjealdaaW.PrintWords Go.Proofs.YtmkkkenpjealdaaW.PrintLast Go.Proofs.YtmkkkenpjealdaaW.PrintMore PlainWord CrcPlain PlainSec CrcMem CrcWalks CrcRef Arr SecWord SecMem SecRef LeafWalks RecWalks MastWalks

/-- Right, but for the soft sectors. -/
def pre (g : Geom) : Prop := 2 ≤ g.conv ∧ g.conv ≤ 64 ∧ 6 ≤ g.seq ∧ g.seq ≤ 64 ∧ g.conv + g.seq ≤ 64 ∧ 8 ≤ g.size ∧ g.size ≤ 256 ∧ 3 ≤ g.opn
theorem mul_bound {g : Geom} (h : pre g) : 0 ≤ (g.seq - 5) * (g.size / 2) ∧ (g.seq - 5) * (g.size / 2) ≤ 7552 := by
  obtain ⟨_, _, a, b, _, c, d, _⟩ := h
  have h1 : (g.seq - 5) * (g.size / 2) ≤ 59 * 128 := Int.mul_le_mul (by omega) (by omega) (by omega) (by omega)
  exact ⟨Int.mul_nonneg (by omega) (by omega), h1⟩
set_option maxHeartbeats 1000000 in
theorem blocks_calls (w : World) (g : Geom) (h : pre g) : Calls Try.prog 70 #[.agg (geomC g).toArray] w fun e w' => e = .returned (.int .i64 (geomBlocks g)) ∧ Below w.heap.size w w' := by
  have HW := Aside0.mk (Below.refl w.heap.size w)
  have hm := mul_bound h
  have hb : geomBlocks g = min ((g.seq - 5) * (g.size / 2)) 4096 := rfl
  obtain ⟨h1, h2, h3, h4, h5, h6, h7, h8⟩ := h
  obtain ⟨C, F, S, Z, O⟩ := g
  simp only at h1 h2 h3 h4 h5 h6 h7 h8 hm hb
  obtain ⟨B, hB⟩ : ∃ B, B = geomBlocks ⟨C, F, S, Z, O⟩ := ⟨_, rfl⟩
  rw [← hB] at hb
  rw [← hB]
  have HB := Aside0.mk hb
  have HM := Aside0.mk hm
  have HWR := Aside0.mk (show wrap64 ((S - 5) * (Z / 2)) = (S - 5) * (Z / 2) by unfold wrap64; omega)
  clear hB hb hm
  go_enter Try.func70, Try.ntmps70
  go_wp2_with ((with_reducible refine gate_dst (N := 1) rfl ?_); refine box64 rfl (.tmp 0) rfl ⟨C, F, S, Z, O⟩ rfl ?_; intro w1 a1 h1 h2 h3; have H2 := Aside0.mk h2; have hx2 := GB.seq h2; have hx3 := GB.size h2; have H3 := Aside0.mk (below_new HW.out HW.out.size h3); clear h2 h3)
  all_goals (go_ret; refine ⟨congrArg (fun x => Ending.returned (Value.int .i64 x)) ?_, H3.out⟩; have e1 := HWR.out; have e2 := HB.out; omega)
set_option maxHeartbeats 1000000 in
theorem pages_calls (w : World) (g : Geom) (h : pre g) : Calls Try.prog 68 #[.agg (geomC g).toArray] w fun e w' => e = .returned (.int .i64 (geomPages g)) ∧ Below w.heap.size w w' := by
  have HW := Aside0.mk (Below.refl w.heap.size w)
  have hm := mul_bound h
  have hb : geomBlocks g = min ((g.seq - 5) * (g.size / 2)) 4096 := rfl
  have hp : geomPages g = (geomBlocks g + 9) / 10 := rfl
  have hq : 0 ≤ geomBlocks g ∧ geomBlocks g ≤ 4096 := by omega
  obtain ⟨B, hB⟩ : ∃ B, B = geomBlocks g := ⟨_, rfl⟩
  rw [← hB] at hp hq
  have HB := Aside0.mk hB
  have HP := Aside0.mk hp
  clear hb hp hm hB
  go_enter Try.func68, Try.ntmps68
  go_wp2_with (first | ((with_reducible refine gate_dst (N := 1) rfl ?_); refine box64 rfl (.tmp 0) rfl g rfl ?_; intro w1 a1 h1 h2 h3; have H2 := Aside0.mk h2; have H3 := Aside0.mk (below_new HW.out HW.out.size h3); clear h2 h3) | ((with_reducible refine gate_dst (N := 3) rfl ?_); refine load64 rfl (.tmp 1) rfl a1 rfl H2.out ?_))
  refine (blocks_calls _ g h).mono ?_
  rintro e w2 ⟨rfl, hb⟩
  rw [← HB.out]
  have H4 := Aside0.mk (H3.out.trans (hb.mono H3.out.size))
  clear hb
  go_wp2_with fail
  go_ret
  refine ⟨congrArg (fun x => Ending.returned (Value.int .i64 x)) ?_, H4.out⟩
  rw [HP.out]
  omega
set_option maxHeartbeats 1000000 in
theorem refblocks_calls (w : World) (g : Geom) (h : pre g) : Calls Try.prog 69 #[.agg (geomC g).toArray] w fun e w' => e = .returned (.int .i64 (geomBlocks g)) ∧ Below w.heap.size w w' := by
  have HW := Aside0.mk (Below.refl w.heap.size w)
  have hm := mul_bound h
  have hb : geomBlocks g = min ((g.seq - 5) * (g.size / 2)) 4096 := rfl
  obtain ⟨h1, h2, h3, h4, h5, h6, h7, h8⟩ := h
  obtain ⟨C, F, S, Z, O⟩ := g
  simp only at h1 h2 h3 h4 h5 h6 h7 h8 hm hb
  obtain ⟨B, hB⟩ : ∃ B, B = geomBlocks ⟨C, F, S, Z, O⟩ := ⟨_, rfl⟩
  rw [← hB] at hb
  rw [← hB]
  have HB := Aside0.mk hb
  have HM := Aside0.mk hm
  clear hB hb hm
  go_enter Try.func69, Try.ntmps69
  go_wp2_with ((with_reducible refine gate_dst (N := 1) rfl ?_); refine box64 rfl (.tmp 0) rfl ⟨C, F, S, Z, O⟩ rfl ?_; intro w1 a1 h1 h2 h3; have H2 := Aside0.mk h2; have hx2 := GB.seq h2; have hx3 := GB.size h2; have H3 := Aside0.mk (below_new HW.out HW.out.size h3); clear h2 h3)
  go_loop [3, 4] (fun n i => ∃ k : Nat, (k : Int) + 5 ≤ S ∧ i = .int .i64 ((k : Int) + 5) ∧ n = .int .i64 ((k : Int) * (Z / 2)) ∧ 0 ≤ (k : Int) * (Z / 2) ∧ (k : Int) * (Z / 2) ≤ 7552) (fun _ i => (S - intOf i).toNat)
  case atStart => exact ⟨0, by omega, by simp, by simp, by simp, by simp⟩
  case round =>
    obtain ⟨k, hk, rfl, rfl, hb0, hb1⟩ := hrel
    by_cases hlt : (k : Int) + 5 < S
    · have hs : ((k + 1 : Nat) : Int) * (Z / 2) = (k : Int) * (Z / 2) + Z / 2 := by rw [Int.natCast_add, Int.add_mul]; simp
      have hle : ((k + 1 : Nat) : Int) * (Z / 2) ≤ (S - 5) * (Z / 2) := Int.mul_le_mul_of_nonneg_right (by omega) (by omega)
      have hmm := HM.out
      obtain ⟨x, hx⟩ : ∃ x, x = (k : Int) * (Z / 2) := ⟨_, rfl⟩
      rw [← hx] at hb0 hb1 hs
      rw [← hx]
      have HX := Aside0.mk hs
      have HY := Aside0.mk (show x + Z / 2 ≤ 7552 by omega)
      clear hs hle hmm hx
      have hy := HY.out
      go_wp2_with fail
      go_round
      case rel => exact ⟨k + 1, by omega, by go_num, by rw [HX.out], by rw [HX.out]; omega, by rw [HX.out]; omega⟩
      case measure => simp [intOf]; omega
    · have hke : (k : Int) = S - 5 := by omega
      rw [hke] at hb0 hb1 ⊢
      obtain ⟨x, hx⟩ : ∃ x, x = (S - 5) * (Z / 2) := ⟨_, rfl⟩
      rw [← hx] at hb0 hb1
      rw [← hx]
      have HX := Aside0.mk hx
      clear hx
      have hS5 : S - 5 + 5 = S := by omega
      rw [hS5]
      go_wp2_with fail
      all_goals (go_ret; refine ⟨congrArg (fun x => Ending.returned (Value.int .i64 x)) ?_, H3.out⟩; have e1 := HX.out; have e2 := HB.out; omega)
set_option maxHeartbeats 1000000 in
theorem refpages_calls (w : World) (g : Geom) (h : pre g) : Calls Try.prog 64 #[.agg (geomC g).toArray] w fun e w' => e = .returned (.int .i64 (geomPages g)) ∧ Below w.heap.size w w' := by
  have HW := Aside0.mk (Keeps.refl w)
  have hm := mul_bound h
  have hb : geomBlocks g = min ((g.seq - 5) * (g.size / 2)) 4096 := rfl
  have hp : geomPages g = (geomBlocks g + 9) / 10 := rfl
  have hq : 0 ≤ geomBlocks g ∧ geomBlocks g ≤ 4096 := by omega
  obtain ⟨B, hB⟩ : ∃ B, B = geomBlocks g := ⟨_, rfl⟩
  rw [← hB] at hp hq
  have HB := Aside0.mk hB
  have HP := Aside0.mk hp
  clear hb hp hm hB
  go_enter Try.func64, Try.ntmps64
  go_wp2_with ((with_reducible refine gate_dst (N := 1) rfl ?_); refine box64 rfl (.tmp 0) rfl g rfl ?_; intro w1 a1 h1 h2 h3; have H1 := Aside0.mk (HW.out.new h3 h2); clear h2 h3)
  go_loopw [3] (fun n wr => ∃ k : Nat, 10 * ((k : Int) - 1) < B ∧ n = .int .i64 k ∧ Aside0 (Keeps w [(a1, 64, geomC g)] wr)) (fun n _ => (B + 10 - 10 * intOf n).toNat)
  case atStart => exact ⟨0, by omega, rfl, H1⟩
  case round =>
    clear H1
    obtain ⟨k, hk, rfl, HK⟩ := hrel
    go_wp2_with ((with_reducible refine gate_dst (N := 6) rfl ?_); refine load64 rfl (.tmp 1) rfl a1 rfl HK.out.head ?_)
    refine (refblocks_calls _ g h).mono ?_
    rintro e w2 ⟨rfl, hb⟩
    rw [← HB.out]
    have HK2 := Aside0.mk (HK.out.step hb)
    clear hb HK
    by_cases hlt : 10 * (k : Int) < B
    · have hd : decide (10 * (k : Int) < B) = true := by simp; omega
      go_wp2_with fail
      go_roundw
      case rel => exact ⟨k + 1, by omega, by go_num, HK2⟩
      case measure => simp [intOf]; omega
    · have hd : decide (10 * (k : Int) < B) = false := by simp; omega
      go_wp2_with fail
      go_ret
      refine ⟨congrArg (fun x => Ending.returned (Value.int .i64 x)) ?_, HK2.out.below⟩
      rw [HP.out]
      omega
theorem geom_ok (C F S Z O : Int) : geomOk ⟨C, F, S, Z, O⟩ = true ↔ (2 ≤ C ∧ C ≤ 64 ∧ 6 ≤ S ∧ S ≤ 64 ∧ C + S ≤ 64 ∧ 8 ≤ Z ∧ Z ≤ 256 ∧ 3 ≤ O ∧ F ≤ 65536) ∧ geomPages ⟨C, F, S, Z, O⟩ + 3 ≤ F := by
  unfold geomOk geomShape
  rw [decide_eq_true_eq]
set_option maxHeartbeats 4000000 in
theorem right_calls (w : World) (g : Geom) : Calls Try.prog 63 #[.agg (geomC g).toArray] w fun e w' => e = .returned (.bool (geomOk g)) ∧ Below w.heap.size w w' := by
  have HW := Aside0.mk (Keeps.refl w)
  obtain ⟨C, F, S, Z, O⟩ := g
  have hi := geom_ok C F S Z O
  obtain ⟨R, hR⟩ : ∃ R, R = geomOk ⟨C, F, S, Z, O⟩ := ⟨_, rfl⟩
  obtain ⟨P, hP⟩ : ∃ P, P = geomPages ⟨C, F, S, Z, O⟩ := ⟨_, rfl⟩
  have HPB := Aside0.mk (show pre ⟨C, F, S, Z, O⟩ → 0 ≤ P ∧ P ≤ 410 from fun h => by
    have hm := mul_bound h
    rw [hP]
    unfold geomPages geomBlocks
    simp only at hm ⊢
    omega)
  rw [← hR, ← hP] at hi
  have HI := Aside0.mk hi
  have HP := Aside0.mk hP
  rw [← hR]
  clear hi hP hR
  go_enter Try.func63, Try.ntmps63
  go_upto_region 5 with ((with_reducible refine gate_dst (N := 1) rfl ?_); refine box64 rfl (.tmp 0) rfl ⟨C, F, S, Z, O⟩ rfl ?_; intro w1 a1 h1 h2 h3; have hx0 := GB.conv h2; have hx1 := GB.soft h2; have hx2 := GB.seq h2; have hx3 := GB.size h2; have hx4 := GB.opn h2; have H1 := Aside0.mk (HW.out.new h3 h2); clear h2 h3)
  all_goals (try (go_ret; refine ⟨congrArg (fun b => Ending.returned (Value.bool b)) (Bool.eq_iff_iff.2 (Iff.trans ?_ HI.out.symm)), H1.out.below⟩; simp; omega))
  have hpre : pre ⟨C, F, S, Z, O⟩ := by unfold pre; simp only; omega
  obtain ⟨hp0, hp1⟩ := HPB.out hpre
  have HII := Aside0.mk (show R = true ↔ (F ≤ 65536 ∧ P + 3 ≤ F) by rw [HI.out]; unfold pre at hpre; simp only at hpre; constructor <;> intro hh <;> omega)
  by_cases hle : P + 3 ≤ F
  · skip
    refine wp_region_held_drew (S := (fun w' => Keeps w [(a1, 64, geomC ⟨C, F, S, Z, O⟩)] w')) (by kernel_rfl) (by exact H1.out.drew) (fun hHeld => ?_)
    refine wpAnyH_tk (i := 0) (v := ?vz1) 37 rfl rfl (by kernel_rfl) (by kernel_rfl) (by kernel_rfl) (fun _ _ _ h => h) (Or.inl ⟨by rfl, ?yz1⟩) hHeld ?rz1
    case yz1 => (intro w hSw; go_simp; try with_reducible rfl)
    (try simp only [Act.put, List.setIfInBounds_toArray, List.set_cons_zero, List.set_cons_succ])
    refine wpAnyH_tk (i := 1) (v := _) 38 rfl rfl (by kernel_rfl) (by kernel_rfl) (by kernel_rfl) (fun _ _ _ h => h) (yields_cell (by rfl) 3 (.tmp 37) rfl ⟨a1, 1, none⟩ rfl (v := .int .i64 F) (fun _ h => GB.soft h.head) Try.underlying3 rfl) hHeld ?_
    (try simp only [Act.put, List.setIfInBounds_toArray, List.set_cons_zero, List.set_cons_succ])
    refine wpAnyH_tk (i := 2) (v := _) 39 rfl rfl (by kernel_rfl) (by kernel_rfl) (by kernel_rfl) (fun _ _ _ h => h) (yields_load (by rfl) 64 (.tmp 1) rfl a1 rfl (fun _ h => h.head) Try.underlying64 rfl (size64 _)) hHeld ?_
    (try simp only [Act.put, List.setIfInBounds_toArray, List.set_cons_zero, List.set_cons_succ])
    refine wpAnyH_one (i := 3) (by kernel_rfl) rfl (fun K hK => ?_)
    go_simp
    go_wp2_with ((go_at_call 68; refine (pages_calls _ _ hpre).mono ?_; rintro e wx ⟨rfl, hb⟩; rw [← HP.out]; have hHX := hHeld.step hb))
    refine hK.out _ _ (by exact hHX) (fun hHeld => ?_)
    clear hK K
    refine wpAnyH_tk (i := 4) (v := _) 41 rfl rfl (by kernel_rfl) (by kernel_rfl) (by kernel_rfl) (fun _ _ _ h => h) (show YieldsIf Try.prog _ _ _ (.int .i64 (P + 3)) _ from Or.inl ⟨(by rfl), fun w hSw => by go_simp; try (rw [IntKind.wrap_i64]; omega)⟩) hHeld ?_
    (try simp only [Act.put, List.setIfInBounds_toArray, List.set_cons_zero, List.set_cons_succ])
    refine wpAnyH_tk (i := 5) (v := _) 42 rfl rfl (by kernel_rfl) (by kernel_rfl) (by kernel_rfl) (fun _ _ _ h => h) (show YieldsIf Try.prog _ _ _ (.bool true) _ from Or.inl ⟨(by rfl), fun w hSw => by go_simp; try (simp; omega)⟩) hHeld ?_
    (try simp only [Act.put, List.setIfInBounds_toArray, List.set_cons_zero, List.set_cons_succ])
    refine wpAnyH_tk (i := 6) (v := ?vz2) 43 rfl rfl (by kernel_rfl) (by kernel_rfl) (by kernel_rfl) (fun _ _ _ h => h) (Or.inl ⟨by rfl, ?yz2⟩) hHeld ?rz2
    case yz2 => (intro w hSw; go_simp; try with_reducible rfl)
    (try simp only [Act.put, List.setIfInBounds_toArray, List.set_cons_zero, List.set_cons_succ])
    refine wpAnyH_tk (i := 7) (v := ?vz3) 44 rfl rfl (by kernel_rfl) (by kernel_rfl) (by kernel_rfl) (fun _ _ _ h => h) (Or.inl ⟨by rfl, ?yz3⟩) hHeld ?rz3
    case yz3 => (intro w hSw; go_simp; try with_reducible rfl)
    (try simp only [Act.put, List.setIfInBounds_toArray, List.set_cons_zero, List.set_cons_succ])
    refine wpAnyH_tk (i := 8) (v := _) 45 rfl rfl (by kernel_rfl) (by kernel_rfl) (by kernel_rfl) (fun _ _ _ h => h) (yields_cell (by rfl) 3 (.tmp 44) rfl ⟨a1, 1, none⟩ rfl (v := .int .i64 F) (fun _ h => GB.soft h.head) Try.underlying3 rfl) hHeld ?_
    (try simp only [Act.put, List.setIfInBounds_toArray, List.set_cons_zero, List.set_cons_succ])
    refine wpAnyH_tk (i := 9) (v := _) 46 rfl rfl (by kernel_rfl) (by kernel_rfl) (by kernel_rfl) (fun _ _ _ h => h) (show YieldsIf Try.prog _ _ _ (.bool (decide (F ≤ 65536))) _ from Or.inl ⟨(by rfl), fun w hSw => by go_simp; try rfl⟩) hHeld ?_
    (try simp only [Act.put, List.setIfInBounds_toArray, List.set_cons_zero, List.set_cons_succ])
    refine wpAnyH_tk (i := 10) (v := ?vz4) 47 rfl rfl (by kernel_rfl) (by kernel_rfl) (by kernel_rfl) (fun _ _ _ h => h) (Or.inl ⟨by rfl, ?yz4⟩) hHeld ?rz4
    case yz4 => (intro w hSw; go_simp; try with_reducible rfl)
    (try simp only [Act.put, List.setIfInBounds_toArray, List.set_cons_zero, List.set_cons_succ])
    refine wpAnyH_tk (i := 11) (v := ?vz5) 2 rfl rfl (by kernel_rfl) (by kernel_rfl) (by kernel_rfl) (fun _ _ _ h => h) (Or.inl ⟨by rfl, ?yz5⟩) hHeld ?rz5
    case yz5 => (intro w hSw; go_simp; try with_reducible rfl)
    (try simp only [Act.put, List.setIfInBounds_toArray, List.set_cons_zero, List.set_cons_succ])
    refine wpAnyH_done (by kernel_rfl) ?_ _
    skip
    go_wp2_with fail
    all_goals (go_ret; refine ⟨congrArg (fun b => Ending.returned (Value.bool b)) (Bool.eq_iff_iff.2 (Iff.trans ?_ HII.out.symm)), hHX.below⟩; simp; try omega)
  · skip
    refine wp_region_held_drew (S := (fun w' => Keeps w [(a1, 64, geomC ⟨C, F, S, Z, O⟩)] w')) (by kernel_rfl) (by exact H1.out.drew) (fun hHeld => ?_)
    refine wpAnyH_tk (i := 0) (v := ?vz6) 37 rfl rfl (by kernel_rfl) (by kernel_rfl) (by kernel_rfl) (fun _ _ _ h => h) (Or.inl ⟨by rfl, ?yz6⟩) hHeld ?rz6
    case yz6 => (intro w hSw; go_simp; try with_reducible rfl)
    (try simp only [Act.put, List.setIfInBounds_toArray, List.set_cons_zero, List.set_cons_succ])
    refine wpAnyH_tk (i := 1) (v := _) 38 rfl rfl (by kernel_rfl) (by kernel_rfl) (by kernel_rfl) (fun _ _ _ h => h) (yields_cell (by rfl) 3 (.tmp 37) rfl ⟨a1, 1, none⟩ rfl (v := .int .i64 F) (fun _ h => GB.soft h.head) Try.underlying3 rfl) hHeld ?_
    (try simp only [Act.put, List.setIfInBounds_toArray, List.set_cons_zero, List.set_cons_succ])
    refine wpAnyH_tk (i := 2) (v := _) 39 rfl rfl (by kernel_rfl) (by kernel_rfl) (by kernel_rfl) (fun _ _ _ h => h) (yields_load (by rfl) 64 (.tmp 1) rfl a1 rfl (fun _ h => h.head) Try.underlying64 rfl (size64 _)) hHeld ?_
    (try simp only [Act.put, List.setIfInBounds_toArray, List.set_cons_zero, List.set_cons_succ])
    refine wpAnyH_one (i := 3) (by kernel_rfl) rfl (fun K hK => ?_)
    go_simp
    go_wp2_with ((go_at_call 68; refine (pages_calls _ _ hpre).mono ?_; rintro e wx ⟨rfl, hb⟩; rw [← HP.out]; have hHX := hHeld.step hb))
    refine hK.out _ _ (by exact hHX) (fun hHeld => ?_)
    clear hK K
    refine wpAnyH_tk (i := 4) (v := _) 41 rfl rfl (by kernel_rfl) (by kernel_rfl) (by kernel_rfl) (fun _ _ _ h => h) (show YieldsIf Try.prog _ _ _ (.int .i64 (P + 3)) _ from Or.inl ⟨(by rfl), fun w hSw => by go_simp; try (rw [IntKind.wrap_i64]; omega)⟩) hHeld ?_
    (try simp only [Act.put, List.setIfInBounds_toArray, List.set_cons_zero, List.set_cons_succ])
    refine wpAnyH_tk (i := 5) (v := _) 42 rfl rfl (by kernel_rfl) (by kernel_rfl) (by kernel_rfl) (fun _ _ _ h => h) (show YieldsIf Try.prog _ _ _ (.bool false) _ from Or.inl ⟨(by rfl), fun w hSw => by go_simp; try (simp; omega)⟩) hHeld ?_
    (try simp only [Act.put, List.setIfInBounds_toArray, List.set_cons_zero, List.set_cons_succ])
    refine wpAnyH_tk (i := 6) (v := ?vz7) 43 rfl rfl (by kernel_rfl) (by kernel_rfl) (by kernel_rfl) (fun _ _ _ h => h) (Or.inl ⟨by rfl, ?yz7⟩) hHeld ?rz7
    case yz7 => (intro w hSw; go_simp; try with_reducible rfl)
    (try simp only [Act.put, List.setIfInBounds_toArray, List.set_cons_zero, List.set_cons_succ])
    refine wpAnyH_tk (i := 7) (v := undef) 44 rfl rfl (by kernel_rfl) (by kernel_rfl) (by kernel_rfl) (fun _ _ _ h => h) (yields_not (by rfl)) hHeld ?_
    (try simp only [Act.put, List.setIfInBounds_toArray, List.set_cons_zero, List.set_cons_succ])
    refine wpAnyH_tk (i := 8) (v := undef) 45 rfl rfl (by kernel_rfl) (by kernel_rfl) (by kernel_rfl) (fun _ _ _ h => h) (yields_not (by rfl)) hHeld ?_
    (try simp only [Act.put, List.setIfInBounds_toArray, List.set_cons_zero, List.set_cons_succ])
    refine wpAnyH_tk (i := 9) (v := undef) 46 rfl rfl (by kernel_rfl) (by kernel_rfl) (by kernel_rfl) (fun _ _ _ h => h) (yields_not (by rfl)) hHeld ?_
    (try simp only [Act.put, List.setIfInBounds_toArray, List.set_cons_zero, List.set_cons_succ])
    refine wpAnyH_tk (i := 10) (v := ?vz8) 47 rfl rfl (by kernel_rfl) (by kernel_rfl) (by kernel_rfl) (fun _ _ _ h => h) (Or.inl ⟨by rfl, ?yz8⟩) hHeld ?rz8
    case yz8 => (intro w hSw; go_simp; try with_reducible rfl)
    (try simp only [Act.put, List.setIfInBounds_toArray, List.set_cons_zero, List.set_cons_succ])
    refine wpAnyH_tk (i := 11) (v := ?vz9) 2 rfl rfl (by kernel_rfl) (by kernel_rfl) (by kernel_rfl) (fun _ _ _ h => h) (Or.inl ⟨by rfl, ?yz9⟩) hHeld ?rz9
    case yz9 => (intro w hSw; go_simp; try with_reducible rfl)
    (try simp only [Act.put, List.setIfInBounds_toArray, List.set_cons_zero, List.set_cons_succ])
    refine wpAnyH_done (by kernel_rfl) ?_ _
    skip
    go_wp2_with fail
    all_goals (go_ret; refine ⟨congrArg (fun b => Ending.returned (Value.bool b)) (Bool.eq_iff_iff.2 (Iff.trans ?_ HII.out.symm)), hHX.below⟩; simp; try omega)
set_option maxHeartbeats 4000000 in
theorem refright_calls (w : World) (g : Geom) (hw : geomWf g) : Calls Try.prog 43 #[.agg (geomC g).toArray] w fun e w' => e = .returned (.bool (geomOk g)) ∧ Below w.heap.size w w' := by
  have HW := Aside0.mk (Keeps.refl w)
  obtain ⟨C, F, S, Z, O⟩ := g
  have hi := geom_ok C F S Z O
  obtain ⟨R, hR⟩ : ∃ R, R = geomOk ⟨C, F, S, Z, O⟩ := ⟨_, rfl⟩
  obtain ⟨P, hP⟩ : ∃ P, P = geomPages ⟨C, F, S, Z, O⟩ := ⟨_, rfl⟩
  have HPB := Aside0.mk (show pre ⟨C, F, S, Z, O⟩ → 0 ≤ P ∧ P ≤ 410 from fun h => by
    have hm := mul_bound h
    rw [hP]
    unfold geomPages geomBlocks
    simp only at hm ⊢
    omega)
  rw [← hR, ← hP] at hi
  have HI := Aside0.mk hi
  have HP := Aside0.mk hP
  rw [← hR]
  clear hi hP hR hw
  go_enter Try.func43, Try.ntmps43
  go_upto_region 5 with ((with_reducible refine gate_dst (N := 1) rfl ?_); refine box64 rfl (.tmp 0) rfl ⟨C, F, S, Z, O⟩ rfl ?_; intro w1 a1 h1 h2 h3; have hx0 := GB.conv h2; have hx1 := GB.soft h2; have hx2 := GB.seq h2; have hx3 := GB.size h2; have hx4 := GB.opn h2; have H1 := Aside0.mk (HW.out.new h3 h2); clear h2 h3)
  all_goals (try (go_ret; refine ⟨congrArg (fun b => Ending.returned (Value.bool b)) (Bool.eq_iff_iff.2 (Iff.trans ?_ HI.out.symm)), H1.out.below⟩; simp; omega))
  have hpre : pre ⟨C, F, S, Z, O⟩ := by unfold pre; simp only; omega
  obtain ⟨hp0, hp1⟩ := HPB.out hpre
  have HII := Aside0.mk (show R = true ↔ P + 3 ≤ F by rw [HI.out]; unfold pre at hpre; simp only at hpre; constructor <;> intro hh <;> omega)
  refine wp_region_held_drew (S := (fun w' => Keeps w [(a1, 64, geomC ⟨C, F, S, Z, O⟩)] w')) (by kernel_rfl) (by exact H1.out.drew) (fun hHeld => ?_)
  refine wpAnyH_tk (i := 0) (v := ?vz10) 47 rfl rfl (by kernel_rfl) (by kernel_rfl) (by kernel_rfl) (fun _ _ _ h => h) (Or.inl ⟨by rfl, ?yz10⟩) hHeld ?rz10
  case yz10 => (intro w hSw; go_simp; try with_reducible rfl)
  (try simp only [Act.put, List.setIfInBounds_toArray, List.set_cons_zero, List.set_cons_succ])
  refine wpAnyH_tk (i := 1) (v := _) 48 rfl rfl (by kernel_rfl) (by kernel_rfl) (by kernel_rfl) (fun _ _ _ h => h) (yields_cell (by rfl) 3 (.tmp 47) rfl ⟨a1, 1, none⟩ rfl (v := .int .i64 F) (fun _ h => GB.soft h.head) Try.underlying3 rfl) hHeld ?_
  (try simp only [Act.put, List.setIfInBounds_toArray, List.set_cons_zero, List.set_cons_succ])
  refine wpAnyH_tk (i := 2) (v := _) 49 rfl rfl (by kernel_rfl) (by kernel_rfl) (by kernel_rfl) (fun _ _ _ h => h) (yields_load (by rfl) 64 (.tmp 1) rfl a1 rfl (fun _ h => h.head) Try.underlying64 rfl (size64 _)) hHeld ?_
  (try simp only [Act.put, List.setIfInBounds_toArray, List.set_cons_zero, List.set_cons_succ])
  refine wpAnyH_one (i := 3) (by kernel_rfl) rfl (fun K hK => ?_)
  go_simp
  go_wp2_with ((go_at_call 64; refine (refpages_calls _ _ hpre).mono ?_; rintro e wx ⟨rfl, hb⟩; rw [← HP.out]; have hHX := hHeld.step hb))
  refine hK.out _ _ (by exact hHX) (fun hHeld => ?_)
  clear hK K
  refine wpAnyH_tk (i := 4) (v := _) 51 rfl rfl (by kernel_rfl) (by kernel_rfl) (by kernel_rfl) (fun _ _ _ h => h) (show YieldsIf Try.prog _ _ _ (.int .i64 (P + 3)) _ from Or.inl ⟨(by rfl), fun w hSw => by go_simp; try (rw [IntKind.wrap_i64]; omega)⟩) hHeld ?_
  (try simp only [Act.put, List.setIfInBounds_toArray, List.set_cons_zero, List.set_cons_succ])
  refine wpAnyH_tk (i := 5) (v := _) 52 rfl rfl (by kernel_rfl) (by kernel_rfl) (by kernel_rfl) (fun _ _ _ h => h) (show YieldsIf Try.prog _ _ _ (.bool (decide (P + 3 ≤ F))) _ from Or.inl ⟨(by rfl), fun w hSw => by go_simp; try rfl⟩) hHeld ?_
  (try simp only [Act.put, List.setIfInBounds_toArray, List.set_cons_zero, List.set_cons_succ])
  refine wpAnyH_tk (i := 6) (v := ?vz11) 2 rfl rfl (by kernel_rfl) (by kernel_rfl) (by kernel_rfl) (fun _ _ _ h => h) (Or.inl ⟨by rfl, ?yz11⟩) hHeld ?rz11
  case yz11 => (intro w hSw; go_simp; try with_reducible rfl)
  (try simp only [Act.put, List.setIfInBounds_toArray, List.set_cons_zero, List.set_cons_succ])
  refine wpAnyH_done (by kernel_rfl) ?_ _
  skip
  go_wp2_with fail
  all_goals (go_ret; refine ⟨congrArg (fun b => Ending.returned (Value.bool b)) (Bool.eq_iff_iff.2 (Iff.trans ?_ HII.out.symm)), hHX.below⟩; simp; try omega)
end Go.Proofs.Ytmkkkenpjealdaa.GeomWalks
/-! The walks of layer 8: a measure's sector. -/
namespace Go.Proofs.Ytmkkkenpjealdaa.GeomWalks
set_option linter.unusedSimpArgs false
set_option linter.unusedVariables false
open Go.RowKit Go.Proofs.YtmkkkenpjealdaaW.PrintWords Go.Proofs.YtmkkkenpjealdaaW.PrintLast Go.Proofs.YtmkkkenpjealdaaW.PrintMore PlainWord CrcPlain PlainSec CrcMem CrcWalks CrcRef Arr SecWord SecMem SecRef LeafWalks RecWalks MastWalks

/-- A measure's numbers. -/
def fs (g : Geom) : List Int := [g.conv, g.soft, g.seq, g.size, g.opn]
theorem geomC_fs (g : Geom) : geomC g = encs (Value.int .i64) (fs g) := rfl
theorem GB.at {w : World} {a : Nat} {g : Geom} (h : GB w a g) (k : Nat) (hk : k < 5) : w.cell? ⟨a, k, none⟩ = some (.int .i64 ((fs g).getD k 0)) :=
  Blk.encAt (show Blk w a 64 (encs (Value.int .i64) (fs g)) from h) (0 : Int) k hk
def geomPart (g : Geom) (k : Nat) : List Int := [131] ++ ((fs g).take k).flatMap (leI · 4)
theorem geomPart_length (g : Geom) (k : Nat) (h : k ≤ 5) : (geomPart g k).length = 1 + 4 * k := by
  simp only [geomPart, List.length_append, flat_length, List.length_cons, List.length_nil, List.length_take, fs]
  omega
theorem geomPart_succ (g : Geom) (k : Nat) (h : k < 5) : geomPart g (k + 1) = geomPart g k ++ leI ((fs g).getD k 0) 4 := by
  have e : (fs g).take (k + 1) = (fs g).take k ++ [(fs g).getD k 0] := take_rd (fs g) k h
  unfold geomPart
  rw [e, List.flatMap_append, ← List.append_assoc]
  simp
theorem geomPart_all (g : Geom) : geomPart g 5 = geomBody g := by
  unfold geomPart geomBody fs
  simp
theorem fs_bound {g : Geom} (h : geomFits g) (k : Nat) (hk : k < 5) : 0 ≤ (fs g).getD k 0 ∧ (fs g).getD k 0 ≤ 2147483647 := by
  obtain ⟨⟨a0, a1⟩, ⟨b0, b1⟩, ⟨c0, c1⟩, ⟨d0, d1⟩, ⟨e0, e1⟩⟩ := geomFits_small h
  rcases (show k = 0 ∨ k = 1 ∨ k = 2 ∨ k = 3 ∨ k = 4 by omega) with rfl | rfl | rfl | rfl | rfl
  · show 0 ≤ g.conv ∧ g.conv ≤ _; omega
  · show 0 ≤ g.soft ∧ g.soft ≤ _; omega
  · show 0 ≤ g.seq ∧ g.seq ≤ _; omega
  · show 0 ≤ g.size ∧ g.size ≤ _; omega
  · show 0 ≤ g.opn ∧ g.opn ≤ _; omega
/-- Where a measure's numbers stand. -/
def ptr (a : Nat) (k : Nat) : Value := .pointer (some ⟨a, k, none⟩)
def ptrs (a : Nat) : List Value := encs (ptr a) [0, 1, 2, 3, 4]
theorem zero88 : (Try.prog.info? 88).map (·.zero) = some (some (.agg (List.replicate 5 (Value.pointer none)).toArray)) := by kernel_rfl
theorem size88 (a : Nat) : (Try.prog.info? 88).map (·.size) = some (ptrs a).length := by
  have : (Try.prog.info? 88).map (·.size) = some 5 := by kernel_rfl
  exact this
theorem size87 : (Try.prog.info? 87).map (·.size) = some 1 := by kernel_rfl
theorem ptrs_one (a : Nat) : ∀ v ∈ ptrs a, v.oneCell' = true := by
  intro v hv
  simp only [ptrs, encs, List.mem_map] at hv
  obtain ⟨k, _, rfl⟩ := hv
  rfl
set_option maxHeartbeats 1000000 in
theorem numbers_calls (w : World) (a : Nat) : Calls Try.prog 62 #[.pointer (some ⟨a, 0, none⟩)] w fun e w' => e = .returned (.agg (ptrs a).toArray) ∧ Below w.heap.size w w' := by
  have HW := Aside0.mk (Keeps.refl w)
  go_enter Try.func62, Try.ntmps62
  go_upto_region 1 with ((with_reducible refine gate_dst (N := 2) rfl ?_); refine wpl_alloc rfl 88 rfl _ zero88 _ rfl ?_; intro w1 a1 h1 h2 h3; have H1 := Aside0.mk (HW.out.new h3 h2); clear h2 h3)
  refine wp_region_held_drew (S := (fun w' => Keeps w [] w')) (by kernel_rfl) (by exact H1.out.drew.tail) (fun hHeld => ?_)
  refine wpAnyH_tk (i := 0) (v := ?vz12) 3 rfl rfl (by kernel_rfl) (by kernel_rfl) (by kernel_rfl) (fun _ _ _ h => h) (Or.inl ⟨by rfl, ?yz12⟩) hHeld ?rz12
  case yz12 => (intro w hSw; go_simp; try with_reducible rfl)
  (try simp only [Act.put, List.setIfInBounds_toArray, List.set_cons_zero, List.set_cons_succ])
  refine wpAnyH_tk (i := 1) (v := ?vz13) 4 rfl rfl (by kernel_rfl) (by kernel_rfl) (by kernel_rfl) (fun _ _ _ h => h) (Or.inl ⟨by rfl, ?yz13⟩) hHeld ?rz13
  case yz13 => (intro w hSw; go_simp; try with_reducible rfl)
  (try simp only [Act.put, List.setIfInBounds_toArray, List.set_cons_zero, List.set_cons_succ])
  refine wpAnyH_tk (i := 2) (v := ?vz14) 5 rfl rfl (by kernel_rfl) (by kernel_rfl) (by kernel_rfl) (fun _ _ _ h => h) (Or.inl ⟨by rfl, ?yz14⟩) hHeld ?rz14
  case yz14 => (intro w hSw; go_simp; try with_reducible rfl)
  (try simp only [Act.put, List.setIfInBounds_toArray, List.set_cons_zero, List.set_cons_succ])
  refine wpAnyH_tk (i := 3) (v := ?vz15) 6 rfl rfl (by kernel_rfl) (by kernel_rfl) (by kernel_rfl) (fun _ _ _ h => h) (Or.inl ⟨by rfl, ?yz15⟩) hHeld ?rz15
  case yz15 => (intro w hSw; go_simp; try with_reducible rfl)
  (try simp only [Act.put, List.setIfInBounds_toArray, List.set_cons_zero, List.set_cons_succ])
  refine wpAnyH_tk (i := 4) (v := ?vz16) 7 rfl rfl (by kernel_rfl) (by kernel_rfl) (by kernel_rfl) (fun _ _ _ h => h) (Or.inl ⟨by rfl, ?yz16⟩) hHeld ?rz16
  case yz16 => (intro w hSw; go_simp; try with_reducible rfl)
  (try simp only [Act.put, List.setIfInBounds_toArray, List.set_cons_zero, List.set_cons_succ])
  refine wpAnyH_tk (i := 5) (v := ?vz17) 8 rfl rfl (by kernel_rfl) (by kernel_rfl) (by kernel_rfl) (fun _ _ _ h => h) (Or.inl ⟨by rfl, ?yz17⟩) hHeld ?rz17
  case yz17 => (intro w hSw; go_simp; try with_reducible rfl)
  (try simp only [Act.put, List.setIfInBounds_toArray, List.set_cons_zero, List.set_cons_succ])
  refine wpAnyH_tk (i := 6) (v := ?vz18) 9 rfl rfl (by kernel_rfl) (by kernel_rfl) (by kernel_rfl) (fun _ _ _ h => h) (Or.inl ⟨by rfl, ?yz18⟩) hHeld ?rz18
  case yz18 => (intro w hSw; go_simp; try with_reducible rfl)
  (try simp only [Act.put, List.setIfInBounds_toArray, List.set_cons_zero, List.set_cons_succ])
  refine wpAnyH_tk (i := 7) (v := ?vz19) 10 rfl rfl (by kernel_rfl) (by kernel_rfl) (by kernel_rfl) (fun _ _ _ h => h) (Or.inl ⟨by rfl, ?yz19⟩) hHeld ?rz19
  case yz19 => (intro w hSw; go_simp; try with_reducible rfl)
  (try simp only [Act.put, List.setIfInBounds_toArray, List.set_cons_zero, List.set_cons_succ])
  refine wpAnyH_tk (i := 8) (v := ?vz20) 11 rfl rfl (by kernel_rfl) (by kernel_rfl) (by kernel_rfl) (fun _ _ _ h => h) (Or.inl ⟨by rfl, ?yz20⟩) hHeld ?rz20
  case yz20 => (intro w hSw; go_simp; try with_reducible rfl)
  (try simp only [Act.put, List.setIfInBounds_toArray, List.set_cons_zero, List.set_cons_succ])
  refine wpAnyH_tk (i := 9) (v := ?vz21) 12 rfl rfl (by kernel_rfl) (by kernel_rfl) (by kernel_rfl) (fun _ _ _ h => h) (Or.inl ⟨by rfl, ?yz21⟩) hHeld ?rz21
  case yz21 => (intro w hSw; go_simp; try with_reducible rfl)
  (try simp only [Act.put, List.setIfInBounds_toArray, List.set_cons_zero, List.set_cons_succ])
  refine wpAnyH_tk (i := 10) (v := ?vz22) 13 rfl rfl (by kernel_rfl) (by kernel_rfl) (by kernel_rfl) (fun _ _ _ h => h) (Or.inl ⟨by rfl, ?yz22⟩) hHeld ?rz22
  case yz22 => (intro w hSw; go_simp; try with_reducible rfl)
  (try simp only [Act.put, List.setIfInBounds_toArray, List.set_cons_zero, List.set_cons_succ])
  refine wpAnyH_tk (i := 11) (v := ?vz23) 14 rfl rfl (by kernel_rfl) (by kernel_rfl) (by kernel_rfl) (fun _ _ _ h => h) (Or.inl ⟨by rfl, ?yz23⟩) hHeld ?rz23
  case yz23 => (intro w hSw; go_simp; try with_reducible rfl)
  (try simp only [Act.put, List.setIfInBounds_toArray, List.set_cons_zero, List.set_cons_succ])
  refine wpAnyH_tk (i := 12) (v := ?vz24) 15 rfl rfl (by kernel_rfl) (by kernel_rfl) (by kernel_rfl) (fun _ _ _ h => h) (Or.inl ⟨by rfl, ?yz24⟩) hHeld ?rz24
  case yz24 => (intro w hSw; go_simp; try with_reducible rfl)
  (try simp only [Act.put, List.setIfInBounds_toArray, List.set_cons_zero, List.set_cons_succ])
  refine wpAnyH_tk (i := 13) (v := ?vz25) 16 rfl rfl (by kernel_rfl) (by kernel_rfl) (by kernel_rfl) (fun _ _ _ h => h) (Or.inl ⟨by rfl, ?yz25⟩) hHeld ?rz25
  case yz25 => (intro w hSw; go_simp; try with_reducible rfl)
  (try simp only [Act.put, List.setIfInBounds_toArray, List.set_cons_zero, List.set_cons_succ])
  refine wpAnyH_tk (i := 14) (v := ?vz26) 17 rfl rfl (by kernel_rfl) (by kernel_rfl) (by kernel_rfl) (fun _ _ _ h => h) (Or.inl ⟨by rfl, ?yz26⟩) hHeld ?rz26
  case yz26 => (intro w hSw; go_simp; try with_reducible rfl)
  (try simp only [Act.put, List.setIfInBounds_toArray, List.set_cons_zero, List.set_cons_succ])
  refine wpAnyH_tk (i := 15) (v := _) 18 rfl rfl (by kernel_rfl) (by kernel_rfl) (by kernel_rfl) (fun _ _ _ h => h) (show YieldsIf Try.prog _ _ _ (.agg (ptrs a).toArray) _ from Or.inl ⟨(by rfl), fun w hSw => by go_simp; try kernel_rfl⟩) hHeld ?_
  (try simp only [Act.put, List.setIfInBounds_toArray, List.set_cons_zero, List.set_cons_succ])
  refine wpAnyH_one (i := 16) (by kernel_rfl) rfl (fun K hK => ?_)
  rw [if_pos (by rfl)]
  refine step_storeAll rfl 88 (.tmp 2) (.tmp 18) rfl a1 rfl (ptrs a) rfl (size88 a) (ptrs_one a) H1.out.drew.head rfl ?_; intro wx hA hgr hsz; have hHX := H1.out.drew.put hgr h1 (by simp) hA
  refine hK.out _ _ (by exact hHX.tail) (fun hHeld => ?_)
  clear hK K
  (try simp only [Act.put, List.setIfInBounds_toArray, List.set_cons_zero, List.set_cons_succ])
  refine wpAnyH_done (by kernel_rfl) ?_ _
  skip
  go_wp2_with fail
  refine bodyPost_ret (results_cell_row rfl _ _ a1 88 _ (0, 0) _ rfl hHX.head Try.underlying88 rfl (size88 a)) rfl ?_
  exact ⟨rfl, hHX.below⟩
theorem ptrs_at (a k : Nat) (hk : k < 5) : ptr a (([0, 1, 2, 3, 4] : List Nat).getD k 0) = .pointer (some ⟨a, k, none⟩) := by
  rcases (show k = 0 ∨ k = 1 ∨ k = 2 ∨ k = 3 ∨ k = 4 by omega) with rfl | rfl | rfl | rfl | rfl <;> rfl
set_option maxRecDepth 10000 in
set_option maxHeartbeats 4000000 in
theorem lay_calls (w : World) (g : Geom) (hg : geomFits g) : Calls Try.prog 44 #[.agg (geomC g).toArray] w fun e w' => e = .returned (.agg (encs (Value.int .u8) (geomLay g)).toArray) ∧ Below w.heap.size w w' := by
  have HW := Aside0.mk (Keeps.refl w)
  have HG := Aside0.mk hg
  clear hg
  go_enter Try.func44, Try.ntmps44
  go_upto_region 3 with (first | ((with_reducible refine gate_dst (N := 1) rfl ?_); refine box64 rfl (.tmp 0) rfl g rfl ?_; intro w1 a1 h1 h2 h3; have H1 := Aside0.mk (HW.out.new h3 h2); clear h2 h3) | ((with_reducible refine gate_dst (N := 2) rfl ?_); refine alloc28 rfl rfl ?_; intro w2 a2 h4 h5 h6; obtain ⟨Z, hZ⟩ : ∃ Z : List Int, Z = zeros 64 := ⟨_, rfl⟩; rw [← hZ] at h5; have hZl : Z.length = 64 := (by rw [hZ, zeros_length]); clear hZ; have H2 := Aside0.mk (H1.out.new h6 h5); have hb2 : w.heap.size ≤ a2 := Nat.le_trans H1.out.size h4; have hne1 : a1 ≠ a2 := (by have := H1.out.head.lt; omega); clear h5 h6) | ((with_reducible refine gate_dst (N := 3) rfl ?_); refine alloc28 rfl rfl ?_; intro w3 a3 h7 h8 h9; have H3 := Aside0.mk (H2.out.new h9 h8); have hc0 := first_cell h8 (by decide); have hf0 := h8.frozen 0; have hb3 : w.heap.size ≤ a3 := Nat.le_trans H2.out.size h7; have hn1 : a1 ≠ a3 := (by have := H2.out.tail.head.lt; omega); have hn2 : a2 ≠ a3 := (by have := H2.out.head.lt; omega); clear h8 h9))
  have H4 := Aside0.mk (H3.out.put (grown_set _ a3 0 (.int .u8 131)) hb3 (by simp; omega) (first_set H3.out.head 131))
  generalize w3.setCell ⟨a3, 0, none⟩ (.int .u8 131) = w4 at *
  clear hc0 hf0 H1 H2 H3
  go_wp2_with fail
  refine (numbers_calls _ a1).mono ?_
  rintro e w5 ⟨rfl, hb⟩
  have H5 := Aside0.mk (H4.out.step hb)
  clear hb H4
  obtain ⟨V, hV⟩ : ∃ V, V = Value.agg (ptrs a1).toArray := ⟨_, rfl⟩
  rw [← hV]
  have HV := Aside0.mk hV
  clear hV
  go_wp2_with fail
  go_loopw [8] (fun i wr => ∃ k : Nat, k ≤ 5 ∧ i = .int .i64 k ∧ Aside0 (Keeps w [(a3, 28, encs (Value.int .u8) (geomPart g k ++ zeros (63 - 4 * k))), (a2, 28, encs (Value.int .u8) Z), (a1, 64, geomC g)] wr)) (fun i _ => 5 - (intOf i).toNat)
  case atStart => exact ⟨0, by omega, rfl, H5⟩
  case round =>
    clear H5
    obtain ⟨k, hk, rfl, HK⟩ := hrel
    have hlk : (geomPart g k ++ zeros (63 - 4 * k)).length = 64 := by rw [List.length_append, geomPart_length g k (by omega), zeros_length]; omega
    by_cases hlt : k < 5
    · have hb := fs_bound HG.out k hlt
      have HS := Aside0.mk (geomPart_succ g k hlt)
      have HPT := Aside0.mk (ptrs_at a1 k hlt)
      have HAT := Aside0.mk (fun (w' : World) (h : GB w' a1 g) => GB.at h k hlt)
      obtain ⟨x, hx⟩ : ∃ x, x = (fs g).getD k 0 := ⟨_, rfl⟩
      rw [← hx] at hb HS HAT
      clear hx
      obtain ⟨hb0, hb1⟩ := hb
      have HW1 := Aside0.mk (show IntKind.u32.wrap x = x by rw [IntKind.wrap_u32]; omega)
      have HW2 := Aside0.mk (show IntKind.u64.wrap x = x by rw [PlainWord.wrap_u64]; omega)
      go_upto_region 6 with ((with_reducible refine gate_dst (N := 11) rfl ?_); refine wpl_index rfl 88 (.tmp 7) (.tmp 8) rfl (ptr a1) (0 : Nat) [0, 1, 2, 3, 4] (by rw [show (Act.eval _ (.tmp 7)) = V from rfl, HV.out]; rfl) k rfl Try.underlying88 rfl hlt Try.underlying87 rfl size87 ?_; rw [HPT.out])
      have HI1 := Aside0.mk (show IntKind.i64.wrap (4 * (k : Int)) = 4 * (k : Int) by rw [IntKind.wrap_i64]; omega)
      have HI2 := Aside0.mk (show IntKind.i64.wrap (1 + 4 * (k : Int)) = 1 + 4 * (k : Int) by rw [IntKind.wrap_i64]; omega)
      have HI3 := Aside0.mk (show ((1 + 4 * k : Nat) : Int) = 1 + 4 * (k : Int) by omega)
      refine wp_region_held_drew (S := (fun w' => Keeps w [(a2, 28, encs (Value.int .u8) Z), (a1, 64, geomC g)] w')) (by kernel_rfl) (by exact HK.out.drew.tail) (fun hHeld => ?_)
      refine wpAnyH_tk (i := 0) (v := ?vz27) 12 rfl rfl (by kernel_rfl) (by kernel_rfl) (by kernel_rfl) (fun _ _ _ h => h) (Or.inl ⟨by rfl, ?yz27⟩) hHeld ?rz27
      case yz27 => (intro w hSw; go_simp; try with_reducible rfl)
      (try simp only [Act.put, List.setIfInBounds_toArray, List.set_cons_zero, List.set_cons_succ])
      refine wpAnyH_tk (i := 1) (v := ?vz28) 13 rfl rfl (by kernel_rfl) (by kernel_rfl) (by kernel_rfl) (fun _ _ _ h => h) (Or.inl ⟨by rfl, ?yz28⟩) hHeld ?rz28
      case yz28 => (intro w hSw; go_simp; try with_reducible rfl)
      (try simp only [Act.put, List.setIfInBounds_toArray, List.set_cons_zero, List.set_cons_succ])
      refine wpAnyH_tk (i := 2) (v := _) 14 rfl rfl (by kernel_rfl) (by kernel_rfl) (by kernel_rfl) (fun _ _ _ h => h) (show YieldsIf Try.prog _ _ _ (.int .i64 (4 * (k : Int))) _ from Or.inl ⟨(by rfl), fun w hSw => by go_simp; try (rw [HI1.out])⟩) hHeld ?_
      (try simp only [Act.put, List.setIfInBounds_toArray, List.set_cons_zero, List.set_cons_succ])
      refine wpAnyH_tk (i := 3) (v := _) 15 rfl rfl (by kernel_rfl) (by kernel_rfl) (by kernel_rfl) (fun _ _ _ h => h) (show YieldsIf Try.prog _ _ _ (.int .i64 ((1 + 4 * k : Nat) : Int)) _ from Or.inl ⟨(by rfl), fun w hSw => by rw [HI3.out]; go_simp; try (rw [HI2.out])⟩) hHeld ?_
      (try simp only [Act.put, List.setIfInBounds_toArray, List.set_cons_zero, List.set_cons_succ])
      refine wpAnyH_tk (i := 4) (v := ?vz29) 16 rfl rfl (by kernel_rfl) (by kernel_rfl) (by kernel_rfl) (fun _ _ _ h => h) (Or.inl ⟨by rfl, ?yz29⟩) hHeld ?rz29
      case yz29 => (intro w hSw; go_simp; try with_reducible rfl)
      (try simp only [Act.put, List.setIfInBounds_toArray, List.set_cons_zero, List.set_cons_succ])
      refine wpAnyH_tk (i := 5) (v := ?vz30) 17 rfl rfl (by kernel_rfl) (by kernel_rfl) (by kernel_rfl) (fun _ _ _ h => h) (Or.inl ⟨by rfl, ?yz30⟩) hHeld ?rz30
      case yz30 => (intro w hSw; go_simp; try with_reducible rfl)
      (try simp only [Act.put, List.setIfInBounds_toArray, List.set_cons_zero, List.set_cons_succ])
      refine wpAnyH_tk (i := 6) (v := _) 18 rfl rfl (by kernel_rfl) (by kernel_rfl) (by kernel_rfl) (fun _ _ _ h => h) (yields_cell (by rfl) 3 (.tmp 17) rfl ⟨a1, k, none⟩ rfl (v := .int .i64 x) (fun w h => HAT.out w h.tail.head) Try.underlying3 rfl) hHeld ?_
      (try simp only [Act.put, List.setIfInBounds_toArray, List.set_cons_zero, List.set_cons_succ])
      refine wpAnyH_tk (i := 7) (v := _) 19 rfl rfl (by kernel_rfl) (by kernel_rfl) (by kernel_rfl) (fun _ _ _ h => h) (show YieldsIf Try.prog _ _ _ (.int .u32 x) _ from Or.inl ⟨(by rfl), fun w hSw => by go_simp; try exact HW1.out⟩) hHeld ?_
      (try simp only [Act.put, List.setIfInBounds_toArray, List.set_cons_zero, List.set_cons_succ])
      refine wpAnyH_tk (i := 8) (v := _) 20 rfl rfl (by kernel_rfl) (by kernel_rfl) (by kernel_rfl) (fun _ _ _ h => h) (show YieldsIf Try.prog _ _ _ (.int .u64 x) _ from Or.inl ⟨(by rfl), fun w hSw => by go_simp; try exact HW2.out⟩) hHeld ?_
      (try simp only [Act.put, List.setIfInBounds_toArray, List.set_cons_zero, List.set_cons_succ])
      refine wpAnyH_one (i := 9) (by kernel_rfl) rfl (fun K hK => ?_)
      go_simp
      go_wp2_with ((go_at_call 46; refine (put_calls _ a3 28 _ HK.out.drew.head 64 64 hlk.symm (1 + 4 * k) 4 x (by omega) (by rw [hlk]; omega) (by rw [hlk]; decide)).mono ?_; rintro e wx ⟨rfl, h5, h6⟩; rw [put_zeros (geomPart g k) (63 - 4 * k) 4 x (by omega) _ (by rw [geomPart_length g k (by omega)]), ← HS.out, show 63 - 4 * k - 4 = 63 - 4 * (k + 1) by omega] at h5; have hHX := HK.out.drew.put h6 hb3 (by simp; omega) h5))
      refine hK.out _ _ (by exact hHX.tail) (fun hHeld => ?_)
      clear hK K
      refine wpAnyH_done (by kernel_rfl) ?_ _
      skip
      go_wp2_with fail
      go_roundw
      case rel => exact ⟨k + 1, by omega, by go_num, ⟨hHX⟩⟩
      case measure => simp [intOf]; omega
    · obtain rfl : k = 5 := by omega
      have hbl := geomPart_all g
      rw [hbl] at hlk HK
      rw [show 63 - 4 * 5 = 43 from rfl] at HK hlk
      have ht60 : (geomBody g ++ zeros 43).take 60 = geomBody g ++ zeros 39 := by
        rw [show 43 = 39 + 4 from rfl, zeros_add, ← List.append_assoc]
        have : (geomBody g ++ zeros 39).length = 60 := by rw [List.length_append, geomBody_length, zeros_length]
        rw [← this, List.take_left]
      have hfin : sealL ((geomBody g ++ zeros 43).take 60) = geomLay g := by
        rw [ht60]
        unfold geomLay fullL
        rw [geomBody_length]
      have hll := geomLay_length g
      have HF := Aside0.mk hfin
      have hbb : Bytes (geomBody g ++ zeros 43) := bytes_append (geomBody_bytes g) (zeros_bytes 43)
      clear ht60 hfin hbl
      go_wp2_with ((with_reducible refine gate_dst (N := 23) rfl ?_); refine load28 rfl (.tmp 3) rfl a3 rfl HK.out.head hlk ?_)
      refine (seal59_calls _ (geomBody g ++ zeros 43) hbb hlk).mono ?_
      rintro e w9 ⟨rfl, hb⟩
      rw [HF.out]
      have HL := Aside0.mk (HK.out.step hb)
      clear HK hb
      go_wp2_with ((with_reducible refine gate_store (t := 28) (p := 2) rfl ?_); refine store28 rfl rfl (.tmp 2) (.tmp 24) rfl a2 rfl (geomLay g) rfl hll HL.out.tail.head hZl ?_; intro w10 h8 h9 h10)
      refine bodyPost_ret (ret28 rfl rfl h8 hll) rfl ?_
      exact ⟨rfl, below_grown HL.out.below hb2 HL.out.size h9⟩
end Go.Proofs.Ytmkkkenpjealdaa.GeomWalks
/-! The walks of layer 8's reference: a measure's sector. -/
namespace Go.Proofs.Ytmkkkenpjealdaa.GeomWalks
set_option linter.unusedSimpArgs false
set_option linter.unusedVariables false
open Go.RowKit Go.Proofs.YtmkkkenpjealdaaW.PrintWords Go.Proofs.YtmkkkenpjealdaaW.PrintLast Go.Proofs.YtmkkkenpjealdaaW.PrintMore PlainWord CrcPlain PlainSec CrcMem CrcWalks CrcRef Arr SecWord SecMem SecRef LeafWalks RecWalks MastWalks

set_option maxHeartbeats 4000000 in
theorem reflay_calls (w : World) (g : Geom) (hg : geomFits g) : Calls Try.prog 45 #[.agg (geomC g).toArray] w fun e w' => e = .returned (.agg (encs (Value.int .u8) (geomLay g)).toArray) ∧ Below w.heap.size w w' := by
  have HW := Aside0.mk (Below.refl w.heap.size w)
  obtain ⟨⟨c0, c1⟩, ⟨f0, f1⟩, ⟨s0, s1⟩, ⟨z0, z1⟩, ⟨o0, o1⟩⟩ := geomFits_small hg
  clear hg
  go_enter Try.func45, Try.ntmps45
  go_wp2_with (first | ((with_reducible refine gate_dst (N := 1) rfl ?_); refine box64 rfl (.tmp 0) rfl g rfl ?_; intro w1 a1 h1 h2 h3; have H2 := Aside0.mk h2; have H3 := Aside0.mk (below_new HW.out HW.out.size h3); clear h2 h3) | ((with_reducible refine gate_dst (N := 2) rfl ?_); refine alloc28 rfl rfl ?_; intro w2 a2 h4 h5 h6; obtain ⟨Z, hZ⟩ : ∃ Z : List Int, Z = zeros 64 := ⟨_, rfl⟩; rw [← hZ] at h5; have hZl : Z.length = 64 := (by rw [hZ, zeros_length]); clear hZ; have H5 := Aside0.mk h5; have H6 := Aside0.mk (below_new H3.out H3.out.size h6); have H2b := Aside0.mk (H2.out.grown h6 (by simp)); have hb2 : w.heap.size ≤ a2 := (by have := H3.out.size; omega); have HN := Aside0.mk (Below.refl w2.heap.size w2); clear h5 h6) | ((with_reducible refine gate_dst (N := 4) rfl ?_); refine lit1_u8 rfl 4 rfl _ rfl 131 rfl HN.out (Nat.le_refl _) ?_; intro v3 w3 h7 h8 h9; have H7 := Aside0.mk h7; have H8 := Aside0.mk h8; have hx1 := GB.conv (H2b.out.below h8 H2b.out.lt); clear h7 h8))
  clear hx1
  have hl1 := H2b.out.lt
  refine (low60 g.conv 4 (by omega) (by omega) (by omega) _).mono ?_
  rintro e w4 ⟨v4, rfl, h4r, h4b⟩
  obtain ⟨A4, c4, rfl, _, hc4⟩ := RB.reads h4r
  have HC4 := Aside0.mk hc4
  have H7' := Aside0.mk (Kd.R_below H7.out h4b)
  have H8' := Aside0.mk (H8.out.trans (h4b.mono H8.out.size))
  clear h4r h4b hc4 H7 H8
  have hlen8 := leI_length g.conv 4
  go_wp2_with ((at_builtin; refine apps_u8 rfl (.tmp 5) (.tmp 8) rfl v3 ([131]) A4 (leI g.conv 4) c4 rfl rfl H7'.out HC4.out H8'.out H8'.out.size (by rw [hlen8]; simp [leI_length]) ?_; intro v5 w5 h7 h8 h9; have hx1 := GB.soft (H2b.out.below h8 hl1); have H7 := Aside0.mk h7; have H8 := Aside0.mk h8; clear h7 h8))
  clear hx1 H7' H8' HC4 hlen8
  refine (low60 g.soft 4 (by omega) (by omega) (by omega) _).mono ?_
  rintro e w6 ⟨v6, rfl, h4r, h4b⟩
  obtain ⟨A4, c4, rfl, _, hc4⟩ := RB.reads h4r
  have HC4 := Aside0.mk hc4
  have H7' := Aside0.mk (Kd.R_below H7.out h4b)
  have H8' := Aside0.mk (H8.out.trans (h4b.mono H8.out.size))
  clear h4r h4b hc4 H7 H8
  have hlen8 := leI_length g.soft 4
  go_wp2_with ((at_builtin; refine apps_u8 rfl (.tmp 10) (.tmp 13) rfl v5 ([131] ++ leI g.conv 4) A4 (leI g.soft 4) c4 rfl rfl H7'.out HC4.out H8'.out H8'.out.size (by rw [hlen8]; simp [leI_length]) ?_; intro v7 w7 h7 h8 h9; have hx1 := GB.seq (H2b.out.below h8 hl1); have H7 := Aside0.mk h7; have H8 := Aside0.mk h8; clear h7 h8))
  clear hx1 H7' H8' HC4 hlen8
  refine (low60 g.seq 4 (by omega) (by omega) (by omega) _).mono ?_
  rintro e w8 ⟨v8, rfl, h4r, h4b⟩
  obtain ⟨A4, c4, rfl, _, hc4⟩ := RB.reads h4r
  have HC4 := Aside0.mk hc4
  have H7' := Aside0.mk (Kd.R_below H7.out h4b)
  have H8' := Aside0.mk (H8.out.trans (h4b.mono H8.out.size))
  clear h4r h4b hc4 H7 H8
  have hlen8 := leI_length g.seq 4
  go_wp2_with ((at_builtin; refine apps_u8 rfl (.tmp 15) (.tmp 18) rfl v7 ([131] ++ leI g.conv 4 ++ leI g.soft 4) A4 (leI g.seq 4) c4 rfl rfl H7'.out HC4.out H8'.out H8'.out.size (by rw [hlen8]; simp [leI_length]) ?_; intro v9 w9 h7 h8 h9; have hx1 := GB.size (H2b.out.below h8 hl1); have H7 := Aside0.mk h7; have H8 := Aside0.mk h8; clear h7 h8))
  clear hx1 H7' H8' HC4 hlen8
  refine (low60 g.size 4 (by omega) (by omega) (by omega) _).mono ?_
  rintro e w10 ⟨v10, rfl, h4r, h4b⟩
  obtain ⟨A4, c4, rfl, _, hc4⟩ := RB.reads h4r
  have HC4 := Aside0.mk hc4
  have H7' := Aside0.mk (Kd.R_below H7.out h4b)
  have H8' := Aside0.mk (H8.out.trans (h4b.mono H8.out.size))
  clear h4r h4b hc4 H7 H8
  have hlen8 := leI_length g.size 4
  go_wp2_with ((at_builtin; refine apps_u8 rfl (.tmp 20) (.tmp 23) rfl v9 ([131] ++ leI g.conv 4 ++ leI g.soft 4 ++ leI g.seq 4) A4 (leI g.size 4) c4 rfl rfl H7'.out HC4.out H8'.out H8'.out.size (by rw [hlen8]; simp [leI_length]) ?_; intro v11 w11 h7 h8 h9; have hx1 := GB.opn (H2b.out.below h8 hl1); have H7 := Aside0.mk h7; have H8 := Aside0.mk h8; clear h7 h8))
  clear hx1 H7' H8' HC4 hlen8
  refine (low60 g.opn 4 (by omega) (by omega) (by omega) _).mono ?_
  rintro e w12 ⟨v12, rfl, h4r, h4b⟩
  obtain ⟨A4, c4, rfl, _, hc4⟩ := RB.reads h4r
  have HC4 := Aside0.mk hc4
  have H7' := Aside0.mk (Kd.R_below H7.out h4b)
  have H8' := Aside0.mk (H8.out.trans (h4b.mono H8.out.size))
  clear h4r h4b hc4 H7 H8
  have hlen8 := leI_length g.opn 4
  go_wp2_with ((at_builtin; refine apps_u8 rfl (.tmp 25) (.tmp 28) rfl v11 ([131] ++ leI g.conv 4 ++ leI g.soft 4 ++ leI g.seq 4 ++ leI g.size 4) A4 (leI g.opn 4) c4 rfl rfl H7'.out HC4.out H8'.out H8'.out.size (by rw [hlen8]; simp [leI_length]) ?_; intro v13 w13 h7 h8 h9; have H7 := Aside0.mk h7; have H8 := Aside0.mk h8; clear h7 h8))
  clear H7' H8' HC4 hlen8
  have HO := Aside0.mk (show RB w13 w2.heap.size v13 (geomBody g) from H7.out)
  clear H7
  have hS := H8.out.size
  refine (full_calls _ w2.heap.size _ (geomBody g) HO.out hS (by rw [geomBody_length]; decide) (geomBody_bytes g)).mono ?_
  rintro e w20 ⟨rfl, h4b⟩
  have HB8 := Aside0.mk (H8.out.trans h4b)
  have HR8 := Aside0.mk (H5.out.below HB8.out H5.out.lt)
  have HF8 := Aside0.mk (H6.out.trans (HB8.out.mono H6.out.size))
  have hll := geomLay_length g
  rw [show fullL (geomBody g) = geomLay g from rfl]
  clear h4b HO
  go_wp2_with ((with_reducible refine gate_store (t := 28) (p := 2) rfl ?_); refine store28 rfl rfl (.tmp 2) (.tmp 31) rfl a2 rfl (geomLay g) rfl hll HR8.out hZl ?_; intro w9 h8 h9 h10)
  refine bodyPost_ret (ret28 rfl rfl h8 hll) rfl ?_
  exact ⟨rfl, below_grown HF8.out hb2 HF8.out.size h9⟩
end Go.Proofs.Ytmkkkenpjealdaa.GeomWalks
/-! The walks of layer 8: a sector read as a measure. -/
namespace Go.Proofs.Ytmkkkenpjealdaa.GeomWalks
set_option linter.unusedSimpArgs false
set_option linter.unusedVariables false
open Go.RowKit Go.Proofs.YtmkkkenpjealdaaW.PrintWords Go.Proofs.YtmkkkenpjealdaaW.PrintLast Go.Proofs.YtmkkkenpjealdaaW.PrintMore PlainWord CrcPlain PlainSec CrcMem CrcWalks CrcRef Arr SecWord SecMem SecRef LeafWalks RecWalks MastWalks

theorem geomRead_if (p : List Int) (hr : rightB p = true) (b : Bool) (hok : geomOk (geomOf p) = true) (hb : b = decide (geomLay (geomOf p) = p)) : geomRead p = if b = true then (geomOf p, 0) else (geom0, 7) := by
  unfold geomRead
  rw [if_pos hr, hb]
  by_cases h3 : geomLay (geomOf p) = p
  · rw [if_pos ⟨hok, h3⟩, if_pos (by rw [decide_eq_true h3])]
  · rw [if_neg (fun h => h3 h.2), if_neg (by rw [decide_eq_false h3]; decide)]
theorem geomRead_bad (p : List Int) (hr : rightB p = true) (hok : geomOk (geomOf p) = false) : geomRead p = (geom0, 7) := by
  unfold geomRead
  rw [if_pos hr, if_neg (fun g => by rw [hok] at g; exact absurd g.1 (by decide))]
theorem geomRead_mark (p : List Int) (hr : rightB p = true) (h1 : p.getD 0 0 ≠ 131) : geomRead p = (geom0, 7) := by
  unfold geomRead
  rw [if_pos hr, if_neg]
  rintro ⟨_, h⟩
  have := geomLay_mark (geomOf p)
  rw [h] at this
  exact h1 this
theorem geomRead_ref (p : List Int) (hp : Bytes p) (hr : rightB p = true) (hf : geomFits (refGeomOf p)) (b : Bool) (hb : b = decide (geomLay (refGeomOf p) = p)) : geomRead p = if b = true then (refGeomOf p, 0) else (geom0, 7) := by
  have h := geom_ref p hp
  unfold geomRead
  rw [if_pos hr, hb]
  by_cases h3 : geomLay (refGeomOf p) = p
  · have e : geomOf p = refGeomOf p := by
      have := geomOf_lay _ hf
      rwa [h3] at this
    rw [if_pos (h.2 ⟨hf, h3⟩), if_pos (by rw [decide_eq_true h3]), e]
  · rw [if_neg (fun k => h3 (h.1 k).2), if_neg (by rw [decide_eq_false h3]; decide)]
theorem geomRead_refbad (p : List Int) (hp : Bytes p) (hr : rightB p = true) (hf : ¬ geomFits (refGeomOf p)) : geomRead p = (geom0, 7) := by
  unfold geomRead
  rw [if_pos hr, if_neg (fun k => hf ((geom_ref p hp).1 k).1)]
theorem fs_of (p : List Int) (k : Nat) (hk : k < 5) : (fs (geomOf p)).getD k 0 = s32 (getN p ((1 + 4 * k : Nat) : Int) 4) := by
  rcases (show k = 0 ∨ k = 1 ∨ k = 2 ∨ k = 3 ∨ k = 4 by omega) with rfl | rfl | rfl | rfl | rfl <;> rfl
theorem fs_zero : encs (Value.int .i64) (upTo (fs (geomOf [])) 0) = geomC geom0 := rfl
theorem upTo_fs0 (p : List Int) : encs (Value.int .i64) (upTo (fs (geomOf p)) 0) = geomC geom0 := rfl
theorem upTo_fs5 (p : List Int) : encs (Value.int .i64) (upTo (fs (geomOf p)) 5) = geomC (geomOf p) := rfl
theorem ptrs_value (a : Nat) : (Value.agg (ptrs a).toArray) = .agg (encs (ptr a) [0, 1, 2, 3, 4]).toArray := rfl
set_option maxRecDepth 10000 in
set_option maxHeartbeats 4000000 in
theorem read_calls (w : World) (p : List Int) (hp : Bytes p) (hl : p.length = 64) : Calls Try.prog 41 #[.agg (encs (Value.int .u8) p).toArray] w fun e w' => e = .returned (.tuple #[.agg (geomC (geomRead p).1).toArray, .int .i64 (geomRead p).2]) ∧ Below w.heap.size w w' := by
  have HW := Aside0.mk (Keeps.refl w)
  have HP := Aside0.mk hp
  clear hp
  go_enter Try.func41, Try.ntmps41
  go_wp2_with (first | ((with_reducible refine gate_dst (N := 1) rfl ?_); refine box28 rfl (.tmp 0) rfl p rfl ?_; intro w1 a1 h1 h2 h3; have H1 := Aside0.mk (HW.out.new h3 h2); clear h2 h3) | ((with_reducible refine gate_dst (N := 2) rfl ?_); refine alloc64 rfl rfl ?_; intro w2 a2 h4 h5 h6; have H2 := Aside0.mk (H1.out.new h6 h5); clear h5 h6))
  have hb2 : w.heap.size ≤ a2 := by have := H1.out.size; omega
  have hne : a1 ≠ a2 := by have := H1.out.head.lt; omega
  have HC := Aside0.mk (BB.readsAll H2.out.tail.head (by rw [hl]; decide))
  rw [hl] at HC
  refine (CrcWalks.right_calls _ _ _ _ _ HC.out (by omega) HP.out (by rw [hl]; decide)).mono ?_
  rintro e w3 ⟨rfl, rfl⟩
  by_cases hr : rightB p = true
  · rw [hr]
    go_wp2_with ((with_reducible refine gate_dst (N := 4) rfl ?_); refine alloc64 rfl rfl ?_; intro w4 a3 h7 h8 h9; have H3 := Aside0.mk (H2.out.new h9 h8); have hb3 : w.heap.size ≤ a3 := Nat.le_trans H2.out.size h7; have hn1 : a1 ≠ a3 := (by have := H2.out.tail.head.lt; omega); have hn2 : a2 ≠ a3 := (by have := H2.out.head.lt; omega); clear h8 h9)
    refine (numbers_calls _ a3).mono ?_
    rintro e w5 ⟨rfl, hb⟩
    have H5 := Aside0.mk (H3.out.step hb)
    clear hb H3 H2 H1 HC
    obtain ⟨V, hV⟩ : ∃ V, V = Value.agg (ptrs a3).toArray := ⟨_, rfl⟩
    rw [← hV]
    have HV := Aside0.mk hV
    clear hV
    go_wp2_with fail
    go_loopw [14] (fun i wr => ∃ k : Nat, k ≤ 5 ∧ i = .int .i64 k ∧ Aside0 (Keeps w [(a3, 64, encs (Value.int .i64) (upTo (fs (geomOf p)) k)), (a2, 64, geomC geom0), (a1, 28, encs (Value.int .u8) p)] wr)) (fun i _ => 5 - (intOf i).toNat)
    case atStart => exact ⟨0, by omega, rfl, ⟨by rw [upTo_fs0]; exact H5.out⟩⟩
    case round =>
      clear H5
      obtain ⟨k, hk, rfl, HK⟩ := hrel
      by_cases hlt : k < 5
      · have HPT := Aside0.mk (ptrs_at a3 k hlt)
        have HFS := Aside0.mk (fs_of p k hlt)
        have hul : (upTo (fs (geomOf p)) k).length = 5 := by rw [upTo_length]; rfl
        have HSU := Aside0.mk (upTo_succ (fs (geomOf p)) k (by exact hlt))
        have HC2 := Aside0.mk (BB.readsAll HK.out.tail.tail.head (by rw [hl]; decide))
        rw [hl] at HC2
        have hc := Blk.encAt HK.out.head (0 : Int) k (by omega)
        have hf := HK.out.head.frozen k
        have hb4 := getN_bound HP.out ((1 + 4 * k : Nat) : Int) 4
        have p4 : (256 : Int) ^ 4 = 4294967296 := by decide
        rw [p4] at hb4
        obtain ⟨hb40, hb41⟩ := hb4
        obtain ⟨x, hx⟩ : ∃ x, x = getN p ((1 + 4 * k : Nat) : Int) 4 := ⟨_, rfl⟩
        have HX := Aside0.mk hx
        rw [← hx] at hb40 hb41 HFS
        have HXS := Aside0.mk (show wrap64 (wrap32 x) = s32 x by unfold wrap64 wrap32 s32; split <;> omega)
        clear hx p4
        go_wp2_with ((with_reducible refine gate_dst (N := 17) rfl ?_); refine wpl_index rfl 88 (.tmp 13) (.tmp 14) rfl (ptr a3) (0 : Nat) [0, 1, 2, 3, 4] (by rw [show (Act.eval _ (.tmp 13)) = V from rfl, HV.out]; rfl) k rfl Try.underlying88 rfl hlt Try.underlying87 rfl size87 ?_; rw [HPT.out])
        rw [show 1 + 4 * (k : Int) = ((1 + 4 * k : Nat) : Int) by omega]
        refine (get_calls _ 64 64 p _ HC2.out HP.out (1 + 4 * k) 4 (by omega) (by omega) (by omega)).mono ?_
        rintro e w6 ⟨rfl, rfl⟩
        rw [← HX.out]
        go_wp2_with fail
        go_roundw
        case rel => exact ⟨k + 1, by omega, by go_num, ⟨by rw [HXS.out]; exact HK.out.put (grown_set _ a3 k _) hb3 (by simp; omega) (by have := Blk.encSet HK.out.head k (s32 x); rw [← HFS.out, HSU.out, HFS.out] at this; exact this)⟩⟩
        case measure => simp [intOf]; omega
      · obtain rfl : k = 5 := by omega
        rw [upTo_fs5] at HK
        have hll := geomLay_length (geomOf p)
        have hlb := geomLay_bytes (geomOf p)
        obtain ⟨m, hm⟩ : ∃ m, m = p.getD 0 0 := ⟨_, rfl⟩
        have HM := Aside0.mk hm
        clear hm
        go_upto_region 10 with (fail)
        by_cases hbad : m ≠ 131
        · have HR := Aside0.mk (geomRead_mark p hr (by rw [← HM.out]; exact hbad))
          have hd1 : (m != 131) = true := by simp; exact hbad
          clear hbad
          refine wp_region_held_drew (S := (fun w' => Keeps w [(a3, 64, geomC (geomOf p)), (a2, 64, geomC geom0), (a1, 28, encs (Value.int .u8) p)] w')) (by kernel_rfl) (by exact HK.out.drew) (fun hHeld => ?_)
          refine wpAnyH_tk (i := 0) (v := ?vz31) 33 rfl rfl (by kernel_rfl) (by kernel_rfl) (by kernel_rfl) (fun _ _ _ h => h) (Or.inl ⟨by rfl, ?yz31⟩) hHeld ?rz31
          case yz31 => (intro w hSw; go_simp; try with_reducible rfl)
          (try simp only [Act.put, List.setIfInBounds_toArray, List.set_cons_zero, List.set_cons_succ])
          refine wpAnyH_tk (i := 1) (v := _) 34 rfl rfl (by kernel_rfl) (by kernel_rfl) (by kernel_rfl) (fun _ _ _ h => h) (yields_cell (by rfl) 5 (.tmp 33) rfl ⟨a1, 0, none⟩ rfl (v := .int .u8 m) (fun _ h => by rw [HM.out]; exact Blk.encAt h.tail.tail.head (0 : Int) 0 (by omega)) Try.underlying5 rfl) hHeld ?_
          (try simp only [Act.put, List.setIfInBounds_toArray, List.set_cons_zero, List.set_cons_succ])
          refine wpAnyH_tk (i := 2) (v := _) 35 rfl rfl (by kernel_rfl) (by kernel_rfl) (by kernel_rfl) (fun _ _ _ h => h) (show YieldsIf Try.prog _ _ _ (.bool true) _ from Or.inl ⟨(by rfl), fun w hSw => by go_simp; try simp [hd1]⟩) hHeld ?_
          (try simp only [Act.put, List.setIfInBounds_toArray, List.set_cons_zero, List.set_cons_succ])
          refine wpAnyH_tk (i := 3) (v := ?vz32) 36 rfl rfl (by kernel_rfl) (by kernel_rfl) (by kernel_rfl) (fun _ _ _ h => h) (Or.inl ⟨by rfl, ?yz32⟩) hHeld ?rz32
          case yz32 => (intro w hSw; go_simp; try with_reducible rfl)
          (try simp only [Act.put, List.setIfInBounds_toArray, List.set_cons_zero, List.set_cons_succ])
          refine wpAnyH_tk (i := 4) (v := undef) 37 rfl rfl (by kernel_rfl) (by kernel_rfl) (by kernel_rfl) (fun _ _ _ h => h) (yields_not (by rfl)) hHeld ?_
          (try simp only [Act.put, List.setIfInBounds_toArray, List.set_cons_zero, List.set_cons_succ])
          refine wpAnyH_tk (i := 5) (v := undef) 38 rfl rfl (by kernel_rfl) (by kernel_rfl) (by kernel_rfl) (fun _ _ _ h => h) (yields_not (by rfl)) hHeld ?_
          (try simp only [Act.put, List.setIfInBounds_toArray, List.set_cons_zero, List.set_cons_succ])
          refine wpAnyH_tk (i := 6) (v := undef) 39 rfl rfl (by kernel_rfl) (by kernel_rfl) (by kernel_rfl) (fun _ _ _ h => h) (yields_not (by rfl)) hHeld ?_
          (try simp only [Act.put, List.setIfInBounds_toArray, List.set_cons_zero, List.set_cons_succ])
          refine wpAnyH_tk (i := 7) (v := ?vz33) 40 rfl rfl (by kernel_rfl) (by kernel_rfl) (by kernel_rfl) (fun _ _ _ h => h) (Or.inl ⟨by rfl, ?yz33⟩) hHeld ?rz33
          case yz33 => (intro w hSw; go_simp; try with_reducible rfl)
          (try simp only [Act.put, List.setIfInBounds_toArray, List.set_cons_zero, List.set_cons_succ])
          refine wpAnyH_tk (i := 8) (v := ?vz34) 41 rfl rfl (by kernel_rfl) (by kernel_rfl) (by kernel_rfl) (fun _ _ _ h => h) (Or.inl ⟨by rfl, ?yz34⟩) hHeld ?rz34
          case yz34 => (intro w hSw; go_simp; try with_reducible rfl)
          (try simp only [Act.put, List.setIfInBounds_toArray, List.set_cons_zero, List.set_cons_succ])
          refine wpAnyH_tk (i := 9) (v := undef) 42 rfl rfl (by kernel_rfl) (by kernel_rfl) (by kernel_rfl) (fun _ _ _ h => h) (yields_not (by rfl)) hHeld ?_
          (try simp only [Act.put, List.setIfInBounds_toArray, List.set_cons_zero, List.set_cons_succ])
          refine wpAnyH_tk (i := 10) (v := undef) 43 rfl rfl (by kernel_rfl) (by kernel_rfl) (by kernel_rfl) (fun _ _ _ h => h) (yields_not (by rfl)) hHeld ?_
          (try simp only [Act.put, List.setIfInBounds_toArray, List.set_cons_zero, List.set_cons_succ])
          refine wpAnyH_tk (i := 11) (v := undef) 44 rfl rfl (by kernel_rfl) (by kernel_rfl) (by kernel_rfl) (fun _ _ _ h => h) (yields_not (by rfl)) hHeld ?_
          (try simp only [Act.put, List.setIfInBounds_toArray, List.set_cons_zero, List.set_cons_succ])
          refine wpAnyH_tk (i := 12) (v := undef) 45 rfl rfl (by kernel_rfl) (by kernel_rfl) (by kernel_rfl) (fun _ _ _ h => h) (yields_not (by rfl)) hHeld ?_
          (try simp only [Act.put, List.setIfInBounds_toArray, List.set_cons_zero, List.set_cons_succ])
          refine wpAnyH_tk (i := 13) (v := ?vz35) 46 rfl rfl (by kernel_rfl) (by kernel_rfl) (by kernel_rfl) (fun _ _ _ h => h) (Or.inl ⟨by rfl, ?yz35⟩) hHeld ?rz35
          case yz35 => (intro w hSw; go_simp; try with_reducible rfl)
          (try simp only [Act.put, List.setIfInBounds_toArray, List.set_cons_zero, List.set_cons_succ])
          refine wpAnyH_done (by kernel_rfl) ?_ _
          skip
          go_wp2_with (first | ((with_reducible refine gate_dst (N := 47) rfl ?_); refine build64z rfl rfl ?_) | ((with_reducible refine gate_store (t := 64) (p := 2) rfl ?_); refine store64 rfl rfl (.tmp 2) (.tmp 47) rfl a2 rfl geom0 rfl hHeld.tail.head ?_; intro w5 h6 h7 h8; have HZ := Aside0.mk (Keeps.put1 hHeld h7 hb2 (by simp; omega) (by simp; omega) h6); clear h6 h7))
          refine bodyPost_ret (results_ct rfl _ _ a2 64 _ (0, 0) _ rfl HZ.out.tail.head Try.underlying64 rfl (size64 geom0)) rfl ?_
          exact ⟨by rw [HR.out]; rfl, HZ.out.below⟩
        · obtain rfl : m = 131 := by omega
          clear hbad
          cases hok : geomOk (geomOf p)
          · have HR := Aside0.mk (geomRead_bad p hr hok)
            refine wp_region_held_drew (S := (fun w' => Keeps w [(a3, 64, geomC (geomOf p)), (a2, 64, geomC geom0), (a1, 28, encs (Value.int .u8) p)] w')) (by kernel_rfl) (by exact HK.out.drew) (fun hHeld => ?_)
            refine wpAnyH_tk (i := 0) (v := ?vz36) 33 rfl rfl (by kernel_rfl) (by kernel_rfl) (by kernel_rfl) (fun _ _ _ h => h) (Or.inl ⟨by rfl, ?yz36⟩) hHeld ?rz36
            case yz36 => (intro w hSw; go_simp; try with_reducible rfl)
            (try simp only [Act.put, List.setIfInBounds_toArray, List.set_cons_zero, List.set_cons_succ])
            refine wpAnyH_tk (i := 1) (v := _) 34 rfl rfl (by kernel_rfl) (by kernel_rfl) (by kernel_rfl) (fun _ _ _ h => h) (yields_cell (by rfl) 5 (.tmp 33) rfl ⟨a1, 0, none⟩ rfl (v := .int .u8 131) (fun _ h => by rw [HM.out]; exact Blk.encAt h.tail.tail.head (0 : Int) 0 (by omega)) Try.underlying5 rfl) hHeld ?_
            (try simp only [Act.put, List.setIfInBounds_toArray, List.set_cons_zero, List.set_cons_succ])
            refine wpAnyH_tk (i := 2) (v := _) 35 rfl rfl (by kernel_rfl) (by kernel_rfl) (by kernel_rfl) (fun _ _ _ h => h) (show YieldsIf Try.prog _ _ _ (.bool false) _ from Or.inl ⟨(by rfl), fun w hSw => by go_simp; try rfl⟩) hHeld ?_
            (try simp only [Act.put, List.setIfInBounds_toArray, List.set_cons_zero, List.set_cons_succ])
            refine wpAnyH_tk (i := 3) (v := ?vz37) 36 rfl rfl (by kernel_rfl) (by kernel_rfl) (by kernel_rfl) (fun _ _ _ h => h) (Or.inl ⟨by rfl, ?yz37⟩) hHeld ?rz37
            case yz37 => (intro w hSw; go_simp; try with_reducible rfl)
            (try simp only [Act.put, List.setIfInBounds_toArray, List.set_cons_zero, List.set_cons_succ])
            refine wpAnyH_tk (i := 4) (v := _) 37 rfl rfl (by kernel_rfl) (by kernel_rfl) (by kernel_rfl) (fun _ _ _ h => h) (yields_load (by rfl) 64 (.tmp 4) rfl a3 rfl (fun _ h => h.head) Try.underlying64 rfl (size64 _)) hHeld ?_
            (try simp only [Act.put, List.setIfInBounds_toArray, List.set_cons_zero, List.set_cons_succ])
            refine wpAnyH_one (i := 5) (by kernel_rfl) rfl (fun K hK => ?_)
            go_simp
            go_wp2_with ((go_at_call 63; refine (right_calls _ (geomOf p)).mono ?_; rintro e wx ⟨rfl, hb⟩; rw [hok]; have hHX := hHeld.step hb))
            refine hK.out _ _ (by exact hHX) (fun hHeld => ?_)
            clear hK K
            refine wpAnyH_tk (i := 6) (v := ?vz38) 39 rfl rfl (by kernel_rfl) (by kernel_rfl) (by kernel_rfl) (fun _ _ _ h => h) (Or.inl ⟨by rfl, ?yz38⟩) hHeld ?rz38
            case yz38 => (intro w hSw; go_simp; try with_reducible rfl)
            (try simp only [Act.put, List.setIfInBounds_toArray, List.set_cons_zero, List.set_cons_succ])
            refine wpAnyH_tk (i := 7) (v := ?vz39) 40 rfl rfl (by kernel_rfl) (by kernel_rfl) (by kernel_rfl) (fun _ _ _ h => h) (Or.inl ⟨by rfl, ?yz39⟩) hHeld ?rz39
            case yz39 => (intro w hSw; go_simp; try with_reducible rfl)
            (try simp only [Act.put, List.setIfInBounds_toArray, List.set_cons_zero, List.set_cons_succ])
            refine wpAnyH_tk (i := 8) (v := ?vz40) 41 rfl rfl (by kernel_rfl) (by kernel_rfl) (by kernel_rfl) (fun _ _ _ h => h) (Or.inl ⟨by rfl, ?yz40⟩) hHeld ?rz40
            case yz40 => (intro w hSw; go_simp; try with_reducible rfl)
            (try simp only [Act.put, List.setIfInBounds_toArray, List.set_cons_zero, List.set_cons_succ])
            refine wpAnyH_tk (i := 9) (v := undef) 42 rfl rfl (by kernel_rfl) (by kernel_rfl) (by kernel_rfl) (fun _ _ _ h => h) (yields_not (by rfl)) hHeld ?_
            (try simp only [Act.put, List.setIfInBounds_toArray, List.set_cons_zero, List.set_cons_succ])
            refine wpAnyH_tk (i := 10) (v := undef) 43 rfl rfl (by kernel_rfl) (by kernel_rfl) (by kernel_rfl) (fun _ _ _ h => h) (yields_not (by rfl)) hHeld ?_
            (try simp only [Act.put, List.setIfInBounds_toArray, List.set_cons_zero, List.set_cons_succ])
            refine wpAnyH_tk (i := 11) (v := undef) 44 rfl rfl (by kernel_rfl) (by kernel_rfl) (by kernel_rfl) (fun _ _ _ h => h) (yields_not (by rfl)) hHeld ?_
            (try simp only [Act.put, List.setIfInBounds_toArray, List.set_cons_zero, List.set_cons_succ])
            refine wpAnyH_tk (i := 12) (v := undef) 45 rfl rfl (by kernel_rfl) (by kernel_rfl) (by kernel_rfl) (fun _ _ _ h => h) (yields_not (by rfl)) hHeld ?_
            (try simp only [Act.put, List.setIfInBounds_toArray, List.set_cons_zero, List.set_cons_succ])
            refine wpAnyH_tk (i := 13) (v := ?vz41) 46 rfl rfl (by kernel_rfl) (by kernel_rfl) (by kernel_rfl) (fun _ _ _ h => h) (Or.inl ⟨by rfl, ?yz41⟩) hHeld ?rz41
            case yz41 => (intro w hSw; go_simp; try with_reducible rfl)
            (try simp only [Act.put, List.setIfInBounds_toArray, List.set_cons_zero, List.set_cons_succ])
            refine wpAnyH_done (by kernel_rfl) ?_ _
            skip
            go_wp2_with (first | ((with_reducible refine gate_dst (N := 47) rfl ?_); refine build64z rfl rfl ?_) | ((with_reducible refine gate_store (t := 64) (p := 2) rfl ?_); refine store64 rfl rfl (.tmp 2) (.tmp 47) rfl a2 rfl geom0 rfl hHeld.tail.head ?_; intro w5 h6 h7 h8; have HZ := Aside0.mk (Keeps.put1 hHeld h7 hb2 (by simp; omega) (by simp; omega) h6); clear h6 h7))
            refine bodyPost_ret (results_ct rfl _ _ a2 64 _ (0, 0) _ rfl HZ.out.tail.head Try.underlying64 rfl (size64 geom0)) rfl ?_
            exact ⟨by rw [HR.out]; rfl, HZ.out.below⟩
          · obtain ⟨b, hbd⟩ : ∃ b, b = decide (geomLay (geomOf p) = p) := ⟨_, rfl⟩
            have HR := Aside0.mk (geomRead_if p hr b hok hbd)
            have HE := Aside0.mk (eq28 hll hl hlb HP.out)
            rw [← hbd] at HE
            clear hbd
            refine wp_region_held_drew (S := (fun w' => Keeps w [(a3, 64, geomC (geomOf p)), (a2, 64, geomC geom0), (a1, 28, encs (Value.int .u8) p)] w')) (by kernel_rfl) (by exact HK.out.drew) (fun hHeld => ?_)
            refine wpAnyH_tk (i := 0) (v := ?vz42) 33 rfl rfl (by kernel_rfl) (by kernel_rfl) (by kernel_rfl) (fun _ _ _ h => h) (Or.inl ⟨by rfl, ?yz42⟩) hHeld ?rz42
            case yz42 => (intro w hSw; go_simp; try with_reducible rfl)
            (try simp only [Act.put, List.setIfInBounds_toArray, List.set_cons_zero, List.set_cons_succ])
            refine wpAnyH_tk (i := 1) (v := _) 34 rfl rfl (by kernel_rfl) (by kernel_rfl) (by kernel_rfl) (fun _ _ _ h => h) (yields_cell (by rfl) 5 (.tmp 33) rfl ⟨a1, 0, none⟩ rfl (v := .int .u8 131) (fun _ h => by rw [HM.out]; exact Blk.encAt h.tail.tail.head (0 : Int) 0 (by omega)) Try.underlying5 rfl) hHeld ?_
            (try simp only [Act.put, List.setIfInBounds_toArray, List.set_cons_zero, List.set_cons_succ])
            refine wpAnyH_tk (i := 2) (v := _) 35 rfl rfl (by kernel_rfl) (by kernel_rfl) (by kernel_rfl) (fun _ _ _ h => h) (show YieldsIf Try.prog _ _ _ (.bool false) _ from Or.inl ⟨(by rfl), fun w hSw => by go_simp; try rfl⟩) hHeld ?_
            (try simp only [Act.put, List.setIfInBounds_toArray, List.set_cons_zero, List.set_cons_succ])
            refine wpAnyH_tk (i := 3) (v := ?vz43) 36 rfl rfl (by kernel_rfl) (by kernel_rfl) (by kernel_rfl) (fun _ _ _ h => h) (Or.inl ⟨by rfl, ?yz43⟩) hHeld ?rz43
            case yz43 => (intro w hSw; go_simp; try with_reducible rfl)
            (try simp only [Act.put, List.setIfInBounds_toArray, List.set_cons_zero, List.set_cons_succ])
            refine wpAnyH_tk (i := 4) (v := _) 37 rfl rfl (by kernel_rfl) (by kernel_rfl) (by kernel_rfl) (fun _ _ _ h => h) (yields_load (by rfl) 64 (.tmp 4) rfl a3 rfl (fun _ h => h.head) Try.underlying64 rfl (size64 _)) hHeld ?_
            (try simp only [Act.put, List.setIfInBounds_toArray, List.set_cons_zero, List.set_cons_succ])
            refine wpAnyH_one (i := 5) (by kernel_rfl) rfl (fun K hK => ?_)
            go_simp
            go_wp2_with ((go_at_call 63; refine (right_calls _ (geomOf p)).mono ?_; rintro e wx ⟨rfl, hb⟩; rw [hok]; have hHX := hHeld.step hb))
            refine hK.out _ _ (by exact hHX) (fun hHeld => ?_)
            clear hK K
            refine wpAnyH_tk (i := 6) (v := ?vz44) 39 rfl rfl (by kernel_rfl) (by kernel_rfl) (by kernel_rfl) (fun _ _ _ h => h) (Or.inl ⟨by rfl, ?yz44⟩) hHeld ?rz44
            case yz44 => (intro w hSw; go_simp; try with_reducible rfl)
            (try simp only [Act.put, List.setIfInBounds_toArray, List.set_cons_zero, List.set_cons_succ])
            refine wpAnyH_tk (i := 7) (v := ?vz45) 40 rfl rfl (by kernel_rfl) (by kernel_rfl) (by kernel_rfl) (fun _ _ _ h => h) (Or.inl ⟨by rfl, ?yz45⟩) hHeld ?rz45
            case yz45 => (intro w hSw; go_simp; try with_reducible rfl)
            (try simp only [Act.put, List.setIfInBounds_toArray, List.set_cons_zero, List.set_cons_succ])
            refine wpAnyH_tk (i := 8) (v := ?vz46) 41 rfl rfl (by kernel_rfl) (by kernel_rfl) (by kernel_rfl) (fun _ _ _ h => h) (Or.inl ⟨by rfl, ?yz46⟩) hHeld ?rz46
            case yz46 => (intro w hSw; go_simp; try with_reducible rfl)
            (try simp only [Act.put, List.setIfInBounds_toArray, List.set_cons_zero, List.set_cons_succ])
            refine wpAnyH_tk (i := 9) (v := _) 42 rfl rfl (by kernel_rfl) (by kernel_rfl) (by kernel_rfl) (fun _ _ _ h => h) (yields_load (by rfl) 64 (.tmp 4) rfl a3 rfl (fun _ h => h.head) Try.underlying64 rfl (size64 _)) hHeld ?_
            (try simp only [Act.put, List.setIfInBounds_toArray, List.set_cons_zero, List.set_cons_succ])
            refine wpAnyH_tk (i := 11) (v := _) 44 rfl rfl (by kernel_rfl) (by kernel_rfl) (by kernel_rfl) (fun _ _ _ h => h) (yields_load (by rfl) 28 (.tmp 1) rfl a1 rfl (fun _ h => h.tail.tail.head) Try.underlying28 rfl (size28' hl)) hHeld ?_
            (try simp only [Act.put, List.setIfInBounds_toArray, List.set_cons_zero, List.set_cons_succ])
            refine wpAnyH_one (i := 10) (by kernel_rfl) rfl (fun K hK => ?_)
            go_simp
            go_wp2_with ((go_at_call 44; refine (lay_calls _ (geomOf p) (geomOf_fits HP.out hok)).mono ?_; rintro e wx ⟨rfl, hb⟩; have hHX := hHeld.step hb))
            refine hK.out _ _ (by exact hHX) (fun hHeld => ?_)
            clear hK K
            refine wpAnyH_tk (i := 12) (v := _) 45 rfl rfl (by kernel_rfl) (by kernel_rfl) (by kernel_rfl) (fun _ _ _ h => h) (yields_neq (by rfl) 28 28 (.tmp 43) (.tmp 44) rfl (encs (Value.int .u8) (geomLay (geomOf p))) (encs (Value.int .u8) p) rfl rfl b HE.out eqg28 rfl) hHeld ?_
            (try simp only [Act.put, List.setIfInBounds_toArray, List.set_cons_zero, List.set_cons_succ])
            refine wpAnyH_tk (i := 13) (v := ?vz47) 46 rfl rfl (by kernel_rfl) (by kernel_rfl) (by kernel_rfl) (fun _ _ _ h => h) (Or.inl ⟨by rfl, ?yz47⟩) hHeld ?rz47
            case yz47 => (intro w hSw; go_simp; try with_reducible rfl)
            (try simp only [Act.put, List.setIfInBounds_toArray, List.set_cons_zero, List.set_cons_succ])
            refine wpAnyH_done (by kernel_rfl) ?_ _
            skip
            cases b
            · go_wp2_with (first | ((with_reducible refine gate_dst (N := 47) rfl ?_); refine build64z rfl rfl ?_) | ((with_reducible refine gate_store (t := 64) (p := 2) rfl ?_); refine store64 rfl rfl (.tmp 2) (.tmp 47) rfl a2 rfl geom0 rfl hHeld.tail.head ?_; intro w5 h6 h7 h8; have HZ := Aside0.mk (Keeps.put1 hHeld h7 hb2 (by simp; omega) (by simp; omega) h6); clear h6 h7))
              refine bodyPost_ret (results_ct rfl _ _ a2 64 _ (0, 0) _ rfl HZ.out.tail.head Try.underlying64 rfl (size64 geom0)) rfl ?_
              exact ⟨by rw [HR.out]; rfl, HZ.out.below⟩
            · go_wp2_with (first | ((with_reducible refine gate_dst (N := 48) rfl ?_); refine load64 rfl (.tmp 4) rfl a3 rfl hHeld.head ?_) | ((with_reducible refine gate_store (t := 64) (p := 2) rfl ?_); refine store64 rfl rfl (.tmp 2) (.tmp 48) rfl a2 rfl (geomOf p) rfl hHeld.tail.head ?_; intro w5 h6 h7 h8; have HZ := Aside0.mk (Keeps.put1 hHeld h7 hb2 (by simp; omega) (by simp; omega) h6); clear h6 h7))
              refine bodyPost_ret (results_ct rfl _ _ a2 64 _ (0, 0) _ rfl HZ.out.tail.head Try.underlying64 rfl (size64 (geomOf p))) rfl ?_
              exact ⟨by rw [HR.out]; rfl, HZ.out.below⟩
  · have hr0 : rightB p = false := by simpa using hr
    have hrd : geomRead p = (geom0, 8) := by unfold geomRead; rw [if_neg hr]
    rw [hr0]
    go_wp2_with (first | ((with_reducible refine gate_dst (N := 12) rfl ?_); refine build64z rfl rfl ?_) | ((with_reducible refine gate_store (t := 64) (p := 2) rfl ?_); refine store64 rfl rfl (.tmp 2) (.tmp 12) rfl a2 rfl geom0 rfl H2.out.head ?_; intro w4 h6 h7 h8; have H3 := Aside0.mk (H2.out.put h7 hb2 (by simp; omega) h6); clear h6 h7))
    refine bodyPost_ret (results_ct rfl _ _ a2 64 _ (0, 0) _ rfl H3.out.head Try.underlying64 rfl (size64 geom0)) rfl ?_
    exact ⟨by rw [hrd]; rfl, H3.out.below⟩
end Go.Proofs.Ytmkkkenpjealdaa.GeomWalks
/-! The walks of layer 8's reference: a sector read as a measure. -/
namespace Go.Proofs.Ytmkkkenpjealdaa.GeomWalks
set_option linter.unusedSimpArgs false
set_option linter.unusedVariables false
open Go.RowKit Go.Proofs.YtmkkkenpjealdaaW.PrintWords Go.Proofs.YtmkkkenpjealdaaW.PrintLast Go.Proofs.YtmkkkenpjealdaaW.PrintMore PlainWord CrcPlain PlainSec CrcMem CrcWalks CrcRef Arr SecWord SecMem SecRef LeafWalks RecWalks MastWalks

theorem refGeomOf_wf {p : List Int} (hp : Bytes p) : geomWf (refGeomOf p) := by
  have p4 : (256 : Int) ^ 4 = 4294967296 := by decide
  have hb : ∀ a, i64Ok (getN p a 4) := fun a => by have := getN_bound hp a 4; exact i64_of (by omega) (by omega)
  exact ⟨hb _, hb _, hb _, hb _, hb _⟩
set_option maxRecDepth 10000 in
set_option maxHeartbeats 4000000 in
theorem refread_calls (w : World) (p : List Int) (hp : Bytes p) (hl : p.length = 64) : Calls Try.prog 42 #[.agg (encs (Value.int .u8) p).toArray] w fun e w' => e = .returned (.tuple #[.agg (geomC (geomRead p).1).toArray, .int .i64 (geomRead p).2]) ∧ Below w.heap.size w w' := by
  have HW := Aside0.mk (Keeps.refl w)
  have HP := Aside0.mk hp
  clear hp
  go_enter Try.func42, Try.ntmps42
  go_wp2_with (first | ((with_reducible refine gate_dst (N := 1) rfl ?_); refine box28 rfl (.tmp 0) rfl p rfl ?_; intro w1 a1 h1 h2 h3; have H1 := Aside0.mk (HW.out.new h3 h2); clear h2 h3) | ((with_reducible refine gate_dst (N := 2) rfl ?_); refine alloc64 rfl rfl ?_; intro w2 a2 h4 h5 h6; have H2 := Aside0.mk (H1.out.new h6 h5); clear h5 h6) | ((with_reducible refine gate_dst (N := 5) rfl ?_); refine load28 rfl (.tmp 1) rfl a1 rfl H2.out.tail.head hl ?_))
  have hb2 : w.heap.size ≤ a2 := by have := H1.out.size; omega
  have hne : a1 ≠ a2 := by have := H1.out.head.lt; omega
  refine (summed_calls _ p HP.out hl).mono ?_
  rintro e w3 ⟨rfl, h7⟩
  have H3 := Aside0.mk (H2.out.step h7)
  clear h7 H2 H1
  by_cases hr : rightB p = true
  · rw [hr]
    have HH := Aside0.mk (show refGeomOf p = ⟨numL p ((1 : Nat) : Int) 4, numL p ((5 : Nat) : Int) 4, numL p ((9 : Nat) : Int) 4, numL p ((13 : Nat) : Int) 4, numL p ((17 : Nat) : Int) 4⟩ by rw [numL_small p HP.out, numL_small p HP.out, numL_small p HP.out, numL_small p HP.out, numL_small p HP.out]; rfl)
    go_upto_region 3 with (fail)
    go_cut [4] from 9 to 19 (fun v wc => ∃ a3, v = .pointer (some ⟨a3, 0, none⟩) ∧ w.heap.size ≤ a3 ∧ a1 ≠ a3 ∧ a2 ≠ a3 ∧ Aside0 (Keeps w [(a3, 64, geomC (refGeomOf p)), (a2, 64, geomC geom0), (a1, 28, encs (Value.int .u8) p)] wc))
    case first =>
      refine wp_region_held_drew (S := (fun w' => Keeps w [(a2, 64, geomC geom0), (a1, 28, encs (Value.int .u8) p)] w')) (by kernel_rfl) (by exact H3.out.drew) (fun hHeld => ?_)
      refine wpAnyH_tk (i := 0) (v := _) 9 rfl rfl (by kernel_rfl) (by kernel_rfl) (by kernel_rfl) (fun _ _ _ h => h) (yields_load (by rfl) 28 (.tmp 1) rfl a1 rfl (fun _ h => h.tail.head) Try.underlying28 rfl (size28' hl)) hHeld ?_
      (try simp only [Act.put, List.setIfInBounds_toArray, List.set_cons_zero, List.set_cons_succ])
      refine wpAnyH_tk (i := 2) (v := _) 11 rfl rfl (by kernel_rfl) (by kernel_rfl) (by kernel_rfl) (fun _ _ _ h => h) (yields_load (by rfl) 28 (.tmp 1) rfl a1 rfl (fun _ h => h.tail.head) Try.underlying28 rfl (size28' hl)) hHeld ?_
      (try simp only [Act.put, List.setIfInBounds_toArray, List.set_cons_zero, List.set_cons_succ])
      refine wpAnyH_tk (i := 4) (v := _) 13 rfl rfl (by kernel_rfl) (by kernel_rfl) (by kernel_rfl) (fun _ _ _ h => h) (yields_load (by rfl) 28 (.tmp 1) rfl a1 rfl (fun _ h => h.tail.head) Try.underlying28 rfl (size28' hl)) hHeld ?_
      (try simp only [Act.put, List.setIfInBounds_toArray, List.set_cons_zero, List.set_cons_succ])
      refine wpAnyH_tk (i := 6) (v := _) 15 rfl rfl (by kernel_rfl) (by kernel_rfl) (by kernel_rfl) (fun _ _ _ h => h) (yields_load (by rfl) 28 (.tmp 1) rfl a1 rfl (fun _ h => h.tail.head) Try.underlying28 rfl (size28' hl)) hHeld ?_
      (try simp only [Act.put, List.setIfInBounds_toArray, List.set_cons_zero, List.set_cons_succ])
      refine wpAnyH_tk (i := 8) (v := _) 17 rfl rfl (by kernel_rfl) (by kernel_rfl) (by kernel_rfl) (fun _ _ _ h => h) (yields_load (by rfl) 28 (.tmp 1) rfl a1 rfl (fun _ h => h.tail.head) Try.underlying28 rfl (size28' hl)) hHeld ?_
      (try simp only [Act.put, List.setIfInBounds_toArray, List.set_cons_zero, List.set_cons_succ])
      refine wpAnyH_ready (rs := [1, 11]) (by kernel_rfl) (by simp) (AllReadyH.cons rfl (fun K hK => ?_) (AllReadyH.cons rfl (fun K hK => ?_) AllReadyH.nil))
      · skip
        go_simp
        go_wp2_with ((go_at_call 54; refine (num54 _ p HP.out hl 1 4 (by omega) (by omega)).mono ?_; rintro e wx ⟨rfl, hb⟩; (try replace hA := hA.below' hb); have hHX := hHeld.step hb))
        refine hK.out _ _ (by exact hHX) (fun hHeld => ?_)
        clear hK K
        refine wpAnyH_ready (rs := [3, 11]) (by kernel_rfl) (by simp) (AllReadyH.cons rfl (fun K hK => ?_) (AllReadyH.cons rfl (fun K hK => ?_) AllReadyH.nil))
        · skip
          go_simp
          go_wp2_with ((go_at_call 54; refine (num54 _ p HP.out hl 5 4 (by omega) (by omega)).mono ?_; rintro e wx ⟨rfl, hb⟩; (try replace hA := hA.below' hb); have hHX := hHeld.step hb))
          refine hK.out _ _ (by exact hHX) (fun hHeld => ?_)
          clear hK K
          refine wpAnyH_ready (rs := [5, 11]) (by kernel_rfl) (by simp) (AllReadyH.cons rfl (fun K hK => ?_) (AllReadyH.cons rfl (fun K hK => ?_) AllReadyH.nil))
          · skip
            go_simp
            go_wp2_with ((go_at_call 54; refine (num54 _ p HP.out hl 9 4 (by omega) (by omega)).mono ?_; rintro e wx ⟨rfl, hb⟩; (try replace hA := hA.below' hb); have hHX := hHeld.step hb))
            refine hK.out _ _ (by exact hHX) (fun hHeld => ?_)
            clear hK K
            refine wpAnyH_ready (rs := [7, 11]) (by kernel_rfl) (by simp) (AllReadyH.cons rfl (fun K hK => ?_) (AllReadyH.cons rfl (fun K hK => ?_) AllReadyH.nil))
            · skip
              go_simp
              go_wp2_with ((go_at_call 54; refine (num54 _ p HP.out hl 13 4 (by omega) (by omega)).mono ?_; rintro e wx ⟨rfl, hb⟩; (try replace hA := hA.below' hb); have hHX := hHeld.step hb))
              refine hK.out _ _ (by exact hHX) (fun hHeld => ?_)
              clear hK K
              refine wpAnyH_ready (rs := [9, 11]) (by kernel_rfl) (by simp) (AllReadyH.cons rfl (fun K hK => ?_) (AllReadyH.cons rfl (fun K hK => ?_) AllReadyH.nil))
              · skip
                go_simp
                go_wp2_with ((go_at_call 54; refine (num54 _ p HP.out hl 17 4 (by omega) (by omega)).mono ?_; rintro e wx ⟨rfl, hb⟩; (try replace hA := hA.below' hb); have hHX := hHeld.step hb))
                refine hK.out _ _ (by exact hHX) (fun hHeld => ?_)
                clear hK K
                refine wpAnyH_tk (i := 10) (v := _) 19 rfl rfl (by kernel_rfl) (by kernel_rfl) (by kernel_rfl) (fun _ _ _ h => h) (yields_build64 (by rfl) (.tmp 10) (.tmp 12) (.tmp 14) (.tmp 16) (.tmp 18) rfl _ _ _ _ _ rfl rfl rfl rfl rfl) hHeld ?_
                (try simp only [Act.put, List.setIfInBounds_toArray, List.set_cons_zero, List.set_cons_succ])
                refine wpAnyH_one (i := 11) (by kernel_rfl) rfl (fun K hK => ?_)
                rw [if_pos (by rfl)]
                refine step_alloc64 4 rfl rfl ?_; intro wx a3 hg hA hgr; have hHX := hHeld.fresh hgr; have hb3 : w.heap.size ≤ a3 := Nat.le_trans hHeld.size hg; have hn1 : a1 ≠ a3 := (by have := hHeld.tail.head.lt; omega); have hn2 : a2 ≠ a3 := (by have := hHeld.head.lt; omega); clear hgr hg
                refine hK.out _ _ (by exact hHX) (fun hHeld => ?_)
                clear hK K
                (try simp only [Act.put, List.setIfInBounds_toArray, List.set_cons_zero, List.set_cons_succ])
                refine wpAnyH_one (i := 12) (by kernel_rfl) rfl (fun K hK => ?_)
                rw [if_pos (by rfl)]
                refine step_store64 rfl (.tmp 4) (.tmp 19) rfl a3 rfl (refGeomOf p) (by rw [HH.out]; rfl) hA ?_; intro wx hA2 hgr hsz; have hHX := hHeld.grown hgr hb3 (by simp; omega)
                refine hK.out _ _ (by exact hHX) (fun hHeld => ?_)
                clear hK K
                (try simp only [Act.put, List.setIfInBounds_toArray, List.set_cons_zero, List.set_cons_succ])
                refine wpAnyH_done (by kernel_rfl) ?_ _
                (go_wp2_with fail; go_meet; case rel => exact ⟨a3, rfl, hb3, hn1, hn2, ⟨hHX.cons hA2⟩⟩)
              · skip
                rw [if_pos (by rfl)]
                refine step_alloc64 4 rfl rfl ?_; intro wx a3 hg hA hgr; have hHX := hHeld.fresh hgr; have hb3 : w.heap.size ≤ a3 := Nat.le_trans hHeld.size hg; have hn1 : a1 ≠ a3 := (by have := hHeld.tail.head.lt; omega); have hn2 : a2 ≠ a3 := (by have := hHeld.head.lt; omega); clear hgr hg
                refine hK.out _ _ (by exact hHX) (fun hHeld => ?_)
                clear hK K
                (try simp only [Act.put, List.setIfInBounds_toArray, List.set_cons_zero, List.set_cons_succ])
                refine wpAnyH_one (i := 9) (by kernel_rfl) rfl (fun K hK => ?_)
                go_simp
                go_wp2_with ((go_at_call 54; refine (num54 _ p HP.out hl 17 4 (by omega) (by omega)).mono ?_; rintro e wx ⟨rfl, hb⟩; (try replace hA := hA.below' hb); have hHX := hHeld.step hb))
                refine hK.out _ _ (by exact hHX) (fun hHeld => ?_)
                clear hK K
                refine wpAnyH_tk (i := 10) (v := _) 19 rfl rfl (by kernel_rfl) (by kernel_rfl) (by kernel_rfl) (fun _ _ _ h => h) (yields_build64 (by rfl) (.tmp 10) (.tmp 12) (.tmp 14) (.tmp 16) (.tmp 18) rfl _ _ _ _ _ rfl rfl rfl rfl rfl) hHeld ?_
                (try simp only [Act.put, List.setIfInBounds_toArray, List.set_cons_zero, List.set_cons_succ])
                refine wpAnyH_one (i := 12) (by kernel_rfl) rfl (fun K hK => ?_)
                rw [if_pos (by rfl)]
                refine step_store64 rfl (.tmp 4) (.tmp 19) rfl a3 rfl (refGeomOf p) (by rw [HH.out]; rfl) hA ?_; intro wx hA2 hgr hsz; have hHX := hHeld.grown hgr hb3 (by simp; omega)
                refine hK.out _ _ (by exact hHX) (fun hHeld => ?_)
                clear hK K
                (try simp only [Act.put, List.setIfInBounds_toArray, List.set_cons_zero, List.set_cons_succ])
                refine wpAnyH_done (by kernel_rfl) ?_ _
                (go_wp2_with fail; go_meet; case rel => exact ⟨a3, rfl, hb3, hn1, hn2, ⟨hHX.cons hA2⟩⟩)
            · skip
              rw [if_pos (by rfl)]
              refine step_alloc64 4 rfl rfl ?_; intro wx a3 hg hA hgr; have hHX := hHeld.fresh hgr; have hb3 : w.heap.size ≤ a3 := Nat.le_trans hHeld.size hg; have hn1 : a1 ≠ a3 := (by have := hHeld.tail.head.lt; omega); have hn2 : a2 ≠ a3 := (by have := hHeld.head.lt; omega); clear hgr hg
              refine hK.out _ _ (by exact hHX) (fun hHeld => ?_)
              clear hK K
              (try simp only [Act.put, List.setIfInBounds_toArray, List.set_cons_zero, List.set_cons_succ])
              refine wpAnyH_one (i := 7) (by kernel_rfl) rfl (fun K hK => ?_)
              go_simp
              go_wp2_with ((go_at_call 54; refine (num54 _ p HP.out hl 13 4 (by omega) (by omega)).mono ?_; rintro e wx ⟨rfl, hb⟩; (try replace hA := hA.below' hb); have hHX := hHeld.step hb))
              refine hK.out _ _ (by exact hHX) (fun hHeld => ?_)
              clear hK K
              refine wpAnyH_one (i := 9) (by kernel_rfl) rfl (fun K hK => ?_)
              go_simp
              go_wp2_with ((go_at_call 54; refine (num54 _ p HP.out hl 17 4 (by omega) (by omega)).mono ?_; rintro e wx ⟨rfl, hb⟩; (try replace hA := hA.below' hb); have hHX := hHeld.step hb))
              refine hK.out _ _ (by exact hHX) (fun hHeld => ?_)
              clear hK K
              refine wpAnyH_tk (i := 10) (v := _) 19 rfl rfl (by kernel_rfl) (by kernel_rfl) (by kernel_rfl) (fun _ _ _ h => h) (yields_build64 (by rfl) (.tmp 10) (.tmp 12) (.tmp 14) (.tmp 16) (.tmp 18) rfl _ _ _ _ _ rfl rfl rfl rfl rfl) hHeld ?_
              (try simp only [Act.put, List.setIfInBounds_toArray, List.set_cons_zero, List.set_cons_succ])
              refine wpAnyH_one (i := 12) (by kernel_rfl) rfl (fun K hK => ?_)
              rw [if_pos (by rfl)]
              refine step_store64 rfl (.tmp 4) (.tmp 19) rfl a3 rfl (refGeomOf p) (by rw [HH.out]; rfl) hA ?_; intro wx hA2 hgr hsz; have hHX := hHeld.grown hgr hb3 (by simp; omega)
              refine hK.out _ _ (by exact hHX) (fun hHeld => ?_)
              clear hK K
              (try simp only [Act.put, List.setIfInBounds_toArray, List.set_cons_zero, List.set_cons_succ])
              refine wpAnyH_done (by kernel_rfl) ?_ _
              (go_wp2_with fail; go_meet; case rel => exact ⟨a3, rfl, hb3, hn1, hn2, ⟨hHX.cons hA2⟩⟩)
          · skip
            rw [if_pos (by rfl)]
            refine step_alloc64 4 rfl rfl ?_; intro wx a3 hg hA hgr; have hHX := hHeld.fresh hgr; have hb3 : w.heap.size ≤ a3 := Nat.le_trans hHeld.size hg; have hn1 : a1 ≠ a3 := (by have := hHeld.tail.head.lt; omega); have hn2 : a2 ≠ a3 := (by have := hHeld.head.lt; omega); clear hgr hg
            refine hK.out _ _ (by exact hHX) (fun hHeld => ?_)
            clear hK K
            (try simp only [Act.put, List.setIfInBounds_toArray, List.set_cons_zero, List.set_cons_succ])
            refine wpAnyH_one (i := 5) (by kernel_rfl) rfl (fun K hK => ?_)
            go_simp
            go_wp2_with ((go_at_call 54; refine (num54 _ p HP.out hl 9 4 (by omega) (by omega)).mono ?_; rintro e wx ⟨rfl, hb⟩; (try replace hA := hA.below' hb); have hHX := hHeld.step hb))
            refine hK.out _ _ (by exact hHX) (fun hHeld => ?_)
            clear hK K
            refine wpAnyH_one (i := 7) (by kernel_rfl) rfl (fun K hK => ?_)
            go_simp
            go_wp2_with ((go_at_call 54; refine (num54 _ p HP.out hl 13 4 (by omega) (by omega)).mono ?_; rintro e wx ⟨rfl, hb⟩; (try replace hA := hA.below' hb); have hHX := hHeld.step hb))
            refine hK.out _ _ (by exact hHX) (fun hHeld => ?_)
            clear hK K
            refine wpAnyH_one (i := 9) (by kernel_rfl) rfl (fun K hK => ?_)
            go_simp
            go_wp2_with ((go_at_call 54; refine (num54 _ p HP.out hl 17 4 (by omega) (by omega)).mono ?_; rintro e wx ⟨rfl, hb⟩; (try replace hA := hA.below' hb); have hHX := hHeld.step hb))
            refine hK.out _ _ (by exact hHX) (fun hHeld => ?_)
            clear hK K
            refine wpAnyH_tk (i := 10) (v := _) 19 rfl rfl (by kernel_rfl) (by kernel_rfl) (by kernel_rfl) (fun _ _ _ h => h) (yields_build64 (by rfl) (.tmp 10) (.tmp 12) (.tmp 14) (.tmp 16) (.tmp 18) rfl _ _ _ _ _ rfl rfl rfl rfl rfl) hHeld ?_
            (try simp only [Act.put, List.setIfInBounds_toArray, List.set_cons_zero, List.set_cons_succ])
            refine wpAnyH_one (i := 12) (by kernel_rfl) rfl (fun K hK => ?_)
            rw [if_pos (by rfl)]
            refine step_store64 rfl (.tmp 4) (.tmp 19) rfl a3 rfl (refGeomOf p) (by rw [HH.out]; rfl) hA ?_; intro wx hA2 hgr hsz; have hHX := hHeld.grown hgr hb3 (by simp; omega)
            refine hK.out _ _ (by exact hHX) (fun hHeld => ?_)
            clear hK K
            (try simp only [Act.put, List.setIfInBounds_toArray, List.set_cons_zero, List.set_cons_succ])
            refine wpAnyH_done (by kernel_rfl) ?_ _
            (go_wp2_with fail; go_meet; case rel => exact ⟨a3, rfl, hb3, hn1, hn2, ⟨hHX.cons hA2⟩⟩)
        · skip
          rw [if_pos (by rfl)]
          refine step_alloc64 4 rfl rfl ?_; intro wx a3 hg hA hgr; have hHX := hHeld.fresh hgr; have hb3 : w.heap.size ≤ a3 := Nat.le_trans hHeld.size hg; have hn1 : a1 ≠ a3 := (by have := hHeld.tail.head.lt; omega); have hn2 : a2 ≠ a3 := (by have := hHeld.head.lt; omega); clear hgr hg
          refine hK.out _ _ (by exact hHX) (fun hHeld => ?_)
          clear hK K
          (try simp only [Act.put, List.setIfInBounds_toArray, List.set_cons_zero, List.set_cons_succ])
          refine wpAnyH_one (i := 3) (by kernel_rfl) rfl (fun K hK => ?_)
          go_simp
          go_wp2_with ((go_at_call 54; refine (num54 _ p HP.out hl 5 4 (by omega) (by omega)).mono ?_; rintro e wx ⟨rfl, hb⟩; (try replace hA := hA.below' hb); have hHX := hHeld.step hb))
          refine hK.out _ _ (by exact hHX) (fun hHeld => ?_)
          clear hK K
          refine wpAnyH_one (i := 5) (by kernel_rfl) rfl (fun K hK => ?_)
          go_simp
          go_wp2_with ((go_at_call 54; refine (num54 _ p HP.out hl 9 4 (by omega) (by omega)).mono ?_; rintro e wx ⟨rfl, hb⟩; (try replace hA := hA.below' hb); have hHX := hHeld.step hb))
          refine hK.out _ _ (by exact hHX) (fun hHeld => ?_)
          clear hK K
          refine wpAnyH_one (i := 7) (by kernel_rfl) rfl (fun K hK => ?_)
          go_simp
          go_wp2_with ((go_at_call 54; refine (num54 _ p HP.out hl 13 4 (by omega) (by omega)).mono ?_; rintro e wx ⟨rfl, hb⟩; (try replace hA := hA.below' hb); have hHX := hHeld.step hb))
          refine hK.out _ _ (by exact hHX) (fun hHeld => ?_)
          clear hK K
          refine wpAnyH_one (i := 9) (by kernel_rfl) rfl (fun K hK => ?_)
          go_simp
          go_wp2_with ((go_at_call 54; refine (num54 _ p HP.out hl 17 4 (by omega) (by omega)).mono ?_; rintro e wx ⟨rfl, hb⟩; (try replace hA := hA.below' hb); have hHX := hHeld.step hb))
          refine hK.out _ _ (by exact hHX) (fun hHeld => ?_)
          clear hK K
          refine wpAnyH_tk (i := 10) (v := _) 19 rfl rfl (by kernel_rfl) (by kernel_rfl) (by kernel_rfl) (fun _ _ _ h => h) (yields_build64 (by rfl) (.tmp 10) (.tmp 12) (.tmp 14) (.tmp 16) (.tmp 18) rfl _ _ _ _ _ rfl rfl rfl rfl rfl) hHeld ?_
          (try simp only [Act.put, List.setIfInBounds_toArray, List.set_cons_zero, List.set_cons_succ])
          refine wpAnyH_one (i := 12) (by kernel_rfl) rfl (fun K hK => ?_)
          rw [if_pos (by rfl)]
          refine step_store64 rfl (.tmp 4) (.tmp 19) rfl a3 rfl (refGeomOf p) (by rw [HH.out]; rfl) hA ?_; intro wx hA2 hgr hsz; have hHX := hHeld.grown hgr hb3 (by simp; omega)
          refine hK.out _ _ (by exact hHX) (fun hHeld => ?_)
          clear hK K
          (try simp only [Act.put, List.setIfInBounds_toArray, List.set_cons_zero, List.set_cons_succ])
          refine wpAnyH_done (by kernel_rfl) ?_ _
          (go_wp2_with fail; go_meet; case rel => exact ⟨a3, rfl, hb3, hn1, hn2, ⟨hHX.cons hA2⟩⟩)
      · skip
        rw [if_pos (by rfl)]
        refine step_alloc64 4 rfl rfl ?_; intro wx a3 hg hA hgr; have hHX := hHeld.fresh hgr; have hb3 : w.heap.size ≤ a3 := Nat.le_trans hHeld.size hg; have hn1 : a1 ≠ a3 := (by have := hHeld.tail.head.lt; omega); have hn2 : a2 ≠ a3 := (by have := hHeld.head.lt; omega); clear hgr hg
        refine hK.out _ _ (by exact hHX) (fun hHeld => ?_)
        clear hK K
        (try simp only [Act.put, List.setIfInBounds_toArray, List.set_cons_zero, List.set_cons_succ])
        refine wpAnyH_one (i := 1) (by kernel_rfl) rfl (fun K hK => ?_)
        go_simp
        go_wp2_with ((go_at_call 54; refine (num54 _ p HP.out hl 1 4 (by omega) (by omega)).mono ?_; rintro e wx ⟨rfl, hb⟩; (try replace hA := hA.below' hb); have hHX := hHeld.step hb))
        refine hK.out _ _ (by exact hHX) (fun hHeld => ?_)
        clear hK K
        refine wpAnyH_one (i := 3) (by kernel_rfl) rfl (fun K hK => ?_)
        go_simp
        go_wp2_with ((go_at_call 54; refine (num54 _ p HP.out hl 5 4 (by omega) (by omega)).mono ?_; rintro e wx ⟨rfl, hb⟩; (try replace hA := hA.below' hb); have hHX := hHeld.step hb))
        refine hK.out _ _ (by exact hHX) (fun hHeld => ?_)
        clear hK K
        refine wpAnyH_one (i := 5) (by kernel_rfl) rfl (fun K hK => ?_)
        go_simp
        go_wp2_with ((go_at_call 54; refine (num54 _ p HP.out hl 9 4 (by omega) (by omega)).mono ?_; rintro e wx ⟨rfl, hb⟩; (try replace hA := hA.below' hb); have hHX := hHeld.step hb))
        refine hK.out _ _ (by exact hHX) (fun hHeld => ?_)
        clear hK K
        refine wpAnyH_one (i := 7) (by kernel_rfl) rfl (fun K hK => ?_)
        go_simp
        go_wp2_with ((go_at_call 54; refine (num54 _ p HP.out hl 13 4 (by omega) (by omega)).mono ?_; rintro e wx ⟨rfl, hb⟩; (try replace hA := hA.below' hb); have hHX := hHeld.step hb))
        refine hK.out _ _ (by exact hHX) (fun hHeld => ?_)
        clear hK K
        refine wpAnyH_one (i := 9) (by kernel_rfl) rfl (fun K hK => ?_)
        go_simp
        go_wp2_with ((go_at_call 54; refine (num54 _ p HP.out hl 17 4 (by omega) (by omega)).mono ?_; rintro e wx ⟨rfl, hb⟩; (try replace hA := hA.below' hb); have hHX := hHeld.step hb))
        refine hK.out _ _ (by exact hHX) (fun hHeld => ?_)
        clear hK K
        refine wpAnyH_tk (i := 10) (v := _) 19 rfl rfl (by kernel_rfl) (by kernel_rfl) (by kernel_rfl) (fun _ _ _ h => h) (yields_build64 (by rfl) (.tmp 10) (.tmp 12) (.tmp 14) (.tmp 16) (.tmp 18) rfl _ _ _ _ _ rfl rfl rfl rfl rfl) hHeld ?_
        (try simp only [Act.put, List.setIfInBounds_toArray, List.set_cons_zero, List.set_cons_succ])
        refine wpAnyH_one (i := 12) (by kernel_rfl) rfl (fun K hK => ?_)
        rw [if_pos (by rfl)]
        refine step_store64 rfl (.tmp 4) (.tmp 19) rfl a3 rfl (refGeomOf p) (by rw [HH.out]; rfl) hA ?_; intro wx hA2 hgr hsz; have hHX := hHeld.grown hgr hb3 (by simp; omega)
        refine hK.out _ _ (by exact hHX) (fun hHeld => ?_)
        clear hK K
        (try simp only [Act.put, List.setIfInBounds_toArray, List.set_cons_zero, List.set_cons_succ])
        refine wpAnyH_done (by kernel_rfl) ?_ _
        (go_wp2_with fail; go_meet; case rel => exact ⟨a3, rfl, hb3, hn1, hn2, ⟨hHX.cons hA2⟩⟩)
    case rest =>
      obtain ⟨a3, rfl, hb3, hn1, hn2, HK⟩ := hcut
      clear H3 HH
      have hll := geomLay_length (refGeomOf p)
      have hlb := geomLay_bytes (refGeomOf p)
      have hwf := refGeomOf_wf HP.out
      obtain ⟨O, hO⟩ : ∃ O, O = (refGeomOf p).opn := ⟨_, rfl⟩
      have HO := Aside0.mk hO
      clear hO
      go_upto_region 4 with (fail)
      cases hok : geomOk (refGeomOf p)
      · have HR := Aside0.mk (geomRead_refbad p HP.out hr (fun h => by rw [h.1] at hok; cases hok))
        refine wp_region_held_drew (S := (fun w' => Keeps w [(a3, 64, geomC (refGeomOf p)), (a2, 64, geomC geom0), (a1, 28, encs (Value.int .u8) p)] w')) (by kernel_rfl) (by exact HK.out.drew) (fun hHeld => ?_)
        refine wpAnyH_tk (i := 0) (v := _) 20 rfl rfl (by kernel_rfl) (by kernel_rfl) (by kernel_rfl) (fun _ _ _ h => h) (yields_load (by rfl) 64 (.tmp 4) rfl a3 rfl (fun _ h => h.head) Try.underlying64 rfl (size64 _)) hHeld ?_
        (try simp only [Act.put, List.setIfInBounds_toArray, List.set_cons_zero, List.set_cons_succ])
        refine wpAnyH_one (i := 1) (by kernel_rfl) rfl (fun K hK => ?_)
        go_simp
        go_wp2_with ((go_at_call 43; refine (refright_calls _ (refGeomOf p) hwf).mono ?_; rintro e wx ⟨rfl, hb⟩; rw [hok]; have hHX := hHeld.step hb))
        refine hK.out _ _ (by exact hHX) (fun hHeld => ?_)
        clear hK K
        refine wpAnyH_tk (i := 2) (v := ?vz48) 22 rfl rfl (by kernel_rfl) (by kernel_rfl) (by kernel_rfl) (fun _ _ _ h => h) (Or.inl ⟨by rfl, ?yz48⟩) hHeld ?rz48
        case yz48 => (intro w hSw; go_simp; try with_reducible rfl)
        (try simp only [Act.put, List.setIfInBounds_toArray, List.set_cons_zero, List.set_cons_succ])
        refine wpAnyH_tk (i := 3) (v := ?vz49) 23 rfl rfl (by kernel_rfl) (by kernel_rfl) (by kernel_rfl) (fun _ _ _ h => h) (Or.inl ⟨by rfl, ?yz49⟩) hHeld ?rz49
        case yz49 => (intro w hSw; go_simp; try with_reducible rfl)
        (try simp only [Act.put, List.setIfInBounds_toArray, List.set_cons_zero, List.set_cons_succ])
        refine wpAnyH_tk (i := 4) (v := undef) 24 rfl rfl (by kernel_rfl) (by kernel_rfl) (by kernel_rfl) (fun _ _ _ h => h) (yields_not (by rfl)) hHeld ?_
        (try simp only [Act.put, List.setIfInBounds_toArray, List.set_cons_zero, List.set_cons_succ])
        refine wpAnyH_tk (i := 5) (v := undef) 25 rfl rfl (by kernel_rfl) (by kernel_rfl) (by kernel_rfl) (fun _ _ _ h => h) (yields_not (by rfl)) hHeld ?_
        (try simp only [Act.put, List.setIfInBounds_toArray, List.set_cons_zero, List.set_cons_succ])
        refine wpAnyH_tk (i := 6) (v := undef) 26 rfl rfl (by kernel_rfl) (by kernel_rfl) (by kernel_rfl) (fun _ _ _ h => h) (yields_not (by rfl)) hHeld ?_
        (try simp only [Act.put, List.setIfInBounds_toArray, List.set_cons_zero, List.set_cons_succ])
        refine wpAnyH_tk (i := 7) (v := ?vz50) 27 rfl rfl (by kernel_rfl) (by kernel_rfl) (by kernel_rfl) (fun _ _ _ h => h) (Or.inl ⟨by rfl, ?yz50⟩) hHeld ?rz50
        case yz50 => (intro w hSw; go_simp; try with_reducible rfl)
        (try simp only [Act.put, List.setIfInBounds_toArray, List.set_cons_zero, List.set_cons_succ])
        refine wpAnyH_tk (i := 8) (v := ?vz51) 28 rfl rfl (by kernel_rfl) (by kernel_rfl) (by kernel_rfl) (fun _ _ _ h => h) (Or.inl ⟨by rfl, ?yz51⟩) hHeld ?rz51
        case yz51 => (intro w hSw; go_simp; try with_reducible rfl)
        (try simp only [Act.put, List.setIfInBounds_toArray, List.set_cons_zero, List.set_cons_succ])
        refine wpAnyH_tk (i := 9) (v := undef) 29 rfl rfl (by kernel_rfl) (by kernel_rfl) (by kernel_rfl) (fun _ _ _ h => h) (yields_not (by rfl)) hHeld ?_
        (try simp only [Act.put, List.setIfInBounds_toArray, List.set_cons_zero, List.set_cons_succ])
        refine wpAnyH_tk (i := 10) (v := undef) 30 rfl rfl (by kernel_rfl) (by kernel_rfl) (by kernel_rfl) (fun _ _ _ h => h) (yields_not (by rfl)) hHeld ?_
        (try simp only [Act.put, List.setIfInBounds_toArray, List.set_cons_zero, List.set_cons_succ])
        refine wpAnyH_tk (i := 11) (v := undef) 31 rfl rfl (by kernel_rfl) (by kernel_rfl) (by kernel_rfl) (fun _ _ _ h => h) (yields_not (by rfl)) hHeld ?_
        (try simp only [Act.put, List.setIfInBounds_toArray, List.set_cons_zero, List.set_cons_succ])
        refine wpAnyH_tk (i := 12) (v := undef) 32 rfl rfl (by kernel_rfl) (by kernel_rfl) (by kernel_rfl) (fun _ _ _ h => h) (yields_not (by rfl)) hHeld ?_
        (try simp only [Act.put, List.setIfInBounds_toArray, List.set_cons_zero, List.set_cons_succ])
        refine wpAnyH_tk (i := 13) (v := ?vz52) 33 rfl rfl (by kernel_rfl) (by kernel_rfl) (by kernel_rfl) (fun _ _ _ h => h) (Or.inl ⟨by rfl, ?yz52⟩) hHeld ?rz52
        case yz52 => (intro w hSw; go_simp; try with_reducible rfl)
        (try simp only [Act.put, List.setIfInBounds_toArray, List.set_cons_zero, List.set_cons_succ])
        refine wpAnyH_done (by kernel_rfl) ?_ _
        skip
        go_wp2_with (first | ((with_reducible refine gate_dst (N := 34) rfl ?_); refine build64z rfl rfl ?_) | ((with_reducible refine gate_store (t := 64) (p := 2) rfl ?_); refine store64 rfl rfl (.tmp 2) (.tmp 34) rfl a2 rfl geom0 rfl hHeld.tail.head ?_; intro w5 h6 h7 h8; have HZ := Aside0.mk (Keeps.put1 hHeld h7 hb2 (by simp; omega) (by simp; omega) h6); clear h6 h7))
        refine bodyPost_ret (results_ct rfl _ _ a2 64 _ (0, 0) _ rfl HZ.out.tail.head Try.underlying64 rfl (size64 geom0)) rfl ?_
        exact ⟨by rw [HR.out]; rfl, HZ.out.below⟩
      · by_cases hfit : O ≤ 2147483647
        · have HF := Aside0.mk (show geomFits (refGeomOf p) from ⟨hok, by rw [← HO.out]; exact hfit⟩)
          obtain ⟨b, hbd⟩ : ∃ b, b = decide (geomLay (refGeomOf p) = p) := ⟨_, rfl⟩
          have HR := Aside0.mk (geomRead_ref p HP.out hr HF.out b hbd)
          have HE := Aside0.mk (eq28 hll hl hlb HP.out)
          rw [← hbd] at HE
          clear hbd
          refine wp_region_held_drew (S := (fun w' => Keeps w [(a3, 64, geomC (refGeomOf p)), (a2, 64, geomC geom0), (a1, 28, encs (Value.int .u8) p)] w')) (by kernel_rfl) (by exact HK.out.drew) (fun hHeld => ?_)
          refine wpAnyH_tk (i := 0) (v := _) 20 rfl rfl (by kernel_rfl) (by kernel_rfl) (by kernel_rfl) (fun _ _ _ h => h) (yields_load (by rfl) 64 (.tmp 4) rfl a3 rfl (fun _ h => h.head) Try.underlying64 rfl (size64 _)) hHeld ?_
          (try simp only [Act.put, List.setIfInBounds_toArray, List.set_cons_zero, List.set_cons_succ])
          refine wpAnyH_one (i := 1) (by kernel_rfl) rfl (fun K hK => ?_)
          go_simp
          go_wp2_with ((go_at_call 43; refine (refright_calls _ (refGeomOf p) hwf).mono ?_; rintro e wx ⟨rfl, hb⟩; rw [hok]; have hHX := hHeld.step hb))
          refine hK.out _ _ (by exact hHX) (fun hHeld => ?_)
          clear hK K
          refine wpAnyH_tk (i := 2) (v := ?vz53) 22 rfl rfl (by kernel_rfl) (by kernel_rfl) (by kernel_rfl) (fun _ _ _ h => h) (Or.inl ⟨by rfl, ?yz53⟩) hHeld ?rz53
          case yz53 => (intro w hSw; go_simp; try with_reducible rfl)
          (try simp only [Act.put, List.setIfInBounds_toArray, List.set_cons_zero, List.set_cons_succ])
          refine wpAnyH_tk (i := 3) (v := ?vz54) 23 rfl rfl (by kernel_rfl) (by kernel_rfl) (by kernel_rfl) (fun _ _ _ h => h) (Or.inl ⟨by rfl, ?yz54⟩) hHeld ?rz54
          case yz54 => (intro w hSw; go_simp; try with_reducible rfl)
          (try simp only [Act.put, List.setIfInBounds_toArray, List.set_cons_zero, List.set_cons_succ])
          refine wpAnyH_tk (i := 4) (v := ?vz55) 24 rfl rfl (by kernel_rfl) (by kernel_rfl) (by kernel_rfl) (fun _ _ _ h => h) (Or.inl ⟨by rfl, ?yz55⟩) hHeld ?rz55
          case yz55 => (intro w hSw; go_simp; try with_reducible rfl)
          (try simp only [Act.put, List.setIfInBounds_toArray, List.set_cons_zero, List.set_cons_succ])
          refine wpAnyH_tk (i := 5) (v := _) 25 rfl rfl (by kernel_rfl) (by kernel_rfl) (by kernel_rfl) (fun _ _ _ h => h) (yields_cell (by rfl) 3 (.tmp 24) rfl ⟨a3, 4, none⟩ rfl (v := .int .i64 O) (fun _ h => by rw [HO.out]; exact GB.opn h.head) Try.underlying3 rfl) hHeld ?_
          (try simp only [Act.put, List.setIfInBounds_toArray, List.set_cons_zero, List.set_cons_succ])
          refine wpAnyH_tk (i := 6) (v := _) 26 rfl rfl (by kernel_rfl) (by kernel_rfl) (by kernel_rfl) (fun _ _ _ h => h) (show YieldsIf Try.prog _ _ _ (.bool false) _ from Or.inl ⟨(by rfl), fun w hSw => by go_simp; try (simp; omega)⟩) hHeld ?_
          (try simp only [Act.put, List.setIfInBounds_toArray, List.set_cons_zero, List.set_cons_succ])
          refine wpAnyH_tk (i := 7) (v := ?vz56) 27 rfl rfl (by kernel_rfl) (by kernel_rfl) (by kernel_rfl) (fun _ _ _ h => h) (Or.inl ⟨by rfl, ?yz56⟩) hHeld ?rz56
          case yz56 => (intro w hSw; go_simp; try with_reducible rfl)
          (try simp only [Act.put, List.setIfInBounds_toArray, List.set_cons_zero, List.set_cons_succ])
          refine wpAnyH_tk (i := 8) (v := ?vz57) 28 rfl rfl (by kernel_rfl) (by kernel_rfl) (by kernel_rfl) (fun _ _ _ h => h) (Or.inl ⟨by rfl, ?yz57⟩) hHeld ?rz57
          case yz57 => (intro w hSw; go_simp; try with_reducible rfl)
          (try simp only [Act.put, List.setIfInBounds_toArray, List.set_cons_zero, List.set_cons_succ])
          refine wpAnyH_tk (i := 9) (v := _) 29 rfl rfl (by kernel_rfl) (by kernel_rfl) (by kernel_rfl) (fun _ _ _ h => h) (yields_load (by rfl) 64 (.tmp 4) rfl a3 rfl (fun _ h => h.head) Try.underlying64 rfl (size64 _)) hHeld ?_
          (try simp only [Act.put, List.setIfInBounds_toArray, List.set_cons_zero, List.set_cons_succ])
          refine wpAnyH_tk (i := 11) (v := _) 31 rfl rfl (by kernel_rfl) (by kernel_rfl) (by kernel_rfl) (fun _ _ _ h => h) (yields_load (by rfl) 28 (.tmp 1) rfl a1 rfl (fun _ h => h.tail.tail.head) Try.underlying28 rfl (size28' hl)) hHeld ?_
          (try simp only [Act.put, List.setIfInBounds_toArray, List.set_cons_zero, List.set_cons_succ])
          refine wpAnyH_one (i := 10) (by kernel_rfl) rfl (fun K hK => ?_)
          go_simp
          go_wp2_with ((go_at_call 45; refine (reflay_calls _ (refGeomOf p) HF.out).mono ?_; rintro e wx ⟨rfl, hb⟩; have hHX := hHeld.step hb))
          refine hK.out _ _ (by exact hHX) (fun hHeld => ?_)
          clear hK K
          refine wpAnyH_tk (i := 12) (v := _) 32 rfl rfl (by kernel_rfl) (by kernel_rfl) (by kernel_rfl) (fun _ _ _ h => h) (yields_neq (by rfl) 28 28 (.tmp 30) (.tmp 31) rfl (encs (Value.int .u8) (geomLay (refGeomOf p))) (encs (Value.int .u8) p) rfl rfl b HE.out eqg28 rfl) hHeld ?_
          (try simp only [Act.put, List.setIfInBounds_toArray, List.set_cons_zero, List.set_cons_succ])
          refine wpAnyH_tk (i := 13) (v := ?vz58) 33 rfl rfl (by kernel_rfl) (by kernel_rfl) (by kernel_rfl) (fun _ _ _ h => h) (Or.inl ⟨by rfl, ?yz58⟩) hHeld ?rz58
          case yz58 => (intro w hSw; go_simp; try with_reducible rfl)
          (try simp only [Act.put, List.setIfInBounds_toArray, List.set_cons_zero, List.set_cons_succ])
          refine wpAnyH_done (by kernel_rfl) ?_ _
          skip
          cases b
          · go_wp2_with (first | ((with_reducible refine gate_dst (N := 34) rfl ?_); refine build64z rfl rfl ?_) | ((with_reducible refine gate_store (t := 64) (p := 2) rfl ?_); refine store64 rfl rfl (.tmp 2) (.tmp 34) rfl a2 rfl geom0 rfl hHeld.tail.head ?_; intro w5 h6 h7 h8; have HZ := Aside0.mk (Keeps.put1 hHeld h7 hb2 (by simp; omega) (by simp; omega) h6); clear h6 h7))
            refine bodyPost_ret (results_ct rfl _ _ a2 64 _ (0, 0) _ rfl HZ.out.tail.head Try.underlying64 rfl (size64 geom0)) rfl ?_
            exact ⟨by rw [HR.out]; rfl, HZ.out.below⟩
          · go_wp2_with (first | ((with_reducible refine gate_dst (N := 35) rfl ?_); refine load64 rfl (.tmp 4) rfl a3 rfl hHeld.head ?_) | ((with_reducible refine gate_store (t := 64) (p := 2) rfl ?_); refine store64 rfl rfl (.tmp 2) (.tmp 35) rfl a2 rfl (refGeomOf p) rfl hHeld.tail.head ?_; intro w5 h6 h7 h8; have HZ := Aside0.mk (Keeps.put1 hHeld h7 hb2 (by simp; omega) (by simp; omega) h6); clear h6 h7))
            refine bodyPost_ret (results_ct rfl _ _ a2 64 _ (0, 0) _ rfl HZ.out.tail.head Try.underlying64 rfl (size64 (refGeomOf p))) rfl ?_
            exact ⟨by rw [HR.out]; rfl, HZ.out.below⟩
        · have HR := Aside0.mk (geomRead_refbad p HP.out hr (fun h => hfit (by rw [HO.out]; exact h.2)))
          refine wp_region_held_drew (S := (fun w' => Keeps w [(a3, 64, geomC (refGeomOf p)), (a2, 64, geomC geom0), (a1, 28, encs (Value.int .u8) p)] w')) (by kernel_rfl) (by exact HK.out.drew) (fun hHeld => ?_)
          refine wpAnyH_tk (i := 0) (v := _) 20 rfl rfl (by kernel_rfl) (by kernel_rfl) (by kernel_rfl) (fun _ _ _ h => h) (yields_load (by rfl) 64 (.tmp 4) rfl a3 rfl (fun _ h => h.head) Try.underlying64 rfl (size64 _)) hHeld ?_
          (try simp only [Act.put, List.setIfInBounds_toArray, List.set_cons_zero, List.set_cons_succ])
          refine wpAnyH_one (i := 1) (by kernel_rfl) rfl (fun K hK => ?_)
          go_simp
          go_wp2_with ((go_at_call 43; refine (refright_calls _ (refGeomOf p) hwf).mono ?_; rintro e wx ⟨rfl, hb⟩; rw [hok]; have hHX := hHeld.step hb))
          refine hK.out _ _ (by exact hHX) (fun hHeld => ?_)
          clear hK K
          refine wpAnyH_tk (i := 2) (v := ?vz59) 22 rfl rfl (by kernel_rfl) (by kernel_rfl) (by kernel_rfl) (fun _ _ _ h => h) (Or.inl ⟨by rfl, ?yz59⟩) hHeld ?rz59
          case yz59 => (intro w hSw; go_simp; try with_reducible rfl)
          (try simp only [Act.put, List.setIfInBounds_toArray, List.set_cons_zero, List.set_cons_succ])
          refine wpAnyH_tk (i := 3) (v := ?vz60) 23 rfl rfl (by kernel_rfl) (by kernel_rfl) (by kernel_rfl) (fun _ _ _ h => h) (Or.inl ⟨by rfl, ?yz60⟩) hHeld ?rz60
          case yz60 => (intro w hSw; go_simp; try with_reducible rfl)
          (try simp only [Act.put, List.setIfInBounds_toArray, List.set_cons_zero, List.set_cons_succ])
          refine wpAnyH_tk (i := 4) (v := ?vz61) 24 rfl rfl (by kernel_rfl) (by kernel_rfl) (by kernel_rfl) (fun _ _ _ h => h) (Or.inl ⟨by rfl, ?yz61⟩) hHeld ?rz61
          case yz61 => (intro w hSw; go_simp; try with_reducible rfl)
          (try simp only [Act.put, List.setIfInBounds_toArray, List.set_cons_zero, List.set_cons_succ])
          refine wpAnyH_tk (i := 5) (v := _) 25 rfl rfl (by kernel_rfl) (by kernel_rfl) (by kernel_rfl) (fun _ _ _ h => h) (yields_cell (by rfl) 3 (.tmp 24) rfl ⟨a3, 4, none⟩ rfl (v := .int .i64 O) (fun _ h => by rw [HO.out]; exact GB.opn h.head) Try.underlying3 rfl) hHeld ?_
          (try simp only [Act.put, List.setIfInBounds_toArray, List.set_cons_zero, List.set_cons_succ])
          refine wpAnyH_tk (i := 6) (v := _) 26 rfl rfl (by kernel_rfl) (by kernel_rfl) (by kernel_rfl) (fun _ _ _ h => h) (show YieldsIf Try.prog _ _ _ (.bool true) _ from Or.inl ⟨(by rfl), fun w hSw => by go_simp; try (simp; omega)⟩) hHeld ?_
          (try simp only [Act.put, List.setIfInBounds_toArray, List.set_cons_zero, List.set_cons_succ])
          refine wpAnyH_tk (i := 7) (v := ?vz62) 27 rfl rfl (by kernel_rfl) (by kernel_rfl) (by kernel_rfl) (fun _ _ _ h => h) (Or.inl ⟨by rfl, ?yz62⟩) hHeld ?rz62
          case yz62 => (intro w hSw; go_simp; try with_reducible rfl)
          (try simp only [Act.put, List.setIfInBounds_toArray, List.set_cons_zero, List.set_cons_succ])
          refine wpAnyH_tk (i := 8) (v := ?vz63) 28 rfl rfl (by kernel_rfl) (by kernel_rfl) (by kernel_rfl) (fun _ _ _ h => h) (Or.inl ⟨by rfl, ?yz63⟩) hHeld ?rz63
          case yz63 => (intro w hSw; go_simp; try with_reducible rfl)
          (try simp only [Act.put, List.setIfInBounds_toArray, List.set_cons_zero, List.set_cons_succ])
          refine wpAnyH_tk (i := 9) (v := undef) 29 rfl rfl (by kernel_rfl) (by kernel_rfl) (by kernel_rfl) (fun _ _ _ h => h) (yields_not (by rfl)) hHeld ?_
          (try simp only [Act.put, List.setIfInBounds_toArray, List.set_cons_zero, List.set_cons_succ])
          refine wpAnyH_tk (i := 10) (v := undef) 30 rfl rfl (by kernel_rfl) (by kernel_rfl) (by kernel_rfl) (fun _ _ _ h => h) (yields_not (by rfl)) hHeld ?_
          (try simp only [Act.put, List.setIfInBounds_toArray, List.set_cons_zero, List.set_cons_succ])
          refine wpAnyH_tk (i := 11) (v := undef) 31 rfl rfl (by kernel_rfl) (by kernel_rfl) (by kernel_rfl) (fun _ _ _ h => h) (yields_not (by rfl)) hHeld ?_
          (try simp only [Act.put, List.setIfInBounds_toArray, List.set_cons_zero, List.set_cons_succ])
          refine wpAnyH_tk (i := 12) (v := undef) 32 rfl rfl (by kernel_rfl) (by kernel_rfl) (by kernel_rfl) (fun _ _ _ h => h) (yields_not (by rfl)) hHeld ?_
          (try simp only [Act.put, List.setIfInBounds_toArray, List.set_cons_zero, List.set_cons_succ])
          refine wpAnyH_tk (i := 13) (v := ?vz64) 33 rfl rfl (by kernel_rfl) (by kernel_rfl) (by kernel_rfl) (fun _ _ _ h => h) (Or.inl ⟨by rfl, ?yz64⟩) hHeld ?rz64
          case yz64 => (intro w hSw; go_simp; try with_reducible rfl)
          (try simp only [Act.put, List.setIfInBounds_toArray, List.set_cons_zero, List.set_cons_succ])
          refine wpAnyH_done (by kernel_rfl) ?_ _
          skip
          go_wp2_with (first | ((with_reducible refine gate_dst (N := 34) rfl ?_); refine build64z rfl rfl ?_) | ((with_reducible refine gate_store (t := 64) (p := 2) rfl ?_); refine store64 rfl rfl (.tmp 2) (.tmp 34) rfl a2 rfl geom0 rfl hHeld.tail.head ?_; intro w5 h6 h7 h8; have HZ := Aside0.mk (Keeps.put1 hHeld h7 hb2 (by simp; omega) (by simp; omega) h6); clear h6 h7))
          refine bodyPost_ret (results_ct rfl _ _ a2 64 _ (0, 0) _ rfl HZ.out.tail.head Try.underlying64 rfl (size64 geom0)) rfl ?_
          exact ⟨by rw [HR.out]; rfl, HZ.out.below⟩
  · have hr0 : rightB p = false := by simpa using hr
    have hrd : geomRead p = (geom0, 8) := by unfold geomRead; rw [if_neg hr]
    rw [hr0]
    go_wp2_with (first | ((with_reducible refine gate_dst (N := 8) rfl ?_); refine build64z rfl rfl ?_) | ((with_reducible refine gate_store (t := 64) (p := 2) rfl ?_); refine store64 rfl rfl (.tmp 2) (.tmp 8) rfl a2 rfl geom0 rfl H3.out.head ?_; intro w4 h6 h7 h8; have HZ := Aside0.mk (H3.out.put h7 hb2 (by simp; omega) h6); clear h6 h7))
    refine bodyPost_ret (results_ct rfl _ _ a2 64 _ (0, 0) _ rfl HZ.out.head Try.underlying64 rfl (size64 geom0)) rfl ?_
    exact ⟨by rw [hrd]; rfl, HZ.out.below⟩
end Go.Proofs.Ytmkkkenpjealdaa.GeomWalks
