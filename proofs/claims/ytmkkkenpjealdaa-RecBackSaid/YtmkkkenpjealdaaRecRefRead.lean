/- The walks of layer 6's reference: a sector read; the statements' sealing. -/
import Derived.Test.YtmkkkenpjealdaaRecRead
namespace Go.Proofs.Ytmkkkenpjealdaa.RecWalks
set_option linter.unusedSimpArgs false
set_option linter.unusedVariables false
open Go.RowKit Go.Proofs.YtmkkkenpjealdaaW.PrintWords Go.Proofs.YtmkkkenpjealdaaW.PrintLast Go.Proofs.YtmkkkenpjealdaaW.PrintMore PlainWord CrcPlain PlainSec CrcMem CrcWalks CrcRef Arr SecWord SecMem SecRef LeafWalks

/-- What the reference reads, of which k bytes of the data. -/
def recSome (p : List Int) (k : Nat) : Rec := ⟨p.getD 0 0, numL p 1 8, numL p 9 8, numL p 17 4, numL p 21 4, upTo ((p.drop 25).take 32) k⟩
theorem slice_length (p : List Int) (hl : p.length = 64) : ((p.drop 25).take 32).length = 32 := by simp [hl]
theorem recSome_zero (p : List Int) (hl : p.length = 64) : recSome p 0 = recHalf p := by unfold recSome recHalf; rw [upTo_zero, slice_length p hl]
theorem recSome_all (p : List Int) (hl : p.length = 64) : recSome p 32 = recOf p := by
  unfold recSome recOf
  have := upTo_all ((p.drop 25).take 32)
  rw [slice_length p hl] at this
  rw [this]
theorem recSome_length (p : List Int) (hl : p.length = 64) (k : Nat) : (recSome p k).data.length = 32 := by unfold recSome; rw [upTo_length, slice_length p hl]
theorem recSome_succ (p : List Int) (hl : p.length = 64) (k : Nat) (hk : k < 32) : (⟨(recSome p k).kind, (recSome p k).epoch, (recSome p k).seq, (recSome p k).blk, (recSome p k).cnt, (recSome p k).data.set k (p.getD (25 + k) 0)⟩ : Rec) = recSome p (k + 1) := by
  have := upTo_succ ((p.drop 25).take 32) k (by rw [slice_length p hl]; exact hk)
  rw [getD_take hk, getD_drop] at this
  unfold recSome
  simp only
  rw [this]
def recBad (p : List Int) : Bool := !(recOk (recOf p) && (p.getD 57 0 == 0) && (p.getD 58 0 == 0) && (p.getD 59 0 == 0))
theorem recRead_bad (p : List Int) (hp : Bytes p) (hl : p.length = 64) (hr : rightB p = true) : recRead p = if recBad p = true then (rec0, 7) else (recOf p, 0) := by
  unfold recRead
  rw [if_pos hr]
  have h := rec_ref p hp hl hr
  have h2 : recBad p = true ↔ ¬ (recOk (recOf p) = true ∧ p.getD 57 0 = 0 ∧ p.getD 58 0 = 0 ∧ p.getD 59 0 = 0) := by
    unfold recBad
    simp only [Bool.not_eq_true', ← Bool.not_eq_true, Bool.and_eq_true, beq_iff_eq, and_assoc]
  by_cases hc : recBad p = true
  · rw [if_pos hc, if_neg (fun g => h2.1 hc (h.1 g))]
  · rw [if_neg hc, if_pos (h.2 (Classical.not_not.1 (fun g => hc (h2.2 g))))]
set_option maxRecDepth 10000 in
set_option maxHeartbeats 4000000 in
theorem refread_calls (w : World) (p : List Int) (hp : Bytes p) (hl : p.length = 64) : Calls Try.prog 33 #[.agg (encs (Value.int .u8) p).toArray] w fun e w' => e = .returned (.tuple #[.agg (recC (recRead p).1).toArray, .int .i64 (recRead p).2]) ∧ Below w.heap.size w w' := by
  have HW := Aside0.mk (Keeps.refl w)
  have HP := Aside0.mk hp
  clear hp
  go_enter Try.func33, Try.ntmps33
  go_wp2_with (first | ((with_reducible refine gate_dst (N := 1) rfl ?_); refine box28 rfl (.tmp 0) rfl p rfl ?_; intro w1 a1 h1 h2 h3; have H1 := Aside0.mk (HW.out.new h3 h2); clear h2 h3) | ((with_reducible refine gate_dst (N := 2) rfl ?_); refine alloc43 rfl rfl ?_; intro w2 a2 h4 h5 h6; have H2 := Aside0.mk (H1.out.new h6 h5); clear h5 h6) | ((with_reducible refine gate_dst (N := 6) rfl ?_); refine load28 rfl (.tmp 1) rfl a1 rfl H2.out.tail.head hl ?_))
  have hb2 : w.heap.size ≤ a2 := by have := H1.out.size; omega
  have hne : a1 ≠ a2 := by have := H1.out.head.lt; omega
  refine (summed_calls _ p HP.out hl).mono ?_
  rintro e w3 ⟨rfl, h7⟩
  have H3 := Aside0.mk (H2.out.step h7)
  clear h7 H2 H1
  by_cases hr : rightB p = true
  · rw [hr]
    have hmb := HP.out.getD 0
    obtain ⟨m, hm⟩ : ∃ m, m = p.getD 0 0 := ⟨_, rfl⟩
    rw [← hm] at hmb
    have HM := Aside0.mk hm
    have HH := Aside0.mk (show recHalf p = ⟨IntKind.i64.wrap m, numL p 1 8, numL p 9 8, numL p 17 4, numL p 21 4, zeros 32⟩ by rw [show IntKind.i64.wrap m = m by rw [IntKind.wrap_i64]; omega, hm]; rfl)
    clear hm
    go_upto_region 3 with (fail)
    go_cut [4] from 10 to 21 (fun v wc => ∃ a3, v = .pointer (some ⟨a3, 0, none⟩) ∧ w.heap.size ≤ a3 ∧ a1 ≠ a3 ∧ a2 ≠ a3 ∧ Aside0 (Keeps w [(a3, 43, recC (recSome p 0)), (a2, 43, recC rec0), (a1, 28, encs (Value.int .u8) p)] wc))
    case first =>
      refine wp_region_held_drew (S := (fun w' => Keeps w [(a2, 43, recC rec0), (a1, 28, encs (Value.int .u8) p)] w')) (by kernel_rfl) (by exact H3.out.drew) (fun hHeld => ?_)
      refine wpAnyH_tk (i := 0) (v := ?vz1) 10 rfl rfl (by kernel_rfl) (by kernel_rfl) (by kernel_rfl) (fun _ _ _ h => h) (Or.inl ⟨by rfl, ?yz1⟩) hHeld ?rz1
      case yz1 => (intro w hSw; go_simp; try with_reducible rfl)
      (try simp only [Act.put, List.setIfInBounds_toArray, List.set_cons_zero, List.set_cons_succ])
      refine wpAnyH_tk (i := 1) (v := _) 11 rfl rfl (by kernel_rfl) (by kernel_rfl) (by kernel_rfl) (fun _ _ _ h => h) (yields_cell (by rfl) 5 (.tmp 10) rfl ⟨a1, 0, none⟩ rfl (v := .int .u8 m) (fun _ h => by rw [HM.out]; exact Blk.encAt h.tail.head (0 : Int) 0 (by omega)) Try.underlying5 rfl) hHeld ?_
      (try simp only [Act.put, List.setIfInBounds_toArray, List.set_cons_zero, List.set_cons_succ])
      refine wpAnyH_tk (i := 2) (v := ?vz2) 12 rfl rfl (by kernel_rfl) (by kernel_rfl) (by kernel_rfl) (fun _ _ _ h => h) (Or.inl ⟨by rfl, ?yz2⟩) hHeld ?rz2
      case yz2 => (intro w hSw; go_simp; try with_reducible rfl)
      (try simp only [Act.put, List.setIfInBounds_toArray, List.set_cons_zero, List.set_cons_succ])
      refine wpAnyH_tk (i := 3) (v := _) 13 rfl rfl (by kernel_rfl) (by kernel_rfl) (by kernel_rfl) (fun _ _ _ h => h) (yields_load (by rfl) 28 (.tmp 1) rfl a1 rfl (fun _ h => h.tail.head) Try.underlying28 rfl (size28' hl)) hHeld ?_
      (try simp only [Act.put, List.setIfInBounds_toArray, List.set_cons_zero, List.set_cons_succ])
      refine wpAnyH_tk (i := 5) (v := _) 15 rfl rfl (by kernel_rfl) (by kernel_rfl) (by kernel_rfl) (fun _ _ _ h => h) (yields_load (by rfl) 28 (.tmp 1) rfl a1 rfl (fun _ h => h.tail.head) Try.underlying28 rfl (size28' hl)) hHeld ?_
      (try simp only [Act.put, List.setIfInBounds_toArray, List.set_cons_zero, List.set_cons_succ])
      refine wpAnyH_tk (i := 7) (v := _) 17 rfl rfl (by kernel_rfl) (by kernel_rfl) (by kernel_rfl) (fun _ _ _ h => h) (yields_load (by rfl) 28 (.tmp 1) rfl a1 rfl (fun _ h => h.tail.head) Try.underlying28 rfl (size28' hl)) hHeld ?_
      (try simp only [Act.put, List.setIfInBounds_toArray, List.set_cons_zero, List.set_cons_succ])
      refine wpAnyH_tk (i := 9) (v := _) 19 rfl rfl (by kernel_rfl) (by kernel_rfl) (by kernel_rfl) (fun _ _ _ h => h) (yields_load (by rfl) 28 (.tmp 1) rfl a1 rfl (fun _ h => h.tail.head) Try.underlying28 rfl (size28' hl)) hHeld ?_
      (try simp only [Act.put, List.setIfInBounds_toArray, List.set_cons_zero, List.set_cons_succ])
      refine wpAnyH_ready (rs := [4, 12]) (by kernel_rfl) (by simp) (AllReadyH.cons rfl (fun K hK => ?_) (AllReadyH.cons rfl (fun K hK => ?_) AllReadyH.nil))
      · skip
        go_simp
        go_wp2_with ((go_at_call 57; refine (num57 _ p HP.out hl 1 8 (by omega) (by omega)).mono ?_; rintro e wx ⟨rfl, hb⟩; (try replace hA := hA.below' hb); have hHX := hHeld.step hb))
        refine hK.out _ _ (by exact hHX) (fun hHeld => ?_)
        clear hK K
        refine wpAnyH_ready (rs := [6, 12]) (by kernel_rfl) (by simp) (AllReadyH.cons rfl (fun K hK => ?_) (AllReadyH.cons rfl (fun K hK => ?_) AllReadyH.nil))
        · skip
          go_simp
          go_wp2_with ((go_at_call 57; refine (num57 _ p HP.out hl 9 8 (by omega) (by omega)).mono ?_; rintro e wx ⟨rfl, hb⟩; (try replace hA := hA.below' hb); have hHX := hHeld.step hb))
          refine hK.out _ _ (by exact hHX) (fun hHeld => ?_)
          clear hK K
          refine wpAnyH_ready (rs := [8, 12]) (by kernel_rfl) (by simp) (AllReadyH.cons rfl (fun K hK => ?_) (AllReadyH.cons rfl (fun K hK => ?_) AllReadyH.nil))
          · skip
            go_simp
            go_wp2_with ((go_at_call 57; refine (num57 _ p HP.out hl 17 4 (by omega) (by omega)).mono ?_; rintro e wx ⟨rfl, hb⟩; (try replace hA := hA.below' hb); have hHX := hHeld.step hb))
            refine hK.out _ _ (by exact hHX) (fun hHeld => ?_)
            clear hK K
            refine wpAnyH_ready (rs := [10, 12]) (by kernel_rfl) (by simp) (AllReadyH.cons rfl (fun K hK => ?_) (AllReadyH.cons rfl (fun K hK => ?_) AllReadyH.nil))
            · skip
              go_simp
              go_wp2_with ((go_at_call 57; refine (num57 _ p HP.out hl 21 4 (by omega) (by omega)).mono ?_; rintro e wx ⟨rfl, hb⟩; (try replace hA := hA.below' hb); have hHX := hHeld.step hb))
              refine hK.out _ _ (by exact hHX) (fun hHeld => ?_)
              clear hK K
              refine wpAnyH_tk (i := 11) (v := _) 21 rfl rfl (by kernel_rfl) (by kernel_rfl) (by kernel_rfl) (fun _ _ _ h => h) (yields_build43 (by rfl) (.tmp 12) (.tmp 14) (.tmp 16) (.tmp 18) (.tmp 20) rfl _ _ _ _ _ rfl rfl rfl rfl rfl) hHeld ?_
              (try simp only [Act.put, List.setIfInBounds_toArray, List.set_cons_zero, List.set_cons_succ])
              refine wpAnyH_one (i := 12) (by kernel_rfl) rfl (fun K hK => ?_)
              rw [if_pos (by rfl)]
              refine step_alloc43 4 rfl rfl ?_; intro wx a3 hg hA hgr; have hHX := hHeld.fresh hgr; have hb3 : w.heap.size ≤ a3 := Nat.le_trans hHeld.size hg; have hn1 : a1 ≠ a3 := (by have := hHeld.tail.head.lt; omega); have hn2 : a2 ≠ a3 := (by have := hHeld.head.lt; omega); clear hgr hg
              refine hK.out _ _ (by exact hHX) (fun hHeld => ?_)
              clear hK K
              (try simp only [Act.put, List.setIfInBounds_toArray, List.set_cons_zero, List.set_cons_succ])
              refine wpAnyH_one (i := 13) (by kernel_rfl) rfl (fun K hK => ?_)
              rw [if_pos (by rfl)]
              refine step_store43 rfl (.tmp 4) (.tmp 21) rfl a3 rfl (recSome p 0) (by rw [recSome_zero p hl, HH.out]; rfl) (recSome_length p hl 0) hA rfl ?_; intro wx hA2 hgr hsz; have hHX := hHeld.grown hgr hb3 (by simp; omega)
              refine hK.out _ _ (by exact hHX) (fun hHeld => ?_)
              clear hK K
              (try simp only [Act.put, List.setIfInBounds_toArray, List.set_cons_zero, List.set_cons_succ])
              refine wpAnyH_done (by kernel_rfl) ?_ _
              (go_wp2_with fail; go_meet; case rel => exact ⟨a3, rfl, hb3, hn1, hn2, ⟨hHX.cons hA2⟩⟩)
            · skip
              rw [if_pos (by rfl)]
              refine step_alloc43 4 rfl rfl ?_; intro wx a3 hg hA hgr; have hHX := hHeld.fresh hgr; have hb3 : w.heap.size ≤ a3 := Nat.le_trans hHeld.size hg; have hn1 : a1 ≠ a3 := (by have := hHeld.tail.head.lt; omega); have hn2 : a2 ≠ a3 := (by have := hHeld.head.lt; omega); clear hgr hg
              refine hK.out _ _ (by exact hHX) (fun hHeld => ?_)
              clear hK K
              (try simp only [Act.put, List.setIfInBounds_toArray, List.set_cons_zero, List.set_cons_succ])
              refine wpAnyH_one (i := 10) (by kernel_rfl) rfl (fun K hK => ?_)
              go_simp
              go_wp2_with ((go_at_call 57; refine (num57 _ p HP.out hl 21 4 (by omega) (by omega)).mono ?_; rintro e wx ⟨rfl, hb⟩; (try replace hA := hA.below' hb); have hHX := hHeld.step hb))
              refine hK.out _ _ (by exact hHX) (fun hHeld => ?_)
              clear hK K
              refine wpAnyH_tk (i := 11) (v := _) 21 rfl rfl (by kernel_rfl) (by kernel_rfl) (by kernel_rfl) (fun _ _ _ h => h) (yields_build43 (by rfl) (.tmp 12) (.tmp 14) (.tmp 16) (.tmp 18) (.tmp 20) rfl _ _ _ _ _ rfl rfl rfl rfl rfl) hHeld ?_
              (try simp only [Act.put, List.setIfInBounds_toArray, List.set_cons_zero, List.set_cons_succ])
              refine wpAnyH_one (i := 13) (by kernel_rfl) rfl (fun K hK => ?_)
              rw [if_pos (by rfl)]
              refine step_store43 rfl (.tmp 4) (.tmp 21) rfl a3 rfl (recSome p 0) (by rw [recSome_zero p hl, HH.out]; rfl) (recSome_length p hl 0) hA rfl ?_; intro wx hA2 hgr hsz; have hHX := hHeld.grown hgr hb3 (by simp; omega)
              refine hK.out _ _ (by exact hHX) (fun hHeld => ?_)
              clear hK K
              (try simp only [Act.put, List.setIfInBounds_toArray, List.set_cons_zero, List.set_cons_succ])
              refine wpAnyH_done (by kernel_rfl) ?_ _
              (go_wp2_with fail; go_meet; case rel => exact ⟨a3, rfl, hb3, hn1, hn2, ⟨hHX.cons hA2⟩⟩)
          · skip
            rw [if_pos (by rfl)]
            refine step_alloc43 4 rfl rfl ?_; intro wx a3 hg hA hgr; have hHX := hHeld.fresh hgr; have hb3 : w.heap.size ≤ a3 := Nat.le_trans hHeld.size hg; have hn1 : a1 ≠ a3 := (by have := hHeld.tail.head.lt; omega); have hn2 : a2 ≠ a3 := (by have := hHeld.head.lt; omega); clear hgr hg
            refine hK.out _ _ (by exact hHX) (fun hHeld => ?_)
            clear hK K
            (try simp only [Act.put, List.setIfInBounds_toArray, List.set_cons_zero, List.set_cons_succ])
            refine wpAnyH_one (i := 8) (by kernel_rfl) rfl (fun K hK => ?_)
            go_simp
            go_wp2_with ((go_at_call 57; refine (num57 _ p HP.out hl 17 4 (by omega) (by omega)).mono ?_; rintro e wx ⟨rfl, hb⟩; (try replace hA := hA.below' hb); have hHX := hHeld.step hb))
            refine hK.out _ _ (by exact hHX) (fun hHeld => ?_)
            clear hK K
            refine wpAnyH_one (i := 10) (by kernel_rfl) rfl (fun K hK => ?_)
            go_simp
            go_wp2_with ((go_at_call 57; refine (num57 _ p HP.out hl 21 4 (by omega) (by omega)).mono ?_; rintro e wx ⟨rfl, hb⟩; (try replace hA := hA.below' hb); have hHX := hHeld.step hb))
            refine hK.out _ _ (by exact hHX) (fun hHeld => ?_)
            clear hK K
            refine wpAnyH_tk (i := 11) (v := _) 21 rfl rfl (by kernel_rfl) (by kernel_rfl) (by kernel_rfl) (fun _ _ _ h => h) (yields_build43 (by rfl) (.tmp 12) (.tmp 14) (.tmp 16) (.tmp 18) (.tmp 20) rfl _ _ _ _ _ rfl rfl rfl rfl rfl) hHeld ?_
            (try simp only [Act.put, List.setIfInBounds_toArray, List.set_cons_zero, List.set_cons_succ])
            refine wpAnyH_one (i := 13) (by kernel_rfl) rfl (fun K hK => ?_)
            rw [if_pos (by rfl)]
            refine step_store43 rfl (.tmp 4) (.tmp 21) rfl a3 rfl (recSome p 0) (by rw [recSome_zero p hl, HH.out]; rfl) (recSome_length p hl 0) hA rfl ?_; intro wx hA2 hgr hsz; have hHX := hHeld.grown hgr hb3 (by simp; omega)
            refine hK.out _ _ (by exact hHX) (fun hHeld => ?_)
            clear hK K
            (try simp only [Act.put, List.setIfInBounds_toArray, List.set_cons_zero, List.set_cons_succ])
            refine wpAnyH_done (by kernel_rfl) ?_ _
            (go_wp2_with fail; go_meet; case rel => exact ⟨a3, rfl, hb3, hn1, hn2, ⟨hHX.cons hA2⟩⟩)
        · skip
          rw [if_pos (by rfl)]
          refine step_alloc43 4 rfl rfl ?_; intro wx a3 hg hA hgr; have hHX := hHeld.fresh hgr; have hb3 : w.heap.size ≤ a3 := Nat.le_trans hHeld.size hg; have hn1 : a1 ≠ a3 := (by have := hHeld.tail.head.lt; omega); have hn2 : a2 ≠ a3 := (by have := hHeld.head.lt; omega); clear hgr hg
          refine hK.out _ _ (by exact hHX) (fun hHeld => ?_)
          clear hK K
          (try simp only [Act.put, List.setIfInBounds_toArray, List.set_cons_zero, List.set_cons_succ])
          refine wpAnyH_one (i := 6) (by kernel_rfl) rfl (fun K hK => ?_)
          go_simp
          go_wp2_with ((go_at_call 57; refine (num57 _ p HP.out hl 9 8 (by omega) (by omega)).mono ?_; rintro e wx ⟨rfl, hb⟩; (try replace hA := hA.below' hb); have hHX := hHeld.step hb))
          refine hK.out _ _ (by exact hHX) (fun hHeld => ?_)
          clear hK K
          refine wpAnyH_one (i := 8) (by kernel_rfl) rfl (fun K hK => ?_)
          go_simp
          go_wp2_with ((go_at_call 57; refine (num57 _ p HP.out hl 17 4 (by omega) (by omega)).mono ?_; rintro e wx ⟨rfl, hb⟩; (try replace hA := hA.below' hb); have hHX := hHeld.step hb))
          refine hK.out _ _ (by exact hHX) (fun hHeld => ?_)
          clear hK K
          refine wpAnyH_one (i := 10) (by kernel_rfl) rfl (fun K hK => ?_)
          go_simp
          go_wp2_with ((go_at_call 57; refine (num57 _ p HP.out hl 21 4 (by omega) (by omega)).mono ?_; rintro e wx ⟨rfl, hb⟩; (try replace hA := hA.below' hb); have hHX := hHeld.step hb))
          refine hK.out _ _ (by exact hHX) (fun hHeld => ?_)
          clear hK K
          refine wpAnyH_tk (i := 11) (v := _) 21 rfl rfl (by kernel_rfl) (by kernel_rfl) (by kernel_rfl) (fun _ _ _ h => h) (yields_build43 (by rfl) (.tmp 12) (.tmp 14) (.tmp 16) (.tmp 18) (.tmp 20) rfl _ _ _ _ _ rfl rfl rfl rfl rfl) hHeld ?_
          (try simp only [Act.put, List.setIfInBounds_toArray, List.set_cons_zero, List.set_cons_succ])
          refine wpAnyH_one (i := 13) (by kernel_rfl) rfl (fun K hK => ?_)
          rw [if_pos (by rfl)]
          refine step_store43 rfl (.tmp 4) (.tmp 21) rfl a3 rfl (recSome p 0) (by rw [recSome_zero p hl, HH.out]; rfl) (recSome_length p hl 0) hA rfl ?_; intro wx hA2 hgr hsz; have hHX := hHeld.grown hgr hb3 (by simp; omega)
          refine hK.out _ _ (by exact hHX) (fun hHeld => ?_)
          clear hK K
          (try simp only [Act.put, List.setIfInBounds_toArray, List.set_cons_zero, List.set_cons_succ])
          refine wpAnyH_done (by kernel_rfl) ?_ _
          (go_wp2_with fail; go_meet; case rel => exact ⟨a3, rfl, hb3, hn1, hn2, ⟨hHX.cons hA2⟩⟩)
      · skip
        rw [if_pos (by rfl)]
        refine step_alloc43 4 rfl rfl ?_; intro wx a3 hg hA hgr; have hHX := hHeld.fresh hgr; have hb3 : w.heap.size ≤ a3 := Nat.le_trans hHeld.size hg; have hn1 : a1 ≠ a3 := (by have := hHeld.tail.head.lt; omega); have hn2 : a2 ≠ a3 := (by have := hHeld.head.lt; omega); clear hgr hg
        refine hK.out _ _ (by exact hHX) (fun hHeld => ?_)
        clear hK K
        (try simp only [Act.put, List.setIfInBounds_toArray, List.set_cons_zero, List.set_cons_succ])
        refine wpAnyH_one (i := 4) (by kernel_rfl) rfl (fun K hK => ?_)
        go_simp
        go_wp2_with ((go_at_call 57; refine (num57 _ p HP.out hl 1 8 (by omega) (by omega)).mono ?_; rintro e wx ⟨rfl, hb⟩; (try replace hA := hA.below' hb); have hHX := hHeld.step hb))
        refine hK.out _ _ (by exact hHX) (fun hHeld => ?_)
        clear hK K
        refine wpAnyH_one (i := 6) (by kernel_rfl) rfl (fun K hK => ?_)
        go_simp
        go_wp2_with ((go_at_call 57; refine (num57 _ p HP.out hl 9 8 (by omega) (by omega)).mono ?_; rintro e wx ⟨rfl, hb⟩; (try replace hA := hA.below' hb); have hHX := hHeld.step hb))
        refine hK.out _ _ (by exact hHX) (fun hHeld => ?_)
        clear hK K
        refine wpAnyH_one (i := 8) (by kernel_rfl) rfl (fun K hK => ?_)
        go_simp
        go_wp2_with ((go_at_call 57; refine (num57 _ p HP.out hl 17 4 (by omega) (by omega)).mono ?_; rintro e wx ⟨rfl, hb⟩; (try replace hA := hA.below' hb); have hHX := hHeld.step hb))
        refine hK.out _ _ (by exact hHX) (fun hHeld => ?_)
        clear hK K
        refine wpAnyH_one (i := 10) (by kernel_rfl) rfl (fun K hK => ?_)
        go_simp
        go_wp2_with ((go_at_call 57; refine (num57 _ p HP.out hl 21 4 (by omega) (by omega)).mono ?_; rintro e wx ⟨rfl, hb⟩; (try replace hA := hA.below' hb); have hHX := hHeld.step hb))
        refine hK.out _ _ (by exact hHX) (fun hHeld => ?_)
        clear hK K
        refine wpAnyH_tk (i := 11) (v := _) 21 rfl rfl (by kernel_rfl) (by kernel_rfl) (by kernel_rfl) (fun _ _ _ h => h) (yields_build43 (by rfl) (.tmp 12) (.tmp 14) (.tmp 16) (.tmp 18) (.tmp 20) rfl _ _ _ _ _ rfl rfl rfl rfl rfl) hHeld ?_
        (try simp only [Act.put, List.setIfInBounds_toArray, List.set_cons_zero, List.set_cons_succ])
        refine wpAnyH_one (i := 13) (by kernel_rfl) rfl (fun K hK => ?_)
        rw [if_pos (by rfl)]
        refine step_store43 rfl (.tmp 4) (.tmp 21) rfl a3 rfl (recSome p 0) (by rw [recSome_zero p hl, HH.out]; rfl) (recSome_length p hl 0) hA rfl ?_; intro wx hA2 hgr hsz; have hHX := hHeld.grown hgr hb3 (by simp; omega)
        refine hK.out _ _ (by exact hHX) (fun hHeld => ?_)
        clear hK K
        (try simp only [Act.put, List.setIfInBounds_toArray, List.set_cons_zero, List.set_cons_succ])
        refine wpAnyH_done (by kernel_rfl) ?_ _
        (go_wp2_with fail; go_meet; case rel => exact ⟨a3, rfl, hb3, hn1, hn2, ⟨hHX.cons hA2⟩⟩)
    case rest =>
      obtain ⟨a3, rfl, hb3, hn1, hn2, H4⟩ := hcut
      clear H3 HM HH hmb
      go_wp2_with fail
      go_loopw [5] (fun i wr => ∃ k : Nat, k ≤ 32 ∧ i = .int .i64 k ∧ Aside0 (Keeps w [(a3, 43, recC (recSome p k)), (a2, 43, recC rec0), (a1, 28, encs (Value.int .u8) p)] wr)) (fun i _ => 32 - (intOf i).toNat)
      case atStart => exact ⟨0, by omega, rfl, H4⟩
      case round =>
        clear H4
        obtain ⟨k, hk, rfl, HK⟩ := hrel
        by_cases hlt : k < 32
        · have HS := Aside0.mk (recSome_succ p hl k hlt)
          have hc := Blk.encAt HK.out.tail.tail.head (0 : Int) (25 + k) (by omega)
          have hc2 := QB.byte HK.out.head k (by rw [recSome_length p hl]; exact hlt)
          have hf := HK.out.head.frozen (5 + k)
          obtain ⟨x, hx⟩ : ∃ x, x = p.getD (25 + k) 0 := ⟨_, rfl⟩
          rw [← hx] at hc HS
          clear hx
          go_wp2_with fail
          go_roundw
          case rel => exact ⟨k + 1, by omega, by go_num, ⟨HK.out.put (grown_set _ a3 (5 + k) _) hb3 (by simp; omega) (by have := QB.setByte HK.out.head k x; rw [HS.out] at this; exact this)⟩⟩
          case measure => simp [intOf]; omega
        · obtain rfl : k = 32 := by omega
          rw [recSome_all p hl] at HK
          have h32 := recOf_length p hl
          have hdb := recOf_bytes HP.out
          have HRD := Aside0.mk (recRead_bad p HP.out hl hr)
          have hbd : recBad p = !(recOk (recOf p) && (p.getD 57 0 == 0) && (p.getD 58 0 == 0) && (p.getD 59 0 == 0)) := rfl
          obtain ⟨b, hb⟩ : ∃ b, b = recBad p := ⟨_, rfl⟩
          rw [← hb] at HRD hbd
          clear hb
          have HB := Aside0.mk hbd
          clear hbd
          go_upto_region 8 with (fail)
          go_cut [50] from 33 to 49 (fun v wc => v = .bool b ∧ Aside0 (Keeps w [(a3, 43, recC (recOf p)), (a2, 43, recC rec0), (a1, 28, encs (Value.int .u8) p)] wc))
          case first =>
            go_wp2_with ((with_reducible refine gate_dst (N := 33) rfl ?_); refine load43 rfl (.tmp 4) rfl a3 rfl h32 HK.out.head ?_)
            refine (refright_calls _ (recOf p) h32 hdb).mono ?_
            rintro e w6 ⟨rfl, hb⟩
            have HK6 := Aside0.mk (HK.out.step hb)
            clear hb HK
            have c7 := Blk.encAt HK6.out.tail.tail.head (0 : Int) 57 (by omega)
            have c8 := Blk.encAt HK6.out.tail.tail.head (0 : Int) 58 (by omega)
            have c9 := Blk.encAt HK6.out.tail.tail.head (0 : Int) 59 (by omega)
            obtain ⟨z7, hz7⟩ : ∃ z, z = p.getD 57 0 := ⟨_, rfl⟩
            obtain ⟨z8, hz8⟩ : ∃ z, z = p.getD 58 0 := ⟨_, rfl⟩
            obtain ⟨z9, hz9⟩ : ∃ z, z = p.getD 59 0 := ⟨_, rfl⟩
            obtain ⟨q, hq⟩ : ∃ q, q = recOk (recOf p) := ⟨_, rfl⟩
            rw [← hz7] at c7 HB
            rw [← hz8] at c8 HB
            rw [← hz9] at c9 HB
            rw [← hq] at HB
            rw [← hq]
            clear hz7 hz8 hz9 hq
            cases q
            · go_wp2_with fail
              go_meet
              case rel => exact ⟨by rw [HB.out]; simp, HK6⟩
            · go_wp2_with fail
              all_goals (go_meet; case rel => exact ⟨by rw [HB.out]; first | (simp_all; done) | (simp_all; rfl), HK6⟩)
          case rest =>
            clear HK
            obtain ⟨rfl, HK⟩ := hcut
            cases b
            · go_wp2_with (first | ((with_reducible refine gate_dst (N := 52) rfl ?_); refine load43 rfl (.tmp 4) rfl a3 rfl h32 HK.out.head ?_) | ((with_reducible refine gate_store (t := 43) (p := 2) rfl ?_); refine store43 rfl rfl (.tmp 2) (.tmp 52) rfl a2 rfl (recOf p) rfl h32 HK.out.tail.head rfl ?_; intro w5 h6 h7 h8; have HZ := Aside0.mk (Keeps.put1 HK.out h7 hb2 (by simp; omega) (by simp; omega) h6); clear h6 h7))
              refine bodyPost_ret (results_ct rfl _ _ a2 43 _ (0, 0) _ rfl HZ.out.tail.head Try.underlying43 rfl (size43' (recOf p) h32)) rfl ?_
              exact ⟨by rw [HRD.out]; rfl, HZ.out.below⟩
            · go_wp2_with (first | ((with_reducible refine gate_dst (N := 51) rfl ?_); refine build43z rfl rfl ?_) | ((with_reducible refine gate_store (t := 43) (p := 2) rfl ?_); refine store43 rfl rfl (.tmp 2) (.tmp 51) rfl a2 rfl rec0 rfl rfl HK.out.tail.head rfl ?_; intro w5 h6 h7 h8; have HZ := Aside0.mk (Keeps.put1 HK.out h7 hb2 (by simp; omega) (by simp; omega) h6); clear h6 h7))
              refine bodyPost_ret (results_ct rfl _ _ a2 43 _ (0, 0) _ rfl HZ.out.tail.head Try.underlying43 rfl (size43' rec0 rfl)) rfl ?_
              exact ⟨by rw [HRD.out]; rfl, HZ.out.below⟩
  · have hr0 : rightB p = false := by simpa using hr
    have hrd : recRead p = (rec0, 8) := by unfold recRead; rw [if_neg hr]
    rw [hr0]
    go_wp2_with (first | ((with_reducible refine gate_dst (N := 9) rfl ?_); refine build43z rfl rfl ?_) | ((with_reducible refine gate_store (t := 43) (p := 2) rfl ?_); refine store43 rfl rfl (.tmp 2) (.tmp 9) rfl a2 rfl rec0 rfl rfl H3.out.head rfl ?_; intro w4 h6 h7 h8; have HZ := Aside0.mk (H3.out.put h7 hb2 (by simp; omega) h6); clear h6 h7))
    refine bodyPost_ret (results_ct rfl _ _ a2 43 _ (0, 0) _ rfl HZ.out.head Try.underlying43 rfl (size43' rec0 rfl)) rfl ?_
    exact ⟨by rw [hrd]; rfl, HZ.out.below⟩
end Go.Proofs.Ytmkkkenpjealdaa.RecWalks
