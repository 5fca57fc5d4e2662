/- The walks of layer 7's statements: PageBack, PageOnly. -/
import Derived.Test.YtmkkkenpjealdaaPageLaws2
namespace Go.Proofs.Ytmkkkenpjealdaa.PageLaws
set_option linter.unusedSimpArgs false
open Go.RowKit Go.Proofs.YtmkkkenpjealdaaW.PrintWords Go.Proofs.YtmkkkenpjealdaaW.PrintLast Go.Proofs.YtmkkkenpjealdaaW.PrintMore PlainWord CrcPlain PlainSec CrcMem CrcWalks CrcRef Arr SecWord SecMem SecRef LeafWalks
set_option maxHeartbeats 4000000 in
theorem back_walk (W : World) (L : Leaf) (cs : Array Value) (hK : kLeaf.K W L cs.toList) (hG : gLeaf L) (M : Leaf) (cs' : Array Value) (hK' : kLeaf.K W M cs'.toList) (hG' : gLeaf M) : Calls Try.prog 5 #[.agg cs, .agg cs'] W (Holds W) := by
  obtain ⟨rfl, hl⟩ := leaf_cells hK
  obtain ⟨rfl, hm⟩ := leaf_cells hK'
  have hw := leaf_wf hG
  have hv := leaf_wf hG'
  have HW := Aside0.mk (Keeps.refl W)
  clear hK hG hK' hG'
  go_enter Try.func5, Try.ntmps5
  go_wp2_with (first | ((with_reducible refine gate_dst (N := 2) rfl ?_); refine box24 rfl (.tmp 0) rfl L rfl ?_; intro w1 a1 h1 h2 h3; have H1 := Aside0.mk (HW.out.new h3 h2); clear h2 h3) | ((with_reducible refine gate_dst (N := 3) rfl ?_); refine box24 rfl (.tmp 1) rfl M rfl ?_; intro w2 a2 h4 h5 h6; have H2 := Aside0.mk (H1.out.new h6 h5); have hn := (show a1 ≠ a2 by have := H1.out.head.lt; omega); have hb2 : W.heap.size ≤ a2 := Nat.le_trans H1.out.size h4; clear h5 h6))
  refine (LeafWalks.awake_calls _).mono ?_
  rintro e w3 ⟨rfl, hb⟩
  have H3 := Aside0.mk (H2.out.step hb)
  clear hb H2 H1
  go_wp2_with ((with_reducible refine gate_dst (N := 10) rfl ?_); refine gate_guard (by rfl) ?_; refine load24 (L := L) rfl (.tmp 2) rfl a1 rfl hl H3.out.tail.head ?_)
  refine (LeafWalks.right_calls _ L hl hw.2.2).mono ?_
  rintro e w4 ⟨rfl, hb⟩
  have H4 := Aside0.mk (H3.out.step hb)
  clear hb H3
  cases hbl : leafOk L
  · go_wp2_with fail
    refine (LeafWalks.awake_calls _).mono ?_
    rintro e w5 ⟨rfl, hb⟩
    have H5 := Aside0.mk (H4.out.step hb)
    clear hb
    go_wp2_with fail
    go_ret
    exact ⟨rfl, H5.out.below⟩
  · go_wp2_with ((with_reducible refine gate_dst (N := 15) rfl ?_); refine gate_guard (by rfl) ?_; refine load24 (L := M) rfl (.tmp 3) rfl a2 rfl hm H4.out.head ?_)
    refine (LeafWalks.right_calls _ M hm hv.2.2).mono ?_
    rintro e w5 ⟨rfl, hb⟩
    have H5 := Aside0.mk (H4.out.step hb)
    clear hb H4
    cases hbm : leafOk M
    · go_wp2_with fail
      refine (LeafWalks.awake_calls _).mono ?_
      rintro e w6 ⟨rfl, hb⟩
      have H6 := Aside0.mk (H5.out.step hb)
      clear hb
      go_wp2_with fail
      go_ret
      exact ⟨rfl, H6.out.below⟩
    · have hll := leafLay_length L hl
      have hlm := leafLay_length M hm
      obtain ⟨d, hd⟩ : ∃ d, d = decide (leafLay L = leafLay M) := ⟨_, rfl⟩
      have hdi : d = true ↔ L = M := by
        rw [hd, decide_eq_true_eq]
        exact ⟨fun h => leafLay_inj hl hm hbl hbm h, fun h => by rw [h]⟩
      have HE1 := Aside0.mk (eq28 hll hlm (leafLay_bytes L) (leafLay_bytes M))
      rw [← hd] at HE1
      have HE2 := Aside0.mk (eq24 hl hm hw hv hdi)
      have HE3 := Aside0.mk (eq24 hl hl hw hw (b := true) (by simp))
      have HRD := Aside0.mk (leafRead_lay L hl hbl)
      have HBL := Aside0.mk hbl
      have HBM := Aside0.mk hbm
      clear hd hdi hbl hbm
      go_wp2_with ((with_reducible refine gate_dst (N := 21) rfl ?_); refine load24 (L := L) rfl (.tmp 2) rfl a1 rfl hl H5.out.tail.head ?_)
      refine (lay_calls _ L hl HBL.out).mono ?_
      rintro e w6 ⟨rfl, hb⟩
      have H6 := Aside0.mk (H5.out.step hb)
      clear hb H5
      go_wp2_with fail
      refine (read_calls _ (leafLay L) (leafLay_bytes L) hll).mono ?_
      rintro e w7 ⟨rfl, hb⟩
      rw [HRD.out]
      have H7 := Aside0.mk (H6.out.step hb)
      clear hb H6
      go_wp2_with (first | ((with_reducible refine gate_dst (N := 5) rfl ?_); refine alloc24 rfl rfl ?_; intro w8 a3 h7 h8 h9; have H8 := Aside0.mk (H7.out.new h9 h8); have hb3 : W.heap.size ≤ a3 := Nat.le_trans H7.out.size h7; have hn3 : a1 ≠ a3 := (by have := H7.out.tail.head.lt; omega); have hn4 : a2 ≠ a3 := (by have := H7.out.head.lt; omega); clear h8 h9) | ((with_reducible refine gate_store (t := 24) (p := 5) rfl ?_); refine store24 rfl rfl (.tmp 5) (.tmp 24) rfl a3 rfl L rfl hl H8.out.head rfl ?_; intro w9 h10 h11 h12; have H9 := Aside0.mk (H8.out.put h11 hb3 (by simp; omega) h10); clear h10 h11))
      refine wp_region_held_drew (S := (fun w' => Keeps W [(a3, 24, leafC L), (a2, 24, leafC M), (a1, 24, leafC L)] w')) (by kernel_rfl) (by exact H9.out.drew) (fun hHeld => ?_)
      refine wpAnyH_tk (i := 0) (v := ?vz1) 26 rfl rfl (by kernel_rfl) (by kernel_rfl) (by kernel_rfl) (fun _ _ _ h => h) (Or.inl ⟨by rfl, ?yz1⟩) hHeld ?rz1
      case yz1 => (intro w hSw; go_simp; try with_reducible rfl)
      (try simp only [Act.put, List.setIfInBounds_toArray, List.set_cons_zero, List.set_cons_succ])
      refine wpAnyH_tk (i := 1) (v := ?vz2) 27 rfl rfl (by kernel_rfl) (by kernel_rfl) (by kernel_rfl) (fun _ _ _ h => h) (Or.inl ⟨by rfl, ?yz2⟩) hHeld ?rz2
      case yz2 => (intro w hSw; go_simp; try with_reducible rfl)
      (try simp only [Act.put, List.setIfInBounds_toArray, List.set_cons_zero, List.set_cons_succ])
      refine wpAnyH_tk (i := 2) (v := ?vz3) 28 rfl rfl (by kernel_rfl) (by kernel_rfl) (by kernel_rfl) (fun _ _ _ h => h) (Or.inl ⟨by rfl, ?yz3⟩) hHeld ?rz3
      case yz3 => (intro w hSw; go_simp; try with_reducible rfl)
      (try simp only [Act.put, List.setIfInBounds_toArray, List.set_cons_zero, List.set_cons_succ])
      refine wpAnyH_tk (i := 3) (v := _) 29 rfl rfl (by kernel_rfl) (by kernel_rfl) (by kernel_rfl) (fun _ _ _ h => h) (yields_load (by rfl) 24 (.tmp 5) rfl a3 rfl (fun _ h => h.head) Try.underlying24 rfl (size24' L hl)) hHeld ?_
      (try simp only [Act.put, List.setIfInBounds_toArray, List.set_cons_zero, List.set_cons_succ])
      refine wpAnyH_tk (i := 4) (v := _) 30 rfl rfl (by kernel_rfl) (by kernel_rfl) (by kernel_rfl) (fun _ _ _ h => h) (yields_load (by rfl) 24 (.tmp 2) rfl a1 rfl (fun _ h => h.tail.tail.head) Try.underlying24 rfl (size24' L hl)) hHeld ?_
      (try simp only [Act.put, List.setIfInBounds_toArray, List.set_cons_zero, List.set_cons_succ])
      refine wpAnyH_tk (i := 5) (v := _) 31 rfl rfl (by kernel_rfl) (by kernel_rfl) (by kernel_rfl) (fun _ _ _ h => h) (yields_eql (by rfl) 24 24 (.tmp 29) (.tmp 30) rfl (leafC L) (leafC L) rfl rfl true HE3.out eqg24 rfl) hHeld ?_
      (try simp only [Act.put, List.setIfInBounds_toArray, List.set_cons_zero, List.set_cons_succ])
      refine wpAnyH_tk (i := 6) (v := ?vz4) 32 rfl rfl (by kernel_rfl) (by kernel_rfl) (by kernel_rfl) (fun _ _ _ h => h) (Or.inl ⟨by rfl, ?yz4⟩) hHeld ?rz4
      case yz4 => (intro w hSw; go_simp; try with_reducible rfl)
      (try simp only [Act.put, List.setIfInBounds_toArray, List.set_cons_zero, List.set_cons_succ])
      refine wpAnyH_tk (i := 7) (v := ?vz5) 33 rfl rfl (by kernel_rfl) (by kernel_rfl) (by kernel_rfl) (fun _ _ _ h => h) (Or.inl ⟨by rfl, ?yz5⟩) hHeld ?rz5
      case yz5 => (intro w hSw; go_simp; try with_reducible rfl)
      (try simp only [Act.put, List.setIfInBounds_toArray, List.set_cons_zero, List.set_cons_succ])
      refine wpAnyH_tk (i := 8) (v := _) 34 rfl rfl (by kernel_rfl) (by kernel_rfl) (by kernel_rfl) (fun _ _ _ h => h) (yields_load (by rfl) 24 (.tmp 2) rfl a1 rfl (fun _ h => h.tail.tail.head) Try.underlying24 rfl (size24' L hl)) hHeld ?_
      (try simp only [Act.put, List.setIfInBounds_toArray, List.set_cons_zero, List.set_cons_succ])
      refine wpAnyH_tk (i := 10) (v := _) 36 rfl rfl (by kernel_rfl) (by kernel_rfl) (by kernel_rfl) (fun _ _ _ h => h) (yields_load (by rfl) 24 (.tmp 3) rfl a2 rfl (fun _ h => h.tail.head) Try.underlying24 rfl (size24' M hm)) hHeld ?_
      (try simp only [Act.put, List.setIfInBounds_toArray, List.set_cons_zero, List.set_cons_succ])
      refine wpAnyH_tk (i := 13) (v := _) 39 rfl rfl (by kernel_rfl) (by kernel_rfl) (by kernel_rfl) (fun _ _ _ h => h) (yields_load (by rfl) 24 (.tmp 2) rfl a1 rfl (fun _ h => h.tail.tail.head) Try.underlying24 rfl (size24' L hl)) hHeld ?_
      (try simp only [Act.put, List.setIfInBounds_toArray, List.set_cons_zero, List.set_cons_succ])
      refine wpAnyH_tk (i := 14) (v := _) 40 rfl rfl (by kernel_rfl) (by kernel_rfl) (by kernel_rfl) (fun _ _ _ h => h) (yields_load (by rfl) 24 (.tmp 3) rfl a2 rfl (fun _ h => h.tail.head) Try.underlying24 rfl (size24' M hm)) hHeld ?_
      (try simp only [Act.put, List.setIfInBounds_toArray, List.set_cons_zero, List.set_cons_succ])
      refine wpAnyH_tk (i := 15) (v := _) 41 rfl rfl (by kernel_rfl) (by kernel_rfl) (by kernel_rfl) (fun _ _ _ h => h) (yields_eql (by rfl) 24 24 (.tmp 39) (.tmp 40) rfl (leafC L) (leafC M) rfl rfl d HE2.out eqg24 rfl) hHeld ?_
      (try simp only [Act.put, List.setIfInBounds_toArray, List.set_cons_zero, List.set_cons_succ])
      refine wpAnyH_one (i := 9) (by kernel_rfl) rfl (fun K hK => ?_)
      go_simp
      go_wp2_with ((go_at_call 21; refine (lay_calls _ L hl HBL.out).mono ?_; rintro e wx ⟨rfl, hb⟩; have hHX := hHeld.step hb))
      refine hK.out _ _ (by exact hHX) (fun hHeld => ?_)
      clear hK K
      refine wpAnyH_one (i := 11) (by kernel_rfl) rfl (fun K hK => ?_)
      go_simp
      go_wp2_with ((go_at_call 21; refine (lay_calls _ M hm HBM.out).mono ?_; rintro e wx ⟨rfl, hb⟩; have hHX := hHeld.step hb))
      refine hK.out _ _ (by exact hHX) (fun hHeld => ?_)
      clear hK K
      refine wpAnyH_tk (i := 12) (v := _) 38 rfl rfl (by kernel_rfl) (by kernel_rfl) (by kernel_rfl) (fun _ _ _ h => h) (yields_eql (by rfl) 28 28 (.tmp 35) (.tmp 37) rfl (encs (Value.int .u8) (leafLay L)) (encs (Value.int .u8) (leafLay M)) rfl rfl d HE1.out eqg28 rfl) hHeld ?_
      (try simp only [Act.put, List.setIfInBounds_toArray, List.set_cons_zero, List.set_cons_succ])
      refine wpAnyH_tk (i := 16) (v := ?vz6) 42 rfl rfl (by kernel_rfl) (by kernel_rfl) (by kernel_rfl) (fun _ _ _ h => h) (Or.inl ⟨by rfl, ?yz6⟩) hHeld ?rz6
      case yz6 => (intro w hSw; go_simp; try with_reducible rfl)
      (try simp only [Act.put, List.setIfInBounds_toArray, List.set_cons_zero, List.set_cons_succ])
      refine wpAnyH_tk (i := 17) (v := ?vz7) 43 rfl rfl (by kernel_rfl) (by kernel_rfl) (by kernel_rfl) (fun _ _ _ h => h) (Or.inl ⟨by rfl, ?yz7⟩) hHeld ?rz7
      case yz7 => (intro w hSw; go_simp; try with_reducible rfl)
      (try simp only [Act.put, List.setIfInBounds_toArray, List.set_cons_zero, List.set_cons_succ])
      refine wpAnyH_tk (i := 18) (v := ?vz8) 4 rfl rfl (by kernel_rfl) (by kernel_rfl) (by kernel_rfl) (fun _ _ _ h => h) (Or.inl ⟨by rfl, ?yz8⟩) hHeld ?rz8
      case yz8 => (intro w hSw; go_simp; try with_reducible rfl)
      (try simp only [Act.put, List.setIfInBounds_toArray, List.set_cons_zero, List.set_cons_succ])
      refine wpAnyH_done (by kernel_rfl) ?_ _
      skip
      go_wp2_with fail
      go_ret
      exact ⟨by simp, hHX.below⟩
end Go.Proofs.Ytmkkkenpjealdaa.PageLaws
