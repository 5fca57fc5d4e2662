/- The walks of layer 6's statements: RecUnlike, RecBack; of layer 7's: PageAlone. -/
import Derived.Test.YtmkkkenpjealdaaRecLaws2
namespace Go.Proofs.Ytmkkkenpjealdaa.RecLaws
set_option linter.unusedSimpArgs false
set_option linter.unusedVariables false
open Go.RowKit Go.Proofs.YtmkkkenpjealdaaW.PrintWords Go.Proofs.YtmkkkenpjealdaaW.PrintLast Go.Proofs.YtmkkkenpjealdaaW.PrintMore PlainWord CrcPlain PlainSec CrcMem CrcWalks CrcRef Arr SecWord SecMem SecRef LeafWalks PageLaws RecWalks

set_option maxHeartbeats 4000000 in
theorem unlike_walk (W : World) (L : Rec) (cs : Array Value) (hK : kRec.K W L cs.toList) (hG : gRec L) (M : Rec) (cs' : Array Value) (hK' : kRec.K W M cs'.toList) (hG' : gRec M) : Calls Try.prog 10 #[.agg cs, .agg cs'] W (Holds W) := by
  obtain ⟨rfl, hl⟩ := rec_cells hK
  obtain ⟨rfl, hm⟩ := rec_cells hK'
  have hw := rec_wf hG
  have hv := rec_wf hG'
  have hld := hw.data
  have hmd := hv.data
  have HW := Aside0.mk (Keeps.refl W)
  clear hK hG hK' hG'
  go_enter Try.func10, Try.ntmps10
  go_wp2_with (first | ((with_reducible refine gate_dst (N := 2) rfl ?_); refine box43 rfl (.tmp 0) rfl L rfl ?_; intro w1 a1 h1 h2 h3; have H1 := Aside0.mk (HW.out.new h3 h2); clear h2 h3) | ((with_reducible refine gate_dst (N := 3) rfl ?_); refine box43 rfl (.tmp 1) rfl M rfl ?_; intro w2 a2 h4 h5 h6; have H2 := Aside0.mk (H1.out.new h6 h5); have hn := (show a1 ≠ a2 by have := H1.out.head.lt; omega); have hb2 : W.heap.size ≤ a2 := Nat.le_trans H1.out.size h4; clear h5 h6))
  refine (RecWalks.awake_calls _).mono ?_
  rintro e w3 ⟨rfl, hb⟩
  have H3 := Aside0.mk (H2.out.step hb)
  clear hb H2 H1
  go_wp2_with ((with_reducible refine gate_dst (N := 8) rfl ?_); refine gate_guard (by rfl) ?_; refine load43 (r := L) rfl (.tmp 2) rfl a1 rfl hl H3.out.tail.head ?_)
  refine (RecWalks.right_calls _ L hl hld).mono ?_
  rintro e w4 ⟨rfl, hb⟩
  have H4 := Aside0.mk (H3.out.step hb)
  clear hb H3
  cases hbl : recOk L
  · go_wp2_with fail
    refine (RecWalks.awake_calls _).mono ?_
    rintro e w5 ⟨rfl, hb⟩
    have H5 := Aside0.mk (H4.out.step hb)
    clear hb
    go_wp2_with fail
    go_ret
    exact ⟨rfl, H5.out.below⟩
  · go_wp2_with ((with_reducible refine gate_dst (N := 13) rfl ?_); refine gate_guard (by rfl) ?_; refine load43 (r := M) rfl (.tmp 3) rfl a2 rfl hm H4.out.head ?_)
    refine (RecWalks.right_calls _ M hm hmd).mono ?_
    rintro e w5 ⟨rfl, hb⟩
    have H5 := Aside0.mk (H4.out.step hb)
    clear hb H4
    cases hbm : recOk M
    · go_wp2_with fail
      refine (RecWalks.awake_calls _).mono ?_
      rintro e w6 ⟨rfl, hb⟩
      have H6 := Aside0.mk (H5.out.step hb)
      clear hb
      go_wp2_with fail
      go_ret
      exact ⟨rfl, H6.out.below⟩
    · have hll := recLay_length L hl
      have hlm := recLay_length M hm
      obtain ⟨d, hd⟩ : ∃ d, d = decide (recLay L = recLay M) := ⟨_, rfl⟩
      have hdi : d = true ↔ L = M := by
        rw [hd, decide_eq_true_eq]
        exact ⟨fun h => recLay_inj hl hm hbl hbm h, fun h => by rw [h]⟩
      have HE1 := Aside0.mk (eq28 hll hlm (recLay_bytes L hld) (recLay_bytes M hmd))
      rw [← hd] at HE1
      have HE2 := Aside0.mk (eq43 hl hm hw hv hdi)
      have HBL := Aside0.mk hbl
      have HBM := Aside0.mk hbm
      clear hd hdi hbl hbm
      go_upto_region 3 with (fail)
      refine wp_region_held_drew (S := (fun w' => Keeps W [(a2, 43, recC M), (a1, 43, recC L)] w')) (by kernel_rfl) (by exact H5.out.drew) (fun hHeld => ?_)
      refine wpAnyH_tk (i := 0) (v := _) 18 rfl rfl (by kernel_rfl) (by kernel_rfl) (by kernel_rfl) (fun _ _ _ h => h) (yields_load (by rfl) 43 (.tmp 2) rfl a1 rfl (fun _ h => h.tail.head) Try.underlying43 rfl (size43' L hl)) hHeld ?_
      (try simp only [Act.put, List.setIfInBounds_toArray, List.set_cons_zero, List.set_cons_succ])
      refine wpAnyH_tk (i := 2) (v := _) 20 rfl rfl (by kernel_rfl) (by kernel_rfl) (by kernel_rfl) (fun _ _ _ h => h) (yields_load (by rfl) 43 (.tmp 3) rfl a2 rfl (fun _ h => h.head) Try.underlying43 rfl (size43' M hm)) hHeld ?_
      (try simp only [Act.put, List.setIfInBounds_toArray, List.set_cons_zero, List.set_cons_succ])
      refine wpAnyH_tk (i := 5) (v := _) 23 rfl rfl (by kernel_rfl) (by kernel_rfl) (by kernel_rfl) (fun _ _ _ h => h) (yields_load (by rfl) 43 (.tmp 2) rfl a1 rfl (fun _ h => h.tail.head) Try.underlying43 rfl (size43' L hl)) hHeld ?_
      (try simp only [Act.put, List.setIfInBounds_toArray, List.set_cons_zero, List.set_cons_succ])
      refine wpAnyH_tk (i := 6) (v := _) 24 rfl rfl (by kernel_rfl) (by kernel_rfl) (by kernel_rfl) (fun _ _ _ h => h) (yields_load (by rfl) 43 (.tmp 3) rfl a2 rfl (fun _ h => h.head) Try.underlying43 rfl (size43' M hm)) hHeld ?_
      (try simp only [Act.put, List.setIfInBounds_toArray, List.set_cons_zero, List.set_cons_succ])
      refine wpAnyH_tk (i := 7) (v := _) 25 rfl rfl (by kernel_rfl) (by kernel_rfl) (by kernel_rfl) (fun _ _ _ h => h) (yields_eql (by rfl) 43 43 (.tmp 23) (.tmp 24) rfl (recC L) (recC M) rfl rfl d HE2.out eqg43 rfl) hHeld ?_
      (try simp only [Act.put, List.setIfInBounds_toArray, List.set_cons_zero, List.set_cons_succ])
      refine wpAnyH_one (i := 1) (by kernel_rfl) rfl (fun K hK => ?_)
      go_simp
      go_wp2_with ((go_at_call 29; refine (RecWalks.lay_calls _ L hl hld HBL.out).mono ?_; rintro e wx ⟨rfl, hb⟩; have hHX := hHeld.step hb))
      refine hK.out _ _ (by exact hHX) (fun hHeld => ?_)
      clear hK K
      refine wpAnyH_one (i := 3) (by kernel_rfl) rfl (fun K hK => ?_)
      go_simp
      go_wp2_with ((go_at_call 29; refine (RecWalks.lay_calls _ M hm hmd HBM.out).mono ?_; rintro e wx ⟨rfl, hb⟩; have hHX := hHeld.step hb))
      refine hK.out _ _ (by exact hHX) (fun hHeld => ?_)
      clear hK K
      refine wpAnyH_tk (i := 4) (v := _) 22 rfl rfl (by kernel_rfl) (by kernel_rfl) (by kernel_rfl) (fun _ _ _ h => h) (yields_eql (by rfl) 28 28 (.tmp 19) (.tmp 21) rfl (encs (Value.int .u8) (recLay L)) (encs (Value.int .u8) (recLay M)) rfl rfl d HE1.out eqg28 rfl) hHeld ?_
      (try simp only [Act.put, List.setIfInBounds_toArray, List.set_cons_zero, List.set_cons_succ])
      refine wpAnyH_tk (i := 8) (v := ?vz1) 26 rfl rfl (by kernel_rfl) (by kernel_rfl) (by kernel_rfl) (fun _ _ _ h => h) (Or.inl ⟨by rfl, ?yz1⟩) hHeld ?rz1
      case yz1 => (intro w hSw; go_simp; try with_reducible rfl)
      (try simp only [Act.put, List.setIfInBounds_toArray, List.set_cons_zero, List.set_cons_succ])
      refine wpAnyH_tk (i := 9) (v := ?vz2) 4 rfl rfl (by kernel_rfl) (by kernel_rfl) (by kernel_rfl) (fun _ _ _ h => h) (Or.inl ⟨by rfl, ?yz2⟩) hHeld ?rz2
      case yz2 => (intro w hSw; go_simp; try with_reducible rfl)
      (try simp only [Act.put, List.setIfInBounds_toArray, List.set_cons_zero, List.set_cons_succ])
      refine wpAnyH_done (by kernel_rfl) ?_ _
      skip
      go_wp2_with fail
      go_ret
      exact ⟨by simp, hHX.below⟩
/-! ### a leaf's sector is no record's -/
theorem recRead_leaf (L : Leaf) (h : L.ps.length = 10) : recRead (leafLay L) = (rec0, 7) := by
  unfold recRead
  rw [if_pos (leafLay_right L), if_neg]
  rintro ⟨h1, _⟩
  have h2 : (recOf (leafLay L)).kind = 128 := leafLay_mark L h
  have := (recOk_small h1).1
  omega
theorem recLay_mark (r : Rec) (h : r.data.length = 32) (hr : recOk r = true) : (recLay r).getD 0 0 = r.kind := congrArg Rec.kind (recOf_lay r h hr)
theorem leafRead_rec (r : Rec) (h : r.data.length = 32) (hd : Bytes r.data) (hr : recOk r = true) : leafRead (recLay r) = (leaf0, 7) := by
  unfold leafRead
  rw [if_pos (recLay_right r hd), if_neg]
  rintro ⟨h1, _⟩
  rw [recLay_mark r h hr] at h1
  have := (recOk_small hr).1
  omega
set_option maxHeartbeats 4000000 in
theorem alone_walk (W : World) (L : Leaf) (cs : Array Value) (hK : kLeaf.K W L cs.toList) (hG : gLeaf L) (M : Rec) (cs' : Array Value) (hK' : kRec.K W M cs'.toList) (hG' : gRec M) : Calls Try.prog 16 #[.agg cs, .agg cs'] W (Holds W) := by
  obtain ⟨rfl, hl⟩ := leaf_cells hK
  obtain ⟨rfl, hm⟩ := rec_cells hK'
  have hw := leaf_wf hG
  have hmd := (rec_wf hG').data
  have HW := Aside0.mk (Keeps.refl W)
  clear hK hG hK' hG'
  go_enter Try.func16, Try.ntmps16
  go_wp2_with (first | ((with_reducible refine gate_dst (N := 2) rfl ?_); refine box24 rfl (.tmp 0) rfl L rfl ?_; intro w1 a1 h1 h2 h3; have H1 := Aside0.mk (HW.out.new h3 h2); clear h2 h3) | ((with_reducible refine gate_dst (N := 3) rfl ?_); refine box43 rfl (.tmp 1) rfl M rfl ?_; intro w2 a2 h4 h5 h6; have H2 := Aside0.mk (H1.out.new h6 h5); have hn := (show a1 ≠ a2 by have := H1.out.head.lt; omega); have hb2 : W.heap.size ≤ a2 := Nat.le_trans H1.out.size h4; clear h5 h6))
  refine (LeafWalks.awake_calls _).mono ?_
  rintro e w3 ⟨rfl, hb⟩
  have H3 := Aside0.mk (H2.out.step hb)
  clear hb H2 H1
  go_wp2_with ((with_reducible refine gate_dst (N := 12) rfl ?_); refine gate_guard (by rfl) ?_; refine load24 (L := L) rfl (.tmp 2) rfl a1 rfl hl H3.out.tail.head ?_)
  refine (LeafWalks.right_calls _ L hl hw.2.2).mono ?_
  rintro e w4 ⟨rfl, hb⟩
  have H4 := Aside0.mk (H3.out.step hb)
  clear hb H3
  cases hbl : leafOk L
  · go_wp2_with fail
    refine (LeafWalks.awake_calls _).mono ?_
    rintro e w5 ⟨rfl, hb⟩
    have H5 := Aside0.mk (H4.out.step hb)
    clear hb
    go_wp2_with fail
    go_ret
    exact ⟨rfl, H5.out.below⟩
  · go_wp2_with ((with_reducible refine gate_dst (N := 17) rfl ?_); refine gate_guard (by rfl) ?_; refine load43 (r := M) rfl (.tmp 3) rfl a2 rfl hm H4.out.head ?_)
    refine (RecWalks.right_calls _ M hm hmd).mono ?_
    rintro e w5 ⟨rfl, hb⟩
    have H5 := Aside0.mk (H4.out.step hb)
    clear hb H4
    cases hbm : recOk M
    · go_wp2_with fail
      refine (LeafWalks.awake_calls _).mono ?_
      rintro e w6 ⟨rfl, hb⟩
      have H6 := Aside0.mk (H5.out.step hb)
      clear hb
      go_wp2_with fail
      go_ret
      exact ⟨rfl, H6.out.below⟩
    · have HBL := Aside0.mk hbl
      have HBM := Aside0.mk hbm
      have HR1 := Aside0.mk (recRead_leaf L hl)
      have HR2 := Aside0.mk (leafRead_rec M hm hmd hbm)
      clear hbl hbm
      go_wp2_with ((with_reducible refine gate_dst (N := 23) rfl ?_); refine load24 (L := L) rfl (.tmp 2) rfl a1 rfl hl H5.out.tail.head ?_)
      refine (LeafWalks.lay_calls _ L hl HBL.out).mono ?_
      rintro e w6 ⟨rfl, hb⟩
      have H6 := Aside0.mk (H5.out.step hb)
      clear hb H5
      go_wp2_with fail
      refine (RecWalks.read_calls _ (leafLay L) (leafLay_bytes L) (leafLay_length L hl)).mono ?_
      rintro e w7 ⟨rfl, hb⟩
      rw [HR1.out]
      have H7 := Aside0.mk (H6.out.step hb)
      clear hb H6
      go_wp2_with (first | ((with_reducible refine gate_dst (N := 5) rfl ?_); refine alloc43 rfl rfl ?_; intro w8 a3 h7 h8 h9; have H8 := Aside0.mk (H7.out.new h9 h8); have hb3 : W.heap.size ≤ a3 := Nat.le_trans H7.out.size h7; have hn3 : a1 ≠ a3 := (by have := H7.out.tail.head.lt; omega); have hn4 : a2 ≠ a3 := (by have := H7.out.head.lt; omega); clear h8 h9) | ((with_reducible refine gate_store (t := 43) (p := 5) rfl ?_); refine store43 rfl rfl (.tmp 5) (.tmp 26) rfl a3 rfl rec0 rfl rfl H8.out.head rfl ?_; intro w9 h10 h11 h12; have H9 := Aside0.mk (H8.out.put h11 hb3 (by simp; omega) h10); clear h10 h11) | ((with_reducible refine gate_dst (N := 29) rfl ?_); refine load43 (r := M) rfl (.tmp 3) rfl a2 rfl hm H9.out.tail.head ?_))
      refine (RecWalks.lay_calls _ M hm hmd HBM.out).mono ?_
      rintro e w10 ⟨rfl, hb⟩
      have H10 := Aside0.mk (H9.out.step hb)
      clear hb H9 H8 H7
      go_wp2_with fail
      refine (LeafWalks.read_calls _ (recLay M) (recLay_bytes M hmd) (recLay_length M hm)).mono ?_
      rintro e w11 ⟨rfl, hb⟩
      rw [HR2.out]
      have H11 := Aside0.mk (H10.out.step hb)
      clear hb H10
      go_wp2_with (first | ((with_reducible refine gate_dst (N := 7) rfl ?_); refine alloc24 rfl rfl ?_; intro w12 a4 h7 h8 h9; have H12 := Aside0.mk (H11.out.new h9 h8); have hb4 : W.heap.size ≤ a4 := Nat.le_trans H11.out.size h7; have hn5 : a1 ≠ a4 := (by have := H11.out.tail.tail.head.lt; omega); have hn6 : a2 ≠ a4 := (by have := H11.out.tail.head.lt; omega); have hn7 : a3 ≠ a4 := (by have := H11.out.head.lt; omega); clear h8 h9) | ((with_reducible refine gate_store (t := 24) (p := 7) rfl ?_); refine store24 rfl rfl (.tmp 7) (.tmp 32) rfl a4 rfl leaf0 rfl rfl H12.out.head rfl ?_; intro w13 h10 h11 h12; have H13 := Aside0.mk (H12.out.put h11 hb4 (by simp; omega) h10); clear h10 h11))
      go_ret
      exact ⟨rfl, H13.out.below⟩
end Go.Proofs.Ytmkkkenpjealdaa.RecLaws
