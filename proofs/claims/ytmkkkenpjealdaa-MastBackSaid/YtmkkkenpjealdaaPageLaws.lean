/- The walks of layer 7's statements. -/
import Derived.Test.YtmkkkenpjealdaaLeafAwake
import Derived.Test.YtmkkkenpjealdaaDec
namespace Go.Proofs.Ytmkkkenpjealdaa.PageLaws
set_option linter.unusedSimpArgs false
open Go.RowKit Go.Proofs.YtmkkkenpjealdaaW.PrintWords Go.Proofs.YtmkkkenpjealdaaW.PrintLast Go.Proofs.YtmkkkenpjealdaaW.PrintMore PlainWord CrcPlain PlainSec CrcMem CrcWalks CrcRef Arr SecWord SecMem SecRef LeafWalks

abbrev Holds (W : World) : Ending → World → Prop := fun e w' => e = .returned (.bool true) ∧ Below W.heap.size W w'
def kLeaf : Kd Leaf := Kd.iso (Kd.pair (Kd.int .i64) (Kd.pair (Kd.int .i64) (Dec.ints .i64 10))) (fun L : Leaf => (L.gen, L.idx, L.ps))
def gLeaf (L : Leaf) : Prop := (Lit.int .i64 L.gen).wf = true ∧ (Lit.int .i64 L.idx).wf = true ∧ ∀ x ∈ L.ps, (Lit.int .i64 x).wf = true
section
attribute [local irreducible] Dec.Dec Dec.DecF
theorem dec24 : Dec.Dec Try.prog 24 kLeaf gLeaf :=
  Dec.dec_struct (k := Kd.pair (Kd.int .i64) (Kd.pair (Kd.int .i64) (Dec.ints .i64 10))) (G := fun x => (Lit.int .i64 x.1).wf = true ∧ (Lit.int .i64 x.2.1).wf = true ∧ ∀ y ∈ x.2.2, (Lit.int .i64 y).wf = true) (pr := fun L : Leaf => (L.gen, L.idx, L.ps)) Try.underlying24 (by kernel_rfl)
    (Dec.decf_cons (Dec.dec_int Try.underlying3) rfl (by kernel_rfl) (Dec.decf_cons (Dec.dec_int Try.underlying3) rfl (by kernel_rfl) (Dec.decf_one (Dec.dec_ints Try.underlying22 Try.underlying3 (by kernel_rfl) (by kernel_rfl)) rfl (by kernel_rfl)))) (fun ⟨a, b, c⟩ => ⟨⟨a, b, c⟩, rfl⟩)
end
theorem leaf_cells {w : World} {L : Leaf} {cs : Array Value} (h : kLeaf.K w L cs.toList) : cs = (leafC L).toArray ∧ L.ps.length = 10 := by
  obtain ⟨c1, c2, h1, h2, c3, c4, h3, h4, h5, h6⟩ := h
  have e : cs.toList = leafC L := by
    rw [h1, h2, h3, h4, h6]
    rfl
  exact ⟨by rw [← e], h5⟩
theorem leaf_wf {L : Leaf} (h : gLeaf L) : leafWf L := ⟨bounds_i64 h.1, bounds_i64 h.2.1, fun x hx => bounds_i64 (h.2.2 x hx)⟩
set_option maxHeartbeats 2000000 in
theorem lays_walk (W : World) (L : Leaf) (cs : Array Value) (hK : kLeaf.K W L cs.toList) (hG : gLeaf L) : Calls Try.prog 3 #[.agg cs] W (Holds W) := by
  obtain ⟨rfl, hl⟩ := leaf_cells hK
  have hw := leaf_wf hG
  have HW := Aside0.mk (Keeps.refl W)
  have hll := leafLay_length L hl
  have HE := Aside0.mk (eq28 hll hll (leafLay_bytes L) (leafLay_bytes L))
  rw [decide_eq_true rfl] at HE
  clear hK hG
  go_enter Try.func3, Try.ntmps3
  go_wp2_with ((with_reducible refine gate_dst (N := 1) rfl ?_); refine box24 rfl (.tmp 0) rfl L rfl ?_; intro w1 a1 h1 h2 h3; have H1 := Aside0.mk (HW.out.new h3 h2); clear h2 h3)
  obtain ⟨b, hb⟩ : ∃ b, b = leafOk L := ⟨_, rfl⟩
  have HB := Aside0.mk hb
  clear hb
  refine wp_region_held_drew (S := (fun w' => Keeps W [(a1, 24, leafC L)] w')) (by kernel_rfl) (by exact H1.out.drew) (fun hHeld => ?_)
  refine wpAnyH_one (i := 0) (by kernel_rfl) rfl (fun K hK => ?_)
  go_simp
  go_wp2_with ((go_at_call 18; refine (awake_calls _).mono ?_; rintro e wx ⟨rfl, hb⟩; have hHX := hHeld.step hb))
  refine hK.out _ _ (by exact hHX) (fun hHeld => ?_)
  clear hK K
  refine wpAnyH_tk (i := 1) (v := ?vz1) 4 rfl rfl (by kernel_rfl) (by kernel_rfl) (by kernel_rfl) (fun _ _ _ h => h) (Or.inl ⟨by rfl, ?yz1⟩) hHeld ?rz1
  case yz1 => (intro w hSw; go_simp; try with_reducible rfl)
  (try simp only [Act.put, List.setIfInBounds_toArray, List.set_cons_zero, List.set_cons_succ])
  refine wpAnyH_tk (i := 2) (v := ?vz2) 5 rfl rfl (by kernel_rfl) (by kernel_rfl) (by kernel_rfl) (fun _ _ _ h => h) (Or.inl ⟨by rfl, ?yz2⟩) hHeld ?rz2
  case yz2 => (intro w hSw; go_simp; try with_reducible rfl)
  (try simp only [Act.put, List.setIfInBounds_toArray, List.set_cons_zero, List.set_cons_succ])
  refine wpAnyH_tk (i := 3) (v := _) 6 rfl rfl (by kernel_rfl) (by kernel_rfl) (by kernel_rfl) (fun _ _ _ h => h) (yields_load (by rfl) 24 (.tmp 1) rfl a1 rfl (fun _ h => h.head) Try.underlying24 rfl (size24' L hl)) hHeld ?_
  (try simp only [Act.put, List.setIfInBounds_toArray, List.set_cons_zero, List.set_cons_succ])
  refine wpAnyH_tk (i := 5) (v := _) 8 rfl rfl (by kernel_rfl) (by kernel_rfl) (by kernel_rfl) (fun _ _ _ h => h) (yields_load (by rfl) 24 (.tmp 1) rfl a1 rfl (fun _ h => h.head) Try.underlying24 rfl (size24' L hl)) hHeld ?_
  (try simp only [Act.put, List.setIfInBounds_toArray, List.set_cons_zero, List.set_cons_succ])
  refine wpAnyH_one (i := 4) (by kernel_rfl) rfl (fun K hK => ?_)
  go_simp
  go_wp2_with ((go_at_call 19; refine (LeafWalks.right_calls _ L hl hw.2.2).mono ?_; rintro e wx ⟨rfl, hb⟩; rw [← HB.out]; have hHX := hHeld.step hb))
  refine hK.out _ _ (by exact hHX) (fun hHeld => ?_)
  clear hK K
  refine wpAnyH_one (i := 6) (by kernel_rfl) rfl (fun K hK => ?_)
  go_simp
  go_wp2_with ((go_at_call 20; refine (refright_calls _ L hl hw.2.2).mono ?_; rintro e wx ⟨rfl, hb⟩; rw [← HB.out]; have hHX := hHeld.step hb))
  refine hK.out _ _ (by exact hHX) (fun hHeld => ?_)
  clear hK K
  refine wpAnyH_tk (i := 7) (v := ?vz3) 10 rfl rfl (by kernel_rfl) (by kernel_rfl) (by kernel_rfl) (fun _ _ _ h => h) (Or.inl ⟨by rfl, ?yz3⟩) hHeld ?rz3
  case yz3 => (intro w hSw; go_simp; try with_reducible rfl)
  (try simp only [Act.put, List.setIfInBounds_toArray, List.set_cons_zero, List.set_cons_succ])
  refine wpAnyH_tk (i := 8) (v := ?vz4) 11 rfl rfl (by kernel_rfl) (by kernel_rfl) (by kernel_rfl) (fun _ _ _ h => h) (Or.inl ⟨by rfl, ?yz4⟩) hHeld ?rz4
  case yz4 => (intro w hSw; go_simp; try with_reducible rfl)
  (try simp only [Act.put, List.setIfInBounds_toArray, List.set_cons_zero, List.set_cons_succ])
  refine wpAnyH_done (by kernel_rfl) ?_ _
  skip
  go_wp2_with fail
  have H2 := Aside0.mk (show Keeps W [(a1, 24, leafC L)] wx from hHeld)
  clear hHeld hHX hb
  cases b
  · skip
    refine wp_region_held_drew (S := (fun w' => Keeps W [(a1, 24, leafC L)] w')) (by kernel_rfl) (by exact H2.out.drew) (fun hHeld => ?_)
    refine wpAnyH_tk (i := 0) (v := _) 12 rfl rfl (by kernel_rfl) (by kernel_rfl) (by kernel_rfl) (fun _ _ _ h => h) (yields_load (by rfl) 24 (.tmp 1) rfl a1 rfl (fun _ h => h.head) Try.underlying24 rfl (size24' L hl)) hHeld ?_
    (try simp only [Act.put, List.setIfInBounds_toArray, List.set_cons_zero, List.set_cons_succ])
    refine wpAnyH_one (i := 1) (by kernel_rfl) rfl (fun K hK => ?_)
    go_simp
    go_wp2_with ((go_at_call 20; refine (refright_calls _ L hl hw.2.2).mono ?_; rintro e wx ⟨rfl, hb⟩; rw [← HB.out]; have hHX := hHeld.step hb))
    refine hK.out _ _ (by exact hHX) (fun hHeld => ?_)
    clear hK K
    refine wpAnyH_tk (i := 2) (v := ?vz5) 14 rfl rfl (by kernel_rfl) (by kernel_rfl) (by kernel_rfl) (fun _ _ _ h => h) (Or.inl ⟨by rfl, ?yz5⟩) hHeld ?rz5
    case yz5 => (intro w hSw; go_simp; try with_reducible rfl)
    (try simp only [Act.put, List.setIfInBounds_toArray, List.set_cons_zero, List.set_cons_succ])
    refine wpAnyH_tk (i := 3) (v := ?vz6) 15 rfl rfl (by kernel_rfl) (by kernel_rfl) (by kernel_rfl) (fun _ _ _ h => h) (Or.inl ⟨by rfl, ?yz6⟩) hHeld ?rz6
    case yz6 => (intro w hSw; go_simp; try with_reducible rfl)
    (try simp only [Act.put, List.setIfInBounds_toArray, List.set_cons_zero, List.set_cons_succ])
    refine wpAnyH_tk (i := 4) (v := undef) 16 rfl rfl (by kernel_rfl) (by kernel_rfl) (by kernel_rfl) (fun _ _ _ h => h) (yields_not (by rfl)) hHeld ?_
    (try simp only [Act.put, List.setIfInBounds_toArray, List.set_cons_zero, List.set_cons_succ])
    refine wpAnyH_tk (i := 5) (v := undef) 17 rfl rfl (by kernel_rfl) (by kernel_rfl) (by kernel_rfl) (fun _ _ _ h => h) (yields_not (by rfl)) hHeld ?_
    (try simp only [Act.put, List.setIfInBounds_toArray, List.set_cons_zero, List.set_cons_succ])
    refine wpAnyH_tk (i := 6) (v := undef) 18 rfl rfl (by kernel_rfl) (by kernel_rfl) (by kernel_rfl) (fun _ _ _ h => h) (yields_not (by rfl)) hHeld ?_
    (try simp only [Act.put, List.setIfInBounds_toArray, List.set_cons_zero, List.set_cons_succ])
    refine wpAnyH_tk (i := 7) (v := undef) 19 rfl rfl (by kernel_rfl) (by kernel_rfl) (by kernel_rfl) (fun _ _ _ h => h) (yields_not (by rfl)) hHeld ?_
    (try simp only [Act.put, List.setIfInBounds_toArray, List.set_cons_zero, List.set_cons_succ])
    refine wpAnyH_tk (i := 8) (v := undef) 20 rfl rfl (by kernel_rfl) (by kernel_rfl) (by kernel_rfl) (fun _ _ _ h => h) (yields_not (by rfl)) hHeld ?_
    (try simp only [Act.put, List.setIfInBounds_toArray, List.set_cons_zero, List.set_cons_succ])
    refine wpAnyH_tk (i := 9) (v := ?vz7) 21 rfl rfl (by kernel_rfl) (by kernel_rfl) (by kernel_rfl) (fun _ _ _ h => h) (Or.inl ⟨by rfl, ?yz7⟩) hHeld ?rz7
    case yz7 => (intro w hSw; go_simp; try with_reducible rfl)
    (try simp only [Act.put, List.setIfInBounds_toArray, List.set_cons_zero, List.set_cons_succ])
    refine wpAnyH_tk (i := 10) (v := ?vz8) 2 rfl rfl (by kernel_rfl) (by kernel_rfl) (by kernel_rfl) (fun _ _ _ h => h) (Or.inl ⟨by rfl, ?yz8⟩) hHeld ?rz8
    case yz8 => (intro w hSw; go_simp; try with_reducible rfl)
    (try simp only [Act.put, List.setIfInBounds_toArray, List.set_cons_zero, List.set_cons_succ])
    refine wpAnyH_done (by kernel_rfl) ?_ _
    skip
    go_wp2_with fail
    go_ret
    exact ⟨rfl, hHX.below⟩
  · have hok : leafOk L = true := HB.out.symm
    refine wp_region_held_drew (S := (fun w' => Keeps W [(a1, 24, leafC L)] w')) (by kernel_rfl) (by exact H2.out.drew) (fun hHeld => ?_)
    refine wpAnyH_tk (i := 0) (v := _) 12 rfl rfl (by kernel_rfl) (by kernel_rfl) (by kernel_rfl) (fun _ _ _ h => h) (yields_load (by rfl) 24 (.tmp 1) rfl a1 rfl (fun _ h => h.head) Try.underlying24 rfl (size24' L hl)) hHeld ?_
    (try simp only [Act.put, List.setIfInBounds_toArray, List.set_cons_zero, List.set_cons_succ])
    refine wpAnyH_one (i := 1) (by kernel_rfl) rfl (fun K hK => ?_)
    go_simp
    go_wp2_with ((go_at_call 20; refine (refright_calls _ L hl hw.2.2).mono ?_; rintro e wx ⟨rfl, hb⟩; rw [← HB.out]; have hHX := hHeld.step hb))
    refine hK.out _ _ (by exact hHX) (fun hHeld => ?_)
    clear hK K
    refine wpAnyH_tk (i := 2) (v := ?vz9) 14 rfl rfl (by kernel_rfl) (by kernel_rfl) (by kernel_rfl) (fun _ _ _ h => h) (Or.inl ⟨by rfl, ?yz9⟩) hHeld ?rz9
    case yz9 => (intro w hSw; go_simp; try with_reducible rfl)
    (try simp only [Act.put, List.setIfInBounds_toArray, List.set_cons_zero, List.set_cons_succ])
    refine wpAnyH_tk (i := 3) (v := ?vz10) 15 rfl rfl (by kernel_rfl) (by kernel_rfl) (by kernel_rfl) (fun _ _ _ h => h) (Or.inl ⟨by rfl, ?yz10⟩) hHeld ?rz10
    case yz10 => (intro w hSw; go_simp; try with_reducible rfl)
    (try simp only [Act.put, List.setIfInBounds_toArray, List.set_cons_zero, List.set_cons_succ])
    refine wpAnyH_tk (i := 4) (v := _) 16 rfl rfl (by kernel_rfl) (by kernel_rfl) (by kernel_rfl) (fun _ _ _ h => h) (yields_load (by rfl) 24 (.tmp 1) rfl a1 rfl (fun _ h => h.head) Try.underlying24 rfl (size24' L hl)) hHeld ?_
    (try simp only [Act.put, List.setIfInBounds_toArray, List.set_cons_zero, List.set_cons_succ])
    refine wpAnyH_tk (i := 6) (v := _) 18 rfl rfl (by kernel_rfl) (by kernel_rfl) (by kernel_rfl) (fun _ _ _ h => h) (yields_load (by rfl) 24 (.tmp 1) rfl a1 rfl (fun _ h => h.head) Try.underlying24 rfl (size24' L hl)) hHeld ?_
    (try simp only [Act.put, List.setIfInBounds_toArray, List.set_cons_zero, List.set_cons_succ])
    refine wpAnyH_one (i := 5) (by kernel_rfl) rfl (fun K hK => ?_)
    go_simp
    go_wp2_with ((go_at_call 21; refine (lay_calls _ L hl hok).mono ?_; rintro e wx ⟨rfl, hb⟩; have hHX := hHeld.step hb))
    refine hK.out _ _ (by exact hHX) (fun hHeld => ?_)
    clear hK K
    refine wpAnyH_one (i := 7) (by kernel_rfl) rfl (fun K hK => ?_)
    go_simp
    go_wp2_with ((go_at_call 22; refine (reflay_calls _ L hl hok).mono ?_; rintro e wx ⟨rfl, hb⟩; have hHX := hHeld.step hb))
    refine hK.out _ _ (by exact hHX) (fun hHeld => ?_)
    clear hK K
    refine wpAnyH_tk (i := 8) (v := _) 20 rfl rfl (by kernel_rfl) (by kernel_rfl) (by kernel_rfl) (fun _ _ _ h => h) (yields_eql (by rfl) 28 28 (.tmp 17) (.tmp 19) rfl (encs (Value.int .u8) (leafLay L)) (encs (Value.int .u8) (leafLay L)) rfl rfl true HE.out eqg28 rfl) hHeld ?_
    (try simp only [Act.put, List.setIfInBounds_toArray, List.set_cons_zero, List.set_cons_succ])
    refine wpAnyH_tk (i := 9) (v := ?vz11) 21 rfl rfl (by kernel_rfl) (by kernel_rfl) (by kernel_rfl) (fun _ _ _ h => h) (Or.inl ⟨by rfl, ?yz11⟩) hHeld ?rz11
    case yz11 => (intro w hSw; go_simp; try with_reducible rfl)
    (try simp only [Act.put, List.setIfInBounds_toArray, List.set_cons_zero, List.set_cons_succ])
    refine wpAnyH_tk (i := 10) (v := ?vz12) 2 rfl rfl (by kernel_rfl) (by kernel_rfl) (by kernel_rfl) (fun _ _ _ h => h) (Or.inl ⟨by rfl, ?yz12⟩) hHeld ?rz12
    case yz12 => (intro w hSw; go_simp; try with_reducible rfl)
    (try simp only [Act.put, List.setIfInBounds_toArray, List.set_cons_zero, List.set_cons_succ])
    refine wpAnyH_done (by kernel_rfl) ?_ _
    skip
    go_wp2_with fail
    go_ret
    exact ⟨rfl, hHX.below⟩
end Go.Proofs.Ytmkkkenpjealdaa.PageLaws
