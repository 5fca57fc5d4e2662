/- The walks of layer 8's statements: MastLays, MastReads, MastOnly. -/
import Derived.Test.YtmkkkenpjealdaaMastAwake
import Derived.Test.YtmkkkenpjealdaaPageLaws2
namespace Go.Proofs.Ytmkkkenpjealdaa.MastLaws
set_option linter.unusedSimpArgs false
set_option linter.unusedVariables false
open Go.RowKit Go.Proofs.YtmkkkenpjealdaaW.PrintWords Go.Proofs.YtmkkkenpjealdaaW.PrintLast Go.Proofs.YtmkkkenpjealdaaW.PrintMore PlainWord CrcPlain PlainSec CrcMem CrcWalks CrcRef Arr SecWord SecMem SecRef LeafWalks PageLaws RecWalks MastWalks

def kMast : Kd Mast := Kd.iso (Kd.pair Kd.bool (Kd.pair (Kd.int .i64) (Kd.pair (Kd.int .i64) (Kd.pair (Kd.int .i64) (Kd.pair (Kd.int .i64) (Kd.int .u32)))))) (fun m : Mast => (m.foot, m.gen, m.epoch, m.seq, m.pages, m.sum))
def gMast (m : Mast) : Prop := True ∧ (Lit.int .i64 m.gen).wf = true ∧ (Lit.int .i64 m.epoch).wf = true ∧ (Lit.int .i64 m.seq).wf = true ∧ (Lit.int .i64 m.pages).wf = true ∧ (Lit.int .u32 m.sum).wf = true
def kGeom : Kd Geom := Kd.iso (Kd.pair (Kd.int .i64) (Kd.pair (Kd.int .i64) (Kd.pair (Kd.int .i64) (Kd.pair (Kd.int .i64) (Kd.int .i64))))) (fun g : Geom => (g.conv, g.soft, g.seq, g.size, g.opn))
def gGeom (g : Geom) : Prop := (Lit.int .i64 g.conv).wf = true ∧ (Lit.int .i64 g.soft).wf = true ∧ (Lit.int .i64 g.seq).wf = true ∧ (Lit.int .i64 g.size).wf = true ∧ (Lit.int .i64 g.opn).wf = true
section
attribute [local irreducible] Dec.Dec Dec.DecF
theorem dec56 : Dec.Dec Try.prog 56 kMast gMast :=
  Dec.dec_struct (k := Kd.pair Kd.bool (Kd.pair (Kd.int .i64) (Kd.pair (Kd.int .i64) (Kd.pair (Kd.int .i64) (Kd.pair (Kd.int .i64) (Kd.int .u32)))))) (G := fun x => True ∧ (Lit.int .i64 x.2.1).wf = true ∧ (Lit.int .i64 x.2.2.1).wf = true ∧ (Lit.int .i64 x.2.2.2.1).wf = true ∧ (Lit.int .i64 x.2.2.2.2.1).wf = true ∧ (Lit.int .u32 x.2.2.2.2.2).wf = true) (pr := fun m : Mast => (m.foot, m.gen, m.epoch, m.seq, m.pages, m.sum)) Try.underlying56 (by kernel_rfl)
    (Dec.decf_cons (Dec.dec_bool Try.underlying4) rfl (by kernel_rfl) (Dec.decf_cons (Dec.dec_int Try.underlying3) rfl (by kernel_rfl) (Dec.decf_cons (Dec.dec_int Try.underlying3) rfl (by kernel_rfl) (Dec.decf_cons (Dec.dec_int Try.underlying3) rfl (by kernel_rfl) (Dec.decf_cons (Dec.dec_int Try.underlying3) rfl (by kernel_rfl) (Dec.decf_one (Dec.dec_int Try.underlying54) rfl (by kernel_rfl))))))) (fun ⟨a, b, c, d, e, f⟩ => ⟨⟨a, b, c, d, e, f⟩, rfl⟩)
theorem dec64 : Dec.Dec Try.prog 64 kGeom gGeom :=
  Dec.dec_struct (k := Kd.pair (Kd.int .i64) (Kd.pair (Kd.int .i64) (Kd.pair (Kd.int .i64) (Kd.pair (Kd.int .i64) (Kd.int .i64))))) (G := fun x => (Lit.int .i64 x.1).wf = true ∧ (Lit.int .i64 x.2.1).wf = true ∧ (Lit.int .i64 x.2.2.1).wf = true ∧ (Lit.int .i64 x.2.2.2.1).wf = true ∧ (Lit.int .i64 x.2.2.2.2).wf = true) (pr := fun g : Geom => (g.conv, g.soft, g.seq, g.size, g.opn)) Try.underlying64 (by kernel_rfl)
    (Dec.decf_cons (Dec.dec_int Try.underlying3) rfl (by kernel_rfl) (Dec.decf_cons (Dec.dec_int Try.underlying3) rfl (by kernel_rfl) (Dec.decf_cons (Dec.dec_int Try.underlying3) rfl (by kernel_rfl) (Dec.decf_cons (Dec.dec_int Try.underlying3) rfl (by kernel_rfl) (Dec.decf_one (Dec.dec_int Try.underlying3) rfl (by kernel_rfl)))))) (fun ⟨a, b, c, d, e⟩ => ⟨⟨a, b, c, d, e⟩, rfl⟩)
end
theorem mast_cells {w : World} {m : Mast} {cs : Array Value} (h : kMast.K w m cs.toList) : cs = (mastC m).toArray := by
  obtain ⟨c1, c2, h1, h2, c3, c4, h3, h4, c5, c6, h5, h6, c7, c8, h7, h8, c9, c10, h9, h10, h11⟩ := h
  have e : cs.toList = mastC m := by
    rw [h1, h2, h3, h4, h5, h6, h7, h8, h9, h10, h11]
    rfl
  rw [← e]
theorem geom_cells {w : World} {g : Geom} {cs : Array Value} (h : kGeom.K w g cs.toList) : cs = (geomC g).toArray := by
  obtain ⟨c1, c2, h1, h2, c3, c4, h3, h4, c5, c6, h5, h6, c7, c8, h7, h8, h9⟩ := h
  have e : cs.toList = geomC g := by
    rw [h1, h2, h3, h4, h5, h6, h7, h8, h9]
    rfl
  rw [← e]
theorem bounds_u32 {x : Int} (h : (Lit.int .u32 x).wf = true) : 0 ≤ x ∧ x ≤ 4294967295 := by
  simp [Lit.wf, IntKind.min, IntKind.max, IntKind.signed, IntKind.bits] at h
  omega
theorem mast_wf {m : Mast} (h : gMast m) : mastWf m := ⟨bounds_i64 h.2.1, bounds_i64 h.2.2.1, bounds_i64 h.2.2.2.1, bounds_i64 h.2.2.2.2.1, bounds_u32 h.2.2.2.2.2⟩
theorem geom_wf {g : Geom} (h : gGeom g) : geomWf g := ⟨bounds_i64 h.1, bounds_i64 h.2.1, bounds_i64 h.2.2.1, bounds_i64 h.2.2.2.1, bounds_i64 h.2.2.2.2⟩
set_option maxHeartbeats 4000000 in
theorem lays_walk (W : World) (m : Mast) (cs : Array Value) (hK : kMast.K W m cs.toList) (hG : gMast m) : Calls Try.prog 12 #[.agg cs] W (Holds W) := by
  obtain rfl := mast_cells hK
  have hw := mast_wf hG
  have hsu := hw.sum
  have HW := Aside0.mk (Keeps.refl W)
  have hll := mastLay_length m
  have HE := Aside0.mk (eq28 hll hll (mastLay_bytes m) (mastLay_bytes m))
  rw [decide_eq_true rfl] at HE
  clear hK hG hw
  go_enter Try.func12, Try.ntmps12
  go_wp2_with ((with_reducible refine gate_dst (N := 1) rfl ?_); refine box56 rfl (.tmp 0) rfl m rfl ?_; intro w1 a1 h1 h2 h3; have H1 := Aside0.mk (HW.out.new h3 h2); clear h2 h3)
  obtain ⟨b, hb⟩ : ∃ b, b = mastOk m := ⟨_, rfl⟩
  have HB := Aside0.mk hb
  clear hb
  refine wp_region_held_drew (S := (fun w' => Keeps W [(a1, 56, mastC m)] w')) (by kernel_rfl) (by exact H1.out.drew) (fun hHeld => ?_)
  refine wpAnyH_one (i := 0) (by kernel_rfl) rfl (fun K hK => ?_)
  go_simp
  go_wp2_with ((go_at_call 34; refine (MastWalks.awake_calls _).mono ?_; rintro e wx ⟨rfl, hb⟩; have hHX := hHeld.step hb))
  refine hK.out _ _ (by exact hHX) (fun hHeld => ?_)
  clear hK K
  refine wpAnyH_tk (i := 1) (v := ?vz1) 4 rfl rfl (by kernel_rfl) (by kernel_rfl) (by kernel_rfl) (fun _ _ _ h => h) (Or.inl ⟨by rfl, ?yz1⟩) hHeld ?rz1
  case yz1 => (intro w hSw; go_simp; try with_reducible rfl)
  (try simp only [Act.put, List.setIfInBounds_toArray, List.set_cons_zero, List.set_cons_succ])
  refine wpAnyH_tk (i := 2) (v := ?vz2) 5 rfl rfl (by kernel_rfl) (by kernel_rfl) (by kernel_rfl) (fun _ _ _ h => h) (Or.inl ⟨by rfl, ?yz2⟩) hHeld ?rz2
  case yz2 => (intro w hSw; go_simp; try with_reducible rfl)
  (try simp only [Act.put, List.setIfInBounds_toArray, List.set_cons_zero, List.set_cons_succ])
  refine wpAnyH_tk (i := 3) (v := _) 6 rfl rfl (by kernel_rfl) (by kernel_rfl) (by kernel_rfl) (fun _ _ _ h => h) (yields_load (by rfl) 56 (.tmp 1) rfl a1 rfl (fun _ h => h.head) Try.underlying56 rfl (size56 m)) hHeld ?_
  (try simp only [Act.put, List.setIfInBounds_toArray, List.set_cons_zero, List.set_cons_succ])
  refine wpAnyH_tk (i := 5) (v := _) 8 rfl rfl (by kernel_rfl) (by kernel_rfl) (by kernel_rfl) (fun _ _ _ h => h) (yields_load (by rfl) 56 (.tmp 1) rfl a1 rfl (fun _ h => h.head) Try.underlying56 rfl (size56 m)) hHeld ?_
  (try simp only [Act.put, List.setIfInBounds_toArray, List.set_cons_zero, List.set_cons_succ])
  refine wpAnyH_one (i := 4) (by kernel_rfl) rfl (fun K hK => ?_)
  go_simp
  go_wp2_with ((go_at_call 35; refine (MastWalks.right_calls _ m).mono ?_; rintro e wx ⟨rfl, hb⟩; rw [← HB.out]; have hHX := hHeld.step hb))
  refine hK.out _ _ (by exact hHX) (fun hHeld => ?_)
  clear hK K
  refine wpAnyH_one (i := 6) (by kernel_rfl) rfl (fun K hK => ?_)
  go_simp
  go_wp2_with ((go_at_call 36; refine (MastWalks.refright_calls _ m).mono ?_; rintro e wx ⟨rfl, hb⟩; rw [← HB.out]; have hHX := hHeld.step hb))
  refine hK.out _ _ (by exact hHX) (fun hHeld => ?_)
  clear hK K
  refine wpAnyH_tk (i := 7) (v := ?vz3) 10 rfl rfl (by kernel_rfl) (by kernel_rfl) (by kernel_rfl) (fun _ _ _ h => h) (Or.inl ⟨by rfl, ?yz3⟩) hHeld ?rz3
  case yz3 => (intro w hSw; go_simp; try with_reducible rfl)
  (try simp only [Act.put, List.setIfInBounds_toArray, List.set_cons_zero, List.set_cons_succ])
  refine wpAnyH_tk (i := 8) (v := ?vz4) 11 rfl rfl (by kernel_rfl) (by kernel_rfl) (by kernel_rfl) (fun _ _ _ h => h) (Or.inl ⟨by rfl, ?yz4⟩) hHeld ?rz4
  case yz4 => (intro w hSw; go_simp; try with_reducible rfl)
  (try simp only [Act.put, List.setIfInBounds_toArray, List.set_cons_zero, List.set_cons_succ])
  refine wpAnyH_done (by kernel_rfl) ?_ _
  skip
  go_wp2_with fail
  have H2 := Aside0.mk (show Keeps W [(a1, 56, mastC m)] wx from hHeld)
  clear hHeld hHX hb
  cases b
  · skip
    refine wp_region_held_drew (S := (fun w' => Keeps W [(a1, 56, mastC m)] w')) (by kernel_rfl) (by exact H2.out.drew) (fun hHeld => ?_)
    refine wpAnyH_tk (i := 0) (v := _) 12 rfl rfl (by kernel_rfl) (by kernel_rfl) (by kernel_rfl) (fun _ _ _ h => h) (yields_load (by rfl) 56 (.tmp 1) rfl a1 rfl (fun _ h => h.head) Try.underlying56 rfl (size56 m)) hHeld ?_
    (try simp only [Act.put, List.setIfInBounds_toArray, List.set_cons_zero, List.set_cons_succ])
    refine wpAnyH_one (i := 1) (by kernel_rfl) rfl (fun K hK => ?_)
    go_simp
    go_wp2_with ((go_at_call 36; refine (MastWalks.refright_calls _ m).mono ?_; rintro e wx ⟨rfl, hb⟩; rw [← HB.out]; have hHX := hHeld.step hb))
    refine hK.out _ _ (by exact hHX) (fun hHeld => ?_)
    clear hK K
    refine wpAnyH_tk (i := 2) (v := ?vz5) 14 rfl rfl (by kernel_rfl) (by kernel_rfl) (by kernel_rfl) (fun _ _ _ h => h) (Or.inl ⟨by rfl, ?yz5⟩) hHeld ?rz5
    case yz5 => (intro w hSw; go_simp; try with_reducible rfl)
    (try simp only [Act.put, List.setIfInBounds_toArray, List.set_cons_zero, List.set_cons_succ])
    refine wpAnyH_tk (i := 3) (v := ?vz6) 15 rfl rfl (by kernel_rfl) (by kernel_rfl) (by kernel_rfl) (fun _ _ _ h => h) (Or.inl ⟨by rfl, ?yz6⟩) hHeld ?rz6
    case yz6 => (intro w hSw; go_simp; try with_reducible rfl)
    (try simp only [Act.put, List.setIfInBounds_toArray, List.set_cons_zero, List.set_cons_succ])
    refine wpAnyH_tk (i := 4) (v := undef) 16 rfl rfl (by kernel_rfl) (by kernel_rfl) (by kernel_rfl) (fun _ _ _ h => h) (yields_not (by rfl)) hHeld ?_
    (try simp only [Act.put, List.setIfInBounds_toArray, List.set_cons_zero, List.set_cons_succ])
    refine wpAnyH_tk (i := 5) (v := undef) 17 rfl rfl (by kernel_rfl) (by kernel_rfl) (by kernel_rfl) (fun _ _ _ h => h) (yields_not (by rfl)) hHeld ?_
    (try simp only [Act.put, List.setIfInBounds_toArray, List.set_cons_zero, List.set_cons_succ])
    refine wpAnyH_tk (i := 6) (v := undef) 18 rfl rfl (by kernel_rfl) (by kernel_rfl) (by kernel_rfl) (fun _ _ _ h => h) (yields_not (by rfl)) hHeld ?_
    (try simp only [Act.put, List.setIfInBounds_toArray, List.set_cons_zero, List.set_cons_succ])
    refine wpAnyH_tk (i := 7) (v := undef) 19 rfl rfl (by kernel_rfl) (by kernel_rfl) (by kernel_rfl) (fun _ _ _ h => h) (yields_not (by rfl)) hHeld ?_
    (try simp only [Act.put, List.setIfInBounds_toArray, List.set_cons_zero, List.set_cons_succ])
    refine wpAnyH_tk (i := 8) (v := undef) 20 rfl rfl (by kernel_rfl) (by kernel_rfl) (by kernel_rfl) (fun _ _ _ h => h) (yields_not (by rfl)) hHeld ?_
    (try simp only [Act.put, List.setIfInBounds_toArray, List.set_cons_zero, List.set_cons_succ])
    refine wpAnyH_tk (i := 9) (v := ?vz7) 21 rfl rfl (by kernel_rfl) (by kernel_rfl) (by kernel_rfl) (fun _ _ _ h => h) (Or.inl ⟨by rfl, ?yz7⟩) hHeld ?rz7
    case yz7 => (intro w hSw; go_simp; try with_reducible rfl)
    (try simp only [Act.put, List.setIfInBounds_toArray, List.set_cons_zero, List.set_cons_succ])
    refine wpAnyH_tk (i := 10) (v := ?vz8) 2 rfl rfl (by kernel_rfl) (by kernel_rfl) (by kernel_rfl) (fun _ _ _ h => h) (Or.inl ⟨by rfl, ?yz8⟩) hHeld ?rz8
    case yz8 => (intro w hSw; go_simp; try with_reducible rfl)
    (try simp only [Act.put, List.setIfInBounds_toArray, List.set_cons_zero, List.set_cons_succ])
    refine wpAnyH_done (by kernel_rfl) ?_ _
    skip
    go_wp2_with fail
    go_ret
    exact ⟨rfl, hHX.below⟩
  · have hok : mastOk m = true := HB.out.symm
    refine wp_region_held_drew (S := (fun w' => Keeps W [(a1, 56, mastC m)] w')) (by kernel_rfl) (by exact H2.out.drew) (fun hHeld => ?_)
    refine wpAnyH_tk (i := 0) (v := _) 12 rfl rfl (by kernel_rfl) (by kernel_rfl) (by kernel_rfl) (fun _ _ _ h => h) (yields_load (by rfl) 56 (.tmp 1) rfl a1 rfl (fun _ h => h.head) Try.underlying56 rfl (size56 m)) hHeld ?_
    (try simp only [Act.put, List.setIfInBounds_toArray, List.set_cons_zero, List.set_cons_succ])
    refine wpAnyH_one (i := 1) (by kernel_rfl) rfl (fun K hK => ?_)
    go_simp
    go_wp2_with ((go_at_call 36; refine (MastWalks.refright_calls _ m).mono ?_; rintro e wx ⟨rfl, hb⟩; rw [← HB.out]; have hHX := hHeld.step hb))
    refine hK.out _ _ (by exact hHX) (fun hHeld => ?_)
    clear hK K
    refine wpAnyH_tk (i := 2) (v := ?vz9) 14 rfl rfl (by kernel_rfl) (by kernel_rfl) (by kernel_rfl) (fun _ _ _ h => h) (Or.inl ⟨by rfl, ?yz9⟩) hHeld ?rz9
    case yz9 => (intro w hSw; go_simp; try with_reducible rfl)
    (try simp only [Act.put, List.setIfInBounds_toArray, List.set_cons_zero, List.set_cons_succ])
    refine wpAnyH_tk (i := 3) (v := ?vz10) 15 rfl rfl (by kernel_rfl) (by kernel_rfl) (by kernel_rfl) (fun _ _ _ h => h) (Or.inl ⟨by rfl, ?yz10⟩) hHeld ?rz10
    case yz10 => (intro w hSw; go_simp; try with_reducible rfl)
    (try simp only [Act.put, List.setIfInBounds_toArray, List.set_cons_zero, List.set_cons_succ])
    refine wpAnyH_tk (i := 4) (v := _) 16 rfl rfl (by kernel_rfl) (by kernel_rfl) (by kernel_rfl) (fun _ _ _ h => h) (yields_load (by rfl) 56 (.tmp 1) rfl a1 rfl (fun _ h => h.head) Try.underlying56 rfl (size56 m)) hHeld ?_
    (try simp only [Act.put, List.setIfInBounds_toArray, List.set_cons_zero, List.set_cons_succ])
    refine wpAnyH_tk (i := 6) (v := _) 18 rfl rfl (by kernel_rfl) (by kernel_rfl) (by kernel_rfl) (fun _ _ _ h => h) (yields_load (by rfl) 56 (.tmp 1) rfl a1 rfl (fun _ h => h.head) Try.underlying56 rfl (size56 m)) hHeld ?_
    (try simp only [Act.put, List.setIfInBounds_toArray, List.set_cons_zero, List.set_cons_succ])
    refine wpAnyH_one (i := 5) (by kernel_rfl) rfl (fun K hK => ?_)
    go_simp
    go_wp2_with ((go_at_call 37; refine (MastWalks.lay_calls _ m hsu hok).mono ?_; rintro e wx ⟨rfl, hb⟩; have hHX := hHeld.step hb))
    refine hK.out _ _ (by exact hHX) (fun hHeld => ?_)
    clear hK K
    refine wpAnyH_one (i := 7) (by kernel_rfl) rfl (fun K hK => ?_)
    go_simp
    go_wp2_with ((go_at_call 38; refine (MastWalks.reflay_calls _ m hsu hok).mono ?_; rintro e wx ⟨rfl, hb⟩; have hHX := hHeld.step hb))
    refine hK.out _ _ (by exact hHX) (fun hHeld => ?_)
    clear hK K
    refine wpAnyH_tk (i := 8) (v := _) 20 rfl rfl (by kernel_rfl) (by kernel_rfl) (by kernel_rfl) (fun _ _ _ h => h) (yields_eql (by rfl) 28 28 (.tmp 17) (.tmp 19) rfl (encs (Value.int .u8) (mastLay m)) (encs (Value.int .u8) (mastLay m)) rfl rfl true HE.out eqg28 rfl) hHeld ?_
    (try simp only [Act.put, List.setIfInBounds_toArray, List.set_cons_zero, List.set_cons_succ])
    refine wpAnyH_tk (i := 9) (v := ?vz11) 21 rfl rfl (by kernel_rfl) (by kernel_rfl) (by kernel_rfl) (fun _ _ _ h => h) (Or.inl ⟨by rfl, ?yz11⟩) hHeld ?rz11
    case yz11 => (intro w hSw; go_simp; try with_reducible rfl)
    (try simp only [Act.put, List.setIfInBounds_toArray, List.set_cons_zero, List.set_cons_succ])
    refine wpAnyH_tk (i := 10) (v := ?vz12) 2 rfl rfl (by kernel_rfl) (by kernel_rfl) (by kernel_rfl) (fun _ _ _ h => h) (Or.inl ⟨by rfl, ?yz12⟩) hHeld ?rz12
    case yz12 => (intro w hSw; go_simp; try with_reducible rfl)
    (try simp only [Act.put, List.setIfInBounds_toArray, List.set_cons_zero, List.set_cons_succ])
    refine wpAnyH_done (by kernel_rfl) ?_ _
    skip
    go_wp2_with fail
    go_ret
    exact ⟨rfl, hHX.below⟩
set_option maxRecDepth 10000 in
set_option maxHeartbeats 4000000 in
theorem reads_walk (W : World) (p : List Int) (cs : Array Value) (hK : (Dec.ints .u8 64).K W p cs.toList) (hG : ∀ x ∈ p, (Lit.int .u8 x).wf = true) (b : Bool) : Calls Try.prog 13 #[.agg cs, .bool b] W (Holds W) := by
  obtain ⟨rfl, hl⟩ := page_cells hK
  have HP := Aside0.mk (Bytes.of_wf hG)
  have HW := Aside0.mk (Keeps.refl W)
  clear hK hG
  go_enter Try.func13, Try.ntmps13
  go_wp2_with ((with_reducible refine gate_dst (N := 2) rfl ?_); refine box28 rfl (.tmp 0) rfl p rfl ?_; intro w1 a1 h1 h2 h3; have H1 := Aside0.mk (HW.out.new h3 h2); clear h2 h3)
  refine (MastWalks.awake_calls _).mono ?_
  rintro e w2 ⟨rfl, hb⟩
  have H2 := Aside0.mk (H1.out.step hb)
  clear hb H1
  go_upto_if 17 with (fail)
  go_cut [] from 5 to 31 (fun wc => ∃ q, Aside0 (Bytes q) ∧ q.length = 64 ∧ Aside0 (Keeps W [(a1, 28, encs (Value.int .u8) q)] wc))
  case first =>
    cases b
    · go_wp2_with fail
      go_meet
      case rel => exact ⟨p, HP, hl, H2⟩
    · have HB0 := Aside0.mk (Below.refl w2.heap.size w2)
      have ha1 := H2.out.head.lt
      have h60 : (p.take 60).length = 60 := by rw [List.length_take]; omega
      go_wp2_with (first | ((with_reducible refine gate_dst (N := 18) rfl ?_); refine lit0_u8 rfl 18 rfl rfl HB0.out (Nat.le_refl _) ?_; intro v3 w3 h6 h7 h8; have H6 := Aside0.mk h6; have H7 := Aside0.mk h7; have HC := Aside0.mk (BB.reads (H2.out.step h7).head 60 (by omega) (by omega)); clear h6 h7) | (at_builtin; refine apps_u8 rfl (.tmp 18) (.tmp 19) rfl v3 [] (some ⟨a1, 0, none⟩) (p.take 60) 64 rfl (by rw [h60]; rfl) H6.out (by rw [h60]; exact HC.out) H7.out h8 (by rw [h60]; decide) ?_; intro v4 w4 h9 h10 h11; rw [List.nil_append] at h9; obtain ⟨A4, c4, e4, hc4, hr4⟩ := RB.reads h9; rw [h60] at e4 hr4; subst e4; have HR4 := Aside0.mk hr4; have H10 := Aside0.mk h10; clear h9 h10 hr4))
      clear H6 H7 HC HB0
      refine (refseal_calls A4 60 c4 (p.take 60) _ HR4.out (bytes_take HP.out 60) (by rw [h60]; decide)).mono ?_
      rintro e w5 ⟨v5, rfl, h5r, h5b⟩
      have hsl : (sealL (p.take 60)).length = 64 := by rw [seal_length, h60]
      have hsb : Bytes (sealL (p.take 60)) := seal_bytes (bytes_take HP.out 60)
      obtain ⟨A5, c5, rfl⟩ := Kd.R_slice h5r
      rw [hsl] at h5r
      rw [hsl]
      have H5 := Aside0.mk ((H2.out.step H10.out).step h5b)
      have H5R := Aside0.mk (Kd.R_mono (Kd.R_bound h5r) (fun k h => show k ≠ a1 by have := h.2.1; have := H10.out.size; omega) : Kd.R (Kd.int .u8) 5 w5 w4.heap.size (fun k => k ≠ a1) (.slice A5 64 c5) (sealL (p.take 60)))
      clear h5r h5b HR4 H10 H2
      obtain ⟨s, hs⟩ : ∃ s, s = sealL (p.take 60) := ⟨_, rfl⟩
      rw [← hs] at H5R hsl hsb
      clear hs
      go_wp2_with fail
      go_loopw [6] (fun i wr => ∃ k : Nat, 60 ≤ k ∧ k ≤ 64 ∧ i = .int .i64 k ∧ Aside0 (Keeps W [(a1, 28, encs (Value.int .u8) (mendL p s k))] wr) ∧ Aside0 (Kd.R (Kd.int .u8) 5 wr w4.heap.size (fun k => k ≠ a1) (.slice A5 64 c5) s)) (fun i _ => 64 - (intOf i).toNat)
      case atStart => exact ⟨60, by omega, by omega, rfl, ⟨by rw [mendL_60]; exact H5.out⟩, H5R⟩
      case round =>
        clear H5 H5R
        obtain ⟨k, hk0, hk, rfl, HK, HR⟩ := hrel
        by_cases hlt : k < 64
        · have HS := Aside0.mk (Kd.R_reads' HR.out).2.2
          rw [hsl] at HS
          obtain ⟨ad, rfl, hx⟩ := Kd.at_int HS.out (k : Int) (by omega) (by omega)
          rw [Int.toNat_natCast] at hx
          have hc := Blk.encAt HK.out.head (0 : Int) k (by rw [mendL_length]; omega)
          have hf := HK.out.head.frozen k
          obtain ⟨y, hy⟩ : ∃ y, y = rd s (k : Int) := ⟨_, rfl⟩
          rw [← hy] at hx
          have HY := Aside0.mk (hy.trans (by rw [rd_nat, Int.toNat_natCast]) : y = s.getD k 0)
          clear hy
          go_wp2_with fail
          go_roundw
          case rel => exact ⟨k + 1, by omega, by omega, by go_num, ⟨HK.out.put (grown_set _ a1 k _) h1 (by simp) (by have := Blk.encSet HK.out.head k y; rwa [HY.out, mendL_succ p s k hk0 (by omega), ← HY.out] at this)⟩, ⟨Kd.R_far HR.out (fun _ h => h) _⟩⟩
          case measure => simp [intOf]; omega
        · obtain rfl : k = 64 := by omega
          go_wp2_with fail
          go_meet
          case rel => exact ⟨mendL p s 64, ⟨mendL_bytes HP.out hsb 64⟩, by rw [mendL_length]; exact hl, HK⟩
  case rest =>
    obtain ⟨q, HQ, hql, H3⟩ := hcut
    have hwl := mastRead_wf HQ.out
    have hwg := geomRead_wf HQ.out
    obtain ⟨L, hL⟩ : ∃ L, L = (mastRead q).1 := ⟨_, rfl⟩
    obtain ⟨n, hn⟩ : ∃ n, n = (mastRead q).2 := ⟨_, rfl⟩
    obtain ⟨G, hG⟩ : ∃ G, G = (geomRead q).1 := ⟨_, rfl⟩
    obtain ⟨c, hc⟩ : ∃ c, c = (geomRead q).2 := ⟨_, rfl⟩
    have HL := Aside0.mk hL
    have HN := Aside0.mk hn
    have HG := Aside0.mk hG
    have HC := Aside0.mk hc
    rw [← hL] at hwl
    rw [← hG] at hwg
    have HE := Aside0.mk (eq56 hwl hwl (b := true) (by simp))
    have HE2 := Aside0.mk (eq64 hwg hwg (b := true) (by simp))
    clear hL hn hG hc HP hwl hwg
    go_wp2_with ((with_reducible refine gate_dst (N := 33) rfl ?_); refine load28 rfl (.tmp 2) rfl a1 rfl H3.out.head hql ?_)
    refine (MastWalks.read_calls _ q HQ.out hql).mono ?_
    rintro e w6 ⟨rfl, hb⟩
    rw [← HL.out, ← HN.out]
    have H4 := Aside0.mk (H3.out.step hb)
    clear hb H3
    go_wp2_with (first | ((with_reducible refine gate_dst (N := 7) rfl ?_); refine alloc56 rfl rfl ?_; intro w7 a2 h7 h8 h9; have H5 := Aside0.mk (H4.out.new h9 h8); have hb2 : W.heap.size ≤ a2 := Nat.le_trans H4.out.size h7; have HN2 := Aside0.mk (fun b hb => Nat.ne_of_lt (Nat.lt_of_lt_of_le (H4.out.lt hb) h7) : ∀ b ∈ _, b.1 ≠ a2); clear h8 h9) | ((with_reducible refine gate_store (t := 56) (p := 7) rfl ?_); refine store56 rfl rfl (.tmp 7) (.tmp 35) rfl a2 rfl L rfl H5.out.head ?_; intro w8 h10 h11 h12; have H6 := Aside0.mk (H5.out.put h11 hb2 HN2.out h10); clear h10 h11) | ((with_reducible refine gate_dst (N := 38) rfl ?_); refine load28 rfl (.tmp 2) rfl a1 rfl H6.out.tail.head hql ?_))
    refine (MastWalks.refread_calls _ q HQ.out hql).mono ?_
    rintro e w9 ⟨rfl, hb⟩
    rw [← HL.out, ← HN.out]
    have H7 := Aside0.mk (H6.out.step hb)
    clear hb H6 H5 H4 HN2
    go_wp2_with (first | ((with_reducible refine gate_dst (N := 9) rfl ?_); refine alloc56 rfl rfl ?_; intro w10 a3 h7 h8 h9; have H8 := Aside0.mk (H7.out.new h9 h8); have hb3 : W.heap.size ≤ a3 := Nat.le_trans H7.out.size h7; have HN3 := Aside0.mk (fun b hb => Nat.ne_of_lt (Nat.lt_of_lt_of_le (H7.out.lt hb) h7) : ∀ b ∈ _, b.1 ≠ a3); clear h8 h9) | ((with_reducible refine gate_store (t := 56) (p := 9) rfl ?_); refine store56 rfl rfl (.tmp 9) (.tmp 40) rfl a3 rfl L rfl H8.out.head ?_; intro w11 h10 h11 h12; have H9 := Aside0.mk (H8.out.put h11 hb3 HN3.out h10); clear h10 h11) | ((with_reducible refine gate_dst (N := 43) rfl ?_); refine load28 rfl (.tmp 2) rfl a1 rfl H9.out.tail.tail.head hql ?_))
    refine (GeomWalks.read_calls _ q HQ.out hql).mono ?_
    rintro e w12 ⟨rfl, hb⟩
    rw [← HG.out, ← HC.out]
    have H10 := Aside0.mk (H9.out.step hb)
    clear hb H9 H8 H7 HN3
    go_wp2_with (first | ((with_reducible refine gate_dst (N := 11) rfl ?_); refine alloc64 rfl rfl ?_; intro w13 a4 h7 h8 h9; have H11 := Aside0.mk (H10.out.new h9 h8); have hb4 : W.heap.size ≤ a4 := Nat.le_trans H10.out.size h7; have HN4 := Aside0.mk (fun b hb => Nat.ne_of_lt (Nat.lt_of_lt_of_le (H10.out.lt hb) h7) : ∀ b ∈ _, b.1 ≠ a4); clear h8 h9) | ((with_reducible refine gate_store (t := 64) (p := 11) rfl ?_); refine store64 rfl rfl (.tmp 11) (.tmp 45) rfl a4 rfl G rfl H11.out.head ?_; intro w14 h10 h11 h12; have H12 := Aside0.mk (H11.out.put h11 hb4 HN4.out h10); clear h10 h11) | ((with_reducible refine gate_dst (N := 48) rfl ?_); refine load28 rfl (.tmp 2) rfl a1 rfl H12.out.tail.tail.tail.head hql ?_))
    refine (GeomWalks.refread_calls _ q HQ.out hql).mono ?_
    rintro e w15 ⟨rfl, hb⟩
    rw [← HG.out, ← HC.out]
    have H13 := Aside0.mk (H12.out.step hb)
    clear hb H12 H11 H10 HN4
    go_wp2_with (first | ((with_reducible refine gate_dst (N := 13) rfl ?_); refine alloc64 rfl rfl ?_; intro w16 a5 h7 h8 h9; have H14 := Aside0.mk (H13.out.new h9 h8); have hb5 : W.heap.size ≤ a5 := Nat.le_trans H13.out.size h7; have HN5 := Aside0.mk (fun b hb => Nat.ne_of_lt (Nat.lt_of_lt_of_le (H13.out.lt hb) h7) : ∀ b ∈ _, b.1 ≠ a5); clear h8 h9) | ((with_reducible refine gate_store (t := 64) (p := 13) rfl ?_); refine store64 rfl rfl (.tmp 13) (.tmp 50) rfl a5 rfl G rfl H14.out.head ?_; intro w17 h10 h11 h12; have H15 := Aside0.mk (H14.out.put h11 hb5 HN5.out h10); clear h10 h11) | ((with_reducible refine gate_dst (N := 52) rfl ?_); refine load56 (m := L) rfl (.tmp 7) rfl a2 rfl H15.out.tail.tail.tail.head ?_) | ((with_reducible refine gate_dst (N := 53) rfl ?_); refine load56 (m := L) rfl (.tmp 9) rfl a3 rfl H15.out.tail.tail.head ?_) | ((with_reducible refine gate_dst (N := 54) rfl ?_); refine wpl_eql rfl 56 56 (.tmp 52) (.tmp 53) rfl (mastC L) (mastC L) rfl rfl true HE.out eqg56 rfl ?_) | ((with_reducible refine gate_dst (N := 61) rfl ?_); refine gate_guard (by rfl) ?_; refine load64 (m := G) rfl (.tmp 11) rfl a4 rfl H15.out.tail.head ?_) | ((with_reducible refine gate_dst (N := 62) rfl ?_); refine gate_guard (by rfl) ?_; refine load64 (m := G) rfl (.tmp 13) rfl a5 rfl H15.out.head ?_) | ((with_reducible refine gate_dst (N := 63) rfl ?_); refine gate_guard (by rfl) ?_; refine wpl_eql rfl 64 64 (.tmp 61) (.tmp 62) rfl (geomC G) (geomC G) rfl rfl true HE2.out eqg64 rfl ?_))
    go_ret
    exact ⟨by simp, H15.out.below⟩
theorem not_both (q : List Int) (h : (mastRead q).2 = 0) : (geomRead q).2 ≠ 0 := by
  obtain ⟨h1, h2⟩ := mastRead_ok h
  have hm := mastLay_mark (mastRead q).1
  rw [h2] at hm
  have hg : geomRead q = (geom0, 7) ∨ geomRead q = (geom0, 8) := by
    by_cases hr : rightB q = true
    · exact Or.inl (GeomWalks.geomRead_mark q hr (by rcases mastMark_two (mastRead q).1 with e | e <;> rw [hm, e] <;> decide))
    · right
      unfold geomRead
      rw [if_neg hr]
  rcases hg with e | e <;> rw [e] <;> decide
set_option maxRecDepth 10000 in
set_option maxHeartbeats 4000000 in
theorem only_walk (W : World) (p : List Int) (cs : Array Value) (hK : (Dec.ints .u8 64).K W p cs.toList) (hG : ∀ x ∈ p, (Lit.int .u8 x).wf = true) (b : Bool) : Calls Try.prog 15 #[.agg cs, .bool b] W (Holds W) := by
  obtain ⟨rfl, hl⟩ := page_cells hK
  have HP := Aside0.mk (Bytes.of_wf hG)
  have HW := Aside0.mk (Keeps.refl W)
  clear hK hG
  go_enter Try.func15, Try.ntmps15
  go_wp2_with ((with_reducible refine gate_dst (N := 2) rfl ?_); refine box28 rfl (.tmp 0) rfl p rfl ?_; intro w1 a1 h1 h2 h3; have H1 := Aside0.mk (HW.out.new h3 h2); clear h2 h3)
  refine (MastWalks.awake_calls _).mono ?_
  rintro e w2 ⟨rfl, hb⟩
  have H2 := Aside0.mk (H1.out.step hb)
  clear hb H1
  go_upto_if 13 with (fail)
  go_cut [] from 5 to 27 (fun wc => ∃ q, Aside0 (Bytes q) ∧ q.length = 64 ∧ Aside0 (Keeps W [(a1, 28, encs (Value.int .u8) q)] wc))
  case first =>
    cases b
    · go_wp2_with fail
      go_meet
      case rel => exact ⟨p, HP, hl, H2⟩
    · have HB0 := Aside0.mk (Below.refl w2.heap.size w2)
      have ha1 := H2.out.head.lt
      have h60 : (p.take 60).length = 60 := by rw [List.length_take]; omega
      go_wp2_with (first | ((with_reducible refine gate_dst (N := 14) rfl ?_); refine lit0_u8 rfl 14 rfl rfl HB0.out (Nat.le_refl _) ?_; intro v3 w3 h6 h7 h8; have H6 := Aside0.mk h6; have H7 := Aside0.mk h7; have HC := Aside0.mk (BB.reads (H2.out.step h7).head 60 (by omega) (by omega)); clear h6 h7) | (at_builtin; refine apps_u8 rfl (.tmp 14) (.tmp 15) rfl v3 [] (some ⟨a1, 0, none⟩) (p.take 60) 64 rfl (by rw [h60]; rfl) H6.out (by rw [h60]; exact HC.out) H7.out h8 (by rw [h60]; decide) ?_; intro v4 w4 h9 h10 h11; rw [List.nil_append] at h9; obtain ⟨A4, c4, e4, hc4, hr4⟩ := RB.reads h9; rw [h60] at e4 hr4; subst e4; have HR4 := Aside0.mk hr4; have H10 := Aside0.mk h10; clear h9 h10 hr4))
      clear H6 H7 HC HB0
      refine (refseal_calls A4 60 c4 (p.take 60) _ HR4.out (bytes_take HP.out 60) (by rw [h60]; decide)).mono ?_
      rintro e w5 ⟨v5, rfl, h5r, h5b⟩
      have hsl : (sealL (p.take 60)).length = 64 := by rw [seal_length, h60]
      have hsb : Bytes (sealL (p.take 60)) := seal_bytes (bytes_take HP.out 60)
      obtain ⟨A5, c5, rfl⟩ := Kd.R_slice h5r
      rw [hsl] at h5r
      rw [hsl]
      have H5 := Aside0.mk ((H2.out.step H10.out).step h5b)
      have H5R := Aside0.mk (Kd.R_mono (Kd.R_bound h5r) (fun k h => show k ≠ a1 by have := h.2.1; have := H10.out.size; omega) : Kd.R (Kd.int .u8) 5 w5 w4.heap.size (fun k => k ≠ a1) (.slice A5 64 c5) (sealL (p.take 60)))
      clear h5r h5b HR4 H10 H2
      obtain ⟨s, hs⟩ : ∃ s, s = sealL (p.take 60) := ⟨_, rfl⟩
      rw [← hs] at H5R hsl hsb
      clear hs
      go_wp2_with fail
      go_loopw [6] (fun i wr => ∃ k : Nat, 60 ≤ k ∧ k ≤ 64 ∧ i = .int .i64 k ∧ Aside0 (Keeps W [(a1, 28, encs (Value.int .u8) (mendL p s k))] wr) ∧ Aside0 (Kd.R (Kd.int .u8) 5 wr w4.heap.size (fun k => k ≠ a1) (.slice A5 64 c5) s)) (fun i _ => 64 - (intOf i).toNat)
      case atStart => exact ⟨60, by omega, by omega, rfl, ⟨by rw [mendL_60]; exact H5.out⟩, H5R⟩
      case round =>
        clear H5 H5R
        obtain ⟨k, hk0, hk, rfl, HK, HR⟩ := hrel
        by_cases hlt : k < 64
        · have HS := Aside0.mk (Kd.R_reads' HR.out).2.2
          rw [hsl] at HS
          obtain ⟨ad, rfl, hx⟩ := Kd.at_int HS.out (k : Int) (by omega) (by omega)
          rw [Int.toNat_natCast] at hx
          have hc := Blk.encAt HK.out.head (0 : Int) k (by rw [mendL_length]; omega)
          have hf := HK.out.head.frozen k
          obtain ⟨y, hy⟩ : ∃ y, y = rd s (k : Int) := ⟨_, rfl⟩
          rw [← hy] at hx
          have HY := Aside0.mk (hy.trans (by rw [rd_nat, Int.toNat_natCast]) : y = s.getD k 0)
          clear hy
          go_wp2_with fail
          go_roundw
          case rel => exact ⟨k + 1, by omega, by omega, by go_num, ⟨HK.out.put (grown_set _ a1 k _) h1 (by simp) (by have := Blk.encSet HK.out.head k y; rwa [HY.out, mendL_succ p s k hk0 (by omega), ← HY.out] at this)⟩, ⟨Kd.R_far HR.out (fun _ h => h) _⟩⟩
          case measure => simp [intOf]; omega
        · obtain rfl : k = 64 := by omega
          go_wp2_with fail
          go_meet
          case rel => exact ⟨mendL p s 64, ⟨mendL_bytes HP.out hsb 64⟩, by rw [mendL_length]; exact hl, HK⟩
  case rest =>
    obtain ⟨q, HQ, hql, H3⟩ := hcut
    have hwl := mastRead_wf HQ.out
    have hwg := geomRead_wf HQ.out
    have hrk := @mastRead_ok q
    have hgk := @geomRead_ok q HQ.out
    have hnb := not_both q
    obtain ⟨L, hL⟩ : ∃ L, L = (mastRead q).1 := ⟨_, rfl⟩
    obtain ⟨n, hn⟩ : ∃ n, n = (mastRead q).2 := ⟨_, rfl⟩
    obtain ⟨G, hG⟩ : ∃ G, G = (geomRead q).1 := ⟨_, rfl⟩
    obtain ⟨c, hc⟩ : ∃ c, c = (geomRead q).2 := ⟨_, rfl⟩
    have HL := Aside0.mk hL
    have HN := Aside0.mk hn
    have HG := Aside0.mk hG
    have HC := Aside0.mk hc
    rw [← hL] at hwl hrk
    rw [← hG] at hwg hgk
    rw [← hn] at hrk hnb
    rw [← hc] at hgk hnb
    have HRK := Aside0.mk hrk
    have HGK := Aside0.mk hgk
    have HNB := Aside0.mk hnb
    have hsu := hwl.sum
    clear hL hn hG hc HP hwl hrk hgk hnb
    go_wp2_with ((with_reducible refine gate_dst (N := 29) rfl ?_); refine load28 rfl (.tmp 2) rfl a1 rfl H3.out.head hql ?_)
    refine (MastWalks.read_calls _ q HQ.out hql).mono ?_
    rintro e w6 ⟨rfl, hb⟩
    rw [← HL.out, ← HN.out]
    have H4 := Aside0.mk (H3.out.step hb)
    clear hb H3
    go_wp2_with (first | ((with_reducible refine gate_dst (N := 7) rfl ?_); refine alloc56 rfl rfl ?_; intro w7 a2 h7 h8 h9; have H5 := Aside0.mk (H4.out.new h9 h8); have hb2 : W.heap.size ≤ a2 := Nat.le_trans H4.out.size h7; have HN2 := Aside0.mk (fun b hb => Nat.ne_of_lt (Nat.lt_of_lt_of_le (H4.out.lt hb) h7) : ∀ b ∈ _, b.1 ≠ a2); clear h8 h9) | ((with_reducible refine gate_store (t := 56) (p := 7) rfl ?_); refine store56 rfl rfl (.tmp 7) (.tmp 31) rfl a2 rfl L rfl H5.out.head ?_; intro w8 h10 h11 h12; have H6 := Aside0.mk (H5.out.put h11 hb2 HN2.out h10); clear h10 h11) | ((with_reducible refine gate_dst (N := 34) rfl ?_); refine load28 rfl (.tmp 2) rfl a1 rfl H6.out.tail.head hql ?_))
    refine (GeomWalks.read_calls _ q HQ.out hql).mono ?_
    rintro e w9 ⟨rfl, hb⟩
    rw [← HG.out, ← HC.out]
    have H7 := Aside0.mk (H6.out.step hb)
    clear hb H6 H5 H4 HN2
    go_upto_region 11 with (first | ((with_reducible refine gate_dst (N := 9) rfl ?_); refine alloc64 rfl rfl ?_; intro w10 a3 h7 h8 h9; have H8 := Aside0.mk (H7.out.new h9 h8); have hb3 : W.heap.size ≤ a3 := Nat.le_trans H7.out.size h7; have HN3 := Aside0.mk (fun b hb => Nat.ne_of_lt (Nat.lt_of_lt_of_le (H7.out.lt hb) h7) : ∀ b ∈ _, b.1 ≠ a3); clear h8 h9) | ((with_reducible refine gate_store (t := 64) (p := 9) rfl ?_); refine store64 rfl rfl (.tmp 9) (.tmp 36) rfl a3 rfl G rfl H8.out.head ?_; intro w11 h10 h11 h12; have H9 := Aside0.mk (H8.out.put h11 hb3 HN3.out h10); clear h10 h11))
    clear H8 H7 HN3
    go_cut [54] from 38 to 53 (fun v wc => v = .bool false ∧ Aside0 (Keeps W [(a3, 64, geomC G), (a2, 56, mastC L), (a1, 28, encs (Value.int .u8) q)] wc))
    case first =>
      by_cases hn0 : n = 0
      · have hc0 : (c == 0) = false := by simp; exact HNB.out hn0
        subst hn0
        obtain ⟨hok, hlay⟩ := HRK.out rfl
        have HE := Aside0.mk (eq28 (mastLay_length L) hql (mastLay_bytes L) HQ.out)
        rw [decide_eq_true hlay] at HE
        have HOK := Aside0.mk hok
        clear hok hlay
        refine wp_region_held_drew (S := (fun w' => Keeps W [(a3, 64, geomC G), (a2, 56, mastC L), (a1, 28, encs (Value.int .u8) q)] w')) (by kernel_rfl) (by exact H9.out.drew) (fun hHeld => ?_)
        refine wpAnyH_tk (i := 0) (v := ?vz13) 38 rfl rfl (by kernel_rfl) (by kernel_rfl) (by kernel_rfl) (fun _ _ _ h => h) (Or.inl ⟨by rfl, ?yz13⟩) hHeld ?rz13
        case yz13 => (intro w hSw; go_simp; try with_reducible rfl)
        (try simp only [Act.put, List.setIfInBounds_toArray, List.set_cons_zero, List.set_cons_succ])
        refine wpAnyH_tk (i := 1) (v := ?vz14) 39 rfl rfl (by kernel_rfl) (by kernel_rfl) (by kernel_rfl) (fun _ _ _ h => h) (Or.inl ⟨by rfl, ?yz14⟩) hHeld ?rz14
        case yz14 => (intro w hSw; go_simp; try with_reducible rfl)
        (try simp only [Act.put, List.setIfInBounds_toArray, List.set_cons_zero, List.set_cons_succ])
        refine wpAnyH_tk (i := 2) (v := ?vz15) 40 rfl rfl (by kernel_rfl) (by kernel_rfl) (by kernel_rfl) (fun _ _ _ h => h) (Or.inl ⟨by rfl, ?yz15⟩) hHeld ?rz15
        case yz15 => (intro w hSw; go_simp; try with_reducible rfl)
        (try simp only [Act.put, List.setIfInBounds_toArray, List.set_cons_zero, List.set_cons_succ])
        refine wpAnyH_tk (i := 3) (v := ?vz16) 41 rfl rfl (by kernel_rfl) (by kernel_rfl) (by kernel_rfl) (fun _ _ _ h => h) (Or.inl ⟨by rfl, ?yz16⟩) hHeld ?rz16
        case yz16 => (intro w hSw; go_simp; try with_reducible rfl)
        (try simp only [Act.put, List.setIfInBounds_toArray, List.set_cons_zero, List.set_cons_succ])
        refine wpAnyH_tk (i := 4) (v := _) 42 rfl rfl (by kernel_rfl) (by kernel_rfl) (by kernel_rfl) (fun _ _ _ h => h) (show YieldsIf Try.prog _ _ _ (.bool false) _ from Or.inl ⟨(by rfl), fun w hSw => by go_simp; try simp [hc0]⟩) hHeld ?_
        (try simp only [Act.put, List.setIfInBounds_toArray, List.set_cons_zero, List.set_cons_succ])
        refine wpAnyH_tk (i := 5) (v := ?vz17) 43 rfl rfl (by kernel_rfl) (by kernel_rfl) (by kernel_rfl) (fun _ _ _ h => h) (Or.inl ⟨by rfl, ?yz17⟩) hHeld ?rz17
        case yz17 => (intro w hSw; go_simp; try with_reducible rfl)
        (try simp only [Act.put, List.setIfInBounds_toArray, List.set_cons_zero, List.set_cons_succ])
        refine wpAnyH_tk (i := 6) (v := _) 44 rfl rfl (by kernel_rfl) (by kernel_rfl) (by kernel_rfl) (fun _ _ _ h => h) (yields_load (by rfl) 56 (.tmp 7) rfl a2 rfl (fun _ h => h.tail.head) Try.underlying56 rfl (size56 L)) hHeld ?_
        (try simp only [Act.put, List.setIfInBounds_toArray, List.set_cons_zero, List.set_cons_succ])
        refine wpAnyH_one (i := 7) (by kernel_rfl) rfl (fun K hK => ?_)
        go_simp
        go_wp2_with ((go_at_call 35; refine (MastWalks.right_calls _ L).mono ?_; rintro e wx ⟨rfl, hb⟩; rw [HOK.out]; have hHX := hHeld.step hb))
        refine hK.out _ _ (by exact hHX) (fun hHeld => ?_)
        clear hK K
        refine wpAnyH_tk (i := 8) (v := ?vz18) 46 rfl rfl (by kernel_rfl) (by kernel_rfl) (by kernel_rfl) (fun _ _ _ h => h) (Or.inl ⟨by rfl, ?yz18⟩) hHeld ?rz18
        case yz18 => (intro w hSw; go_simp; try with_reducible rfl)
        (try simp only [Act.put, List.setIfInBounds_toArray, List.set_cons_zero, List.set_cons_succ])
        refine wpAnyH_tk (i := 9) (v := ?vz19) 47 rfl rfl (by kernel_rfl) (by kernel_rfl) (by kernel_rfl) (fun _ _ _ h => h) (Or.inl ⟨by rfl, ?yz19⟩) hHeld ?rz19
        case yz19 => (intro w hSw; go_simp; try with_reducible rfl)
        (try simp only [Act.put, List.setIfInBounds_toArray, List.set_cons_zero, List.set_cons_succ])
        refine wpAnyH_tk (i := 10) (v := ?vz20) 48 rfl rfl (by kernel_rfl) (by kernel_rfl) (by kernel_rfl) (fun _ _ _ h => h) (Or.inl ⟨by rfl, ?yz20⟩) hHeld ?rz20
        case yz20 => (intro w hSw; go_simp; try with_reducible rfl)
        (try simp only [Act.put, List.setIfInBounds_toArray, List.set_cons_zero, List.set_cons_succ])
        refine wpAnyH_tk (i := 11) (v := _) 49 rfl rfl (by kernel_rfl) (by kernel_rfl) (by kernel_rfl) (fun _ _ _ h => h) (yields_load (by rfl) 56 (.tmp 7) rfl a2 rfl (fun _ h => h.tail.head) Try.underlying56 rfl (size56 L)) hHeld ?_
        (try simp only [Act.put, List.setIfInBounds_toArray, List.set_cons_zero, List.set_cons_succ])
        refine wpAnyH_tk (i := 13) (v := _) 51 rfl rfl (by kernel_rfl) (by kernel_rfl) (by kernel_rfl) (fun _ _ _ h => h) (yields_load (by rfl) 28 (.tmp 2) rfl a1 rfl (fun _ h => h.tail.tail.head) Try.underlying28 rfl (size28' hql)) hHeld ?_
        (try simp only [Act.put, List.setIfInBounds_toArray, List.set_cons_zero, List.set_cons_succ])
        refine wpAnyH_one (i := 12) (by kernel_rfl) rfl (fun K hK => ?_)
        go_simp
        go_wp2_with ((go_at_call 37; refine (MastWalks.lay_calls _ L hsu HOK.out).mono ?_; rintro e wx ⟨rfl, hb⟩; have hHX := hHeld.step hb))
        refine hK.out _ _ (by exact hHX) (fun hHeld => ?_)
        clear hK K
        refine wpAnyH_tk (i := 14) (v := _) 52 rfl rfl (by kernel_rfl) (by kernel_rfl) (by kernel_rfl) (fun _ _ _ h => h) (yields_neq (by rfl) 28 28 (.tmp 50) (.tmp 51) rfl (encs (Value.int .u8) (mastLay L)) (encs (Value.int .u8) q) rfl rfl true HE.out eqg28 rfl) hHeld ?_
        (try simp only [Act.put, List.setIfInBounds_toArray, List.set_cons_zero, List.set_cons_succ])
        refine wpAnyH_tk (i := 15) (v := ?vz21) 53 rfl rfl (by kernel_rfl) (by kernel_rfl) (by kernel_rfl) (fun _ _ _ h => h) (Or.inl ⟨by rfl, ?yz21⟩) hHeld ?rz21
        case yz21 => (intro w hSw; go_simp; try with_reducible rfl)
        (try simp only [Act.put, List.setIfInBounds_toArray, List.set_cons_zero, List.set_cons_succ])
        refine wpAnyH_tk (i := 16) (v := ?vz22) 54 rfl rfl (by kernel_rfl) (by kernel_rfl) (by kernel_rfl) (fun _ _ _ h => h) (Or.inl ⟨by rfl, ?yz22⟩) hHeld ?rz22
        case yz22 => (intro w hSw; go_simp; try with_reducible rfl)
        (try simp only [Act.put, List.setIfInBounds_toArray, List.set_cons_zero, List.set_cons_succ])
        refine wpAnyH_done (by kernel_rfl) ?_ _
        skip
        go_wp2_with fail
        go_meet
        case rel => exact ⟨by simp, ⟨hHX⟩⟩
      · have hn1 : (n == 0) = false := by simp; exact hn0
        refine wp_region_held_drew (S := (fun w' => Keeps W [(a3, 64, geomC G), (a2, 56, mastC L), (a1, 28, encs (Value.int .u8) q)] w')) (by kernel_rfl) (by exact H9.out.drew) (fun hHeld => ?_)
        refine wpAnyH_tk (i := 0) (v := ?vz23) 38 rfl rfl (by kernel_rfl) (by kernel_rfl) (by kernel_rfl) (fun _ _ _ h => h) (Or.inl ⟨by rfl, ?yz23⟩) hHeld ?rz23
        case yz23 => (intro w hSw; go_simp; try with_reducible rfl)
        (try simp only [Act.put, List.setIfInBounds_toArray, List.set_cons_zero, List.set_cons_succ])
        refine wpAnyH_tk (i := 1) (v := _) 39 rfl rfl (by kernel_rfl) (by kernel_rfl) (by kernel_rfl) (fun _ _ _ h => h) (show YieldsIf Try.prog _ _ _ (.bool false) _ from Or.inl ⟨(by rfl), fun w hSw => by go_simp; try simp [hn1]⟩) hHeld ?_
        (try simp only [Act.put, List.setIfInBounds_toArray, List.set_cons_zero, List.set_cons_succ])
        refine wpAnyH_tk (i := 2) (v := ?vz24) 40 rfl rfl (by kernel_rfl) (by kernel_rfl) (by kernel_rfl) (fun _ _ _ h => h) (Or.inl ⟨by rfl, ?yz24⟩) hHeld ?rz24
        case yz24 => (intro w hSw; go_simp; try with_reducible rfl)
        (try simp only [Act.put, List.setIfInBounds_toArray, List.set_cons_zero, List.set_cons_succ])
        refine wpAnyH_tk (i := 3) (v := undef) 41 rfl rfl (by kernel_rfl) (by kernel_rfl) (by kernel_rfl) (fun _ _ _ h => h) (yields_not (by rfl)) hHeld ?_
        (try simp only [Act.put, List.setIfInBounds_toArray, List.set_cons_zero, List.set_cons_succ])
        refine wpAnyH_tk (i := 4) (v := undef) 42 rfl rfl (by kernel_rfl) (by kernel_rfl) (by kernel_rfl) (fun _ _ _ h => h) (yields_not (by rfl)) hHeld ?_
        (try simp only [Act.put, List.setIfInBounds_toArray, List.set_cons_zero, List.set_cons_succ])
        refine wpAnyH_tk (i := 5) (v := undef) 43 rfl rfl (by kernel_rfl) (by kernel_rfl) (by kernel_rfl) (fun _ _ _ h => h) (yields_not (by rfl)) hHeld ?_
        (try simp only [Act.put, List.setIfInBounds_toArray, List.set_cons_zero, List.set_cons_succ])
        refine wpAnyH_tk (i := 6) (v := undef) 44 rfl rfl (by kernel_rfl) (by kernel_rfl) (by kernel_rfl) (fun _ _ _ h => h) (yields_not (by rfl)) hHeld ?_
        (try simp only [Act.put, List.setIfInBounds_toArray, List.set_cons_zero, List.set_cons_succ])
        refine wpAnyH_tk (i := 7) (v := undef) 45 rfl rfl (by kernel_rfl) (by kernel_rfl) (by kernel_rfl) (fun _ _ _ h => h) (yields_not (by rfl)) hHeld ?_
        (try simp only [Act.put, List.setIfInBounds_toArray, List.set_cons_zero, List.set_cons_succ])
        refine wpAnyH_tk (i := 8) (v := undef) 46 rfl rfl (by kernel_rfl) (by kernel_rfl) (by kernel_rfl) (fun _ _ _ h => h) (yields_not (by rfl)) hHeld ?_
        (try simp only [Act.put, List.setIfInBounds_toArray, List.set_cons_zero, List.set_cons_succ])
        refine wpAnyH_tk (i := 9) (v := undef) 47 rfl rfl (by kernel_rfl) (by kernel_rfl) (by kernel_rfl) (fun _ _ _ h => h) (yields_not (by rfl)) hHeld ?_
        (try simp only [Act.put, List.setIfInBounds_toArray, List.set_cons_zero, List.set_cons_succ])
        refine wpAnyH_tk (i := 10) (v := undef) 48 rfl rfl (by kernel_rfl) (by kernel_rfl) (by kernel_rfl) (fun _ _ _ h => h) (yields_not (by rfl)) hHeld ?_
        (try simp only [Act.put, List.setIfInBounds_toArray, List.set_cons_zero, List.set_cons_succ])
        refine wpAnyH_tk (i := 11) (v := undef) 49 rfl rfl (by kernel_rfl) (by kernel_rfl) (by kernel_rfl) (fun _ _ _ h => h) (yields_not (by rfl)) hHeld ?_
        (try simp only [Act.put, List.setIfInBounds_toArray, List.set_cons_zero, List.set_cons_succ])
        refine wpAnyH_tk (i := 12) (v := undef) 50 rfl rfl (by kernel_rfl) (by kernel_rfl) (by kernel_rfl) (fun _ _ _ h => h) (yields_not (by rfl)) hHeld ?_
        (try simp only [Act.put, List.setIfInBounds_toArray, List.set_cons_zero, List.set_cons_succ])
        refine wpAnyH_tk (i := 13) (v := undef) 51 rfl rfl (by kernel_rfl) (by kernel_rfl) (by kernel_rfl) (fun _ _ _ h => h) (yields_not (by rfl)) hHeld ?_
        (try simp only [Act.put, List.setIfInBounds_toArray, List.set_cons_zero, List.set_cons_succ])
        refine wpAnyH_tk (i := 14) (v := undef) 52 rfl rfl (by kernel_rfl) (by kernel_rfl) (by kernel_rfl) (fun _ _ _ h => h) (yields_not (by rfl)) hHeld ?_
        (try simp only [Act.put, List.setIfInBounds_toArray, List.set_cons_zero, List.set_cons_succ])
        refine wpAnyH_tk (i := 15) (v := undef) 53 rfl rfl (by kernel_rfl) (by kernel_rfl) (by kernel_rfl) (fun _ _ _ h => h) (yields_not (by rfl)) hHeld ?_
        (try simp only [Act.put, List.setIfInBounds_toArray, List.set_cons_zero, List.set_cons_succ])
        refine wpAnyH_tk (i := 16) (v := ?vz25) 54 rfl rfl (by kernel_rfl) (by kernel_rfl) (by kernel_rfl) (fun _ _ _ h => h) (Or.inl ⟨by rfl, ?yz25⟩) hHeld ?rz25
        case yz25 => (intro w hSw; go_simp; try with_reducible rfl)
        (try simp only [Act.put, List.setIfInBounds_toArray, List.set_cons_zero, List.set_cons_succ])
        refine wpAnyH_done (by kernel_rfl) ?_ _
        skip
        go_wp2_with fail
        go_meet
        case rel => exact ⟨by simp, ⟨hHeld⟩⟩
    case rest =>
      clear H9
      obtain ⟨rfl, HK⟩ := hcut
      go_upto_region 13 with (fail)
      by_cases hc0 : c = 0
      · subst hc0
        obtain ⟨hok, hlay⟩ := HGK.out rfl
        have HE := Aside0.mk (eq28 (geomLay_length G) hql (geomLay_bytes G) HQ.out)
        rw [decide_eq_true hlay] at HE
        have HOK := Aside0.mk hok
        clear hok hlay
        refine wp_region_held_drew (S := (fun w' => Keeps W [(a3, 64, geomC G), (a2, 56, mastC L), (a1, 28, encs (Value.int .u8) q)] w')) (by kernel_rfl) (by exact HK.out.drew) (fun hHeld => ?_)
        refine wpAnyH_tk (i := 0) (v := ?vz26) 55 rfl rfl (by kernel_rfl) (by kernel_rfl) (by kernel_rfl) (fun _ _ _ h => h) (Or.inl ⟨by rfl, ?yz26⟩) hHeld ?rz26
        case yz26 => (intro w hSw; go_simp; try with_reducible rfl)
        (try simp only [Act.put, List.setIfInBounds_toArray, List.set_cons_zero, List.set_cons_succ])
        refine wpAnyH_tk (i := 1) (v := ?vz27) 56 rfl rfl (by kernel_rfl) (by kernel_rfl) (by kernel_rfl) (fun _ _ _ h => h) (Or.inl ⟨by rfl, ?yz27⟩) hHeld ?rz27
        case yz27 => (intro w hSw; go_simp; try with_reducible rfl)
        (try simp only [Act.put, List.setIfInBounds_toArray, List.set_cons_zero, List.set_cons_succ])
        refine wpAnyH_tk (i := 2) (v := ?vz28) 57 rfl rfl (by kernel_rfl) (by kernel_rfl) (by kernel_rfl) (fun _ _ _ h => h) (Or.inl ⟨by rfl, ?yz28⟩) hHeld ?rz28
        case yz28 => (intro w hSw; go_simp; try with_reducible rfl)
        (try simp only [Act.put, List.setIfInBounds_toArray, List.set_cons_zero, List.set_cons_succ])
        refine wpAnyH_tk (i := 3) (v := _) 58 rfl rfl (by kernel_rfl) (by kernel_rfl) (by kernel_rfl) (fun _ _ _ h => h) (yields_load (by rfl) 64 (.tmp 9) rfl a3 rfl (fun _ h => h.head) Try.underlying64 rfl (size64 G)) hHeld ?_
        (try simp only [Act.put, List.setIfInBounds_toArray, List.set_cons_zero, List.set_cons_succ])
        refine wpAnyH_one (i := 4) (by kernel_rfl) rfl (fun K hK => ?_)
        go_simp
        go_wp2_with ((go_at_call 43; refine (GeomWalks.refright_calls _ G hwg).mono ?_; rintro e wx ⟨rfl, hb⟩; rw [HOK.out.1]; have hHX := hHeld.step hb))
        refine hK.out _ _ (by exact hHX) (fun hHeld => ?_)
        clear hK K
        refine wpAnyH_tk (i := 5) (v := ?vz29) 60 rfl rfl (by kernel_rfl) (by kernel_rfl) (by kernel_rfl) (fun _ _ _ h => h) (Or.inl ⟨by rfl, ?yz29⟩) hHeld ?rz29
        case yz29 => (intro w hSw; go_simp; try with_reducible rfl)
        (try simp only [Act.put, List.setIfInBounds_toArray, List.set_cons_zero, List.set_cons_succ])
        refine wpAnyH_tk (i := 6) (v := _) 61 rfl rfl (by kernel_rfl) (by kernel_rfl) (by kernel_rfl) (fun _ _ _ h => h) (yields_load (by rfl) 64 (.tmp 9) rfl a3 rfl (fun _ h => h.head) Try.underlying64 rfl (size64 G)) hHeld ?_
        (try simp only [Act.put, List.setIfInBounds_toArray, List.set_cons_zero, List.set_cons_succ])
        refine wpAnyH_tk (i := 8) (v := _) 63 rfl rfl (by kernel_rfl) (by kernel_rfl) (by kernel_rfl) (fun _ _ _ h => h) (yields_load (by rfl) 28 (.tmp 2) rfl a1 rfl (fun _ h => h.tail.tail.head) Try.underlying28 rfl (size28' hql)) hHeld ?_
        (try simp only [Act.put, List.setIfInBounds_toArray, List.set_cons_zero, List.set_cons_succ])
        refine wpAnyH_one (i := 7) (by kernel_rfl) rfl (fun K hK => ?_)
        go_simp
        go_wp2_with ((go_at_call 44; refine (GeomWalks.lay_calls _ G HOK.out).mono ?_; rintro e wx ⟨rfl, hb⟩; have hHX := hHeld.step hb))
        refine hK.out _ _ (by exact hHX) (fun hHeld => ?_)
        clear hK K
        refine wpAnyH_tk (i := 9) (v := _) 64 rfl rfl (by kernel_rfl) (by kernel_rfl) (by kernel_rfl) (fun _ _ _ h => h) (yields_eql (by rfl) 28 28 (.tmp 62) (.tmp 63) rfl (encs (Value.int .u8) (geomLay G)) (encs (Value.int .u8) q) rfl rfl true HE.out eqg28 rfl) hHeld ?_
        (try simp only [Act.put, List.setIfInBounds_toArray, List.set_cons_zero, List.set_cons_succ])
        refine wpAnyH_tk (i := 10) (v := ?vz30) 65 rfl rfl (by kernel_rfl) (by kernel_rfl) (by kernel_rfl) (fun _ _ _ h => h) (Or.inl ⟨by rfl, ?yz30⟩) hHeld ?rz30
        case yz30 => (intro w hSw; go_simp; try with_reducible rfl)
        (try simp only [Act.put, List.setIfInBounds_toArray, List.set_cons_zero, List.set_cons_succ])
        refine wpAnyH_tk (i := 11) (v := ?vz31) 66 rfl rfl (by kernel_rfl) (by kernel_rfl) (by kernel_rfl) (fun _ _ _ h => h) (Or.inl ⟨by rfl, ?yz31⟩) hHeld ?rz31
        case yz31 => (intro w hSw; go_simp; try with_reducible rfl)
        (try simp only [Act.put, List.setIfInBounds_toArray, List.set_cons_zero, List.set_cons_succ])
        refine wpAnyH_tk (i := 12) (v := ?vz32) 4 rfl rfl (by kernel_rfl) (by kernel_rfl) (by kernel_rfl) (fun _ _ _ h => h) (Or.inl ⟨by rfl, ?yz32⟩) hHeld ?rz32
        case yz32 => (intro w hSw; go_simp; try with_reducible rfl)
        (try simp only [Act.put, List.setIfInBounds_toArray, List.set_cons_zero, List.set_cons_succ])
        refine wpAnyH_done (by kernel_rfl) ?_ _
        skip
        go_wp2_with fail
        go_ret
        exact ⟨by simp, hHX.below⟩
      · have hc1 : (c != 0) = true := by simp; exact hc0
        refine wp_region_held_drew (S := (fun w' => Keeps W [(a3, 64, geomC G), (a2, 56, mastC L), (a1, 28, encs (Value.int .u8) q)] w')) (by kernel_rfl) (by exact HK.out.drew) (fun hHeld => ?_)
        refine wpAnyH_tk (i := 0) (v := ?vz33) 55 rfl rfl (by kernel_rfl) (by kernel_rfl) (by kernel_rfl) (fun _ _ _ h => h) (Or.inl ⟨by rfl, ?yz33⟩) hHeld ?rz33
        case yz33 => (intro w hSw; go_simp; try with_reducible rfl)
        (try simp only [Act.put, List.setIfInBounds_toArray, List.set_cons_zero, List.set_cons_succ])
        refine wpAnyH_tk (i := 1) (v := _) 56 rfl rfl (by kernel_rfl) (by kernel_rfl) (by kernel_rfl) (fun _ _ _ h => h) (show YieldsIf Try.prog _ _ _ (.bool true) _ from Or.inl ⟨(by rfl), fun w hSw => by go_simp; try simp [hc1]⟩) hHeld ?_
        (try simp only [Act.put, List.setIfInBounds_toArray, List.set_cons_zero, List.set_cons_succ])
        refine wpAnyH_tk (i := 2) (v := ?vz34) 57 rfl rfl (by kernel_rfl) (by kernel_rfl) (by kernel_rfl) (fun _ _ _ h => h) (Or.inl ⟨by rfl, ?yz34⟩) hHeld ?rz34
        case yz34 => (intro w hSw; go_simp; try with_reducible rfl)
        (try simp only [Act.put, List.setIfInBounds_toArray, List.set_cons_zero, List.set_cons_succ])
        refine wpAnyH_tk (i := 3) (v := undef) 58 rfl rfl (by kernel_rfl) (by kernel_rfl) (by kernel_rfl) (fun _ _ _ h => h) (yields_not (by rfl)) hHeld ?_
        (try simp only [Act.put, List.setIfInBounds_toArray, List.set_cons_zero, List.set_cons_succ])
        refine wpAnyH_tk (i := 4) (v := undef) 59 rfl rfl (by kernel_rfl) (by kernel_rfl) (by kernel_rfl) (fun _ _ _ h => h) (yields_not (by rfl)) hHeld ?_
        (try simp only [Act.put, List.setIfInBounds_toArray, List.set_cons_zero, List.set_cons_succ])
        refine wpAnyH_tk (i := 5) (v := undef) 60 rfl rfl (by kernel_rfl) (by kernel_rfl) (by kernel_rfl) (fun _ _ _ h => h) (yields_not (by rfl)) hHeld ?_
        (try simp only [Act.put, List.setIfInBounds_toArray, List.set_cons_zero, List.set_cons_succ])
        refine wpAnyH_tk (i := 6) (v := undef) 61 rfl rfl (by kernel_rfl) (by kernel_rfl) (by kernel_rfl) (fun _ _ _ h => h) (yields_not (by rfl)) hHeld ?_
        (try simp only [Act.put, List.setIfInBounds_toArray, List.set_cons_zero, List.set_cons_succ])
        refine wpAnyH_tk (i := 7) (v := undef) 62 rfl rfl (by kernel_rfl) (by kernel_rfl) (by kernel_rfl) (fun _ _ _ h => h) (yields_not (by rfl)) hHeld ?_
        (try simp only [Act.put, List.setIfInBounds_toArray, List.set_cons_zero, List.set_cons_succ])
        refine wpAnyH_tk (i := 8) (v := undef) 63 rfl rfl (by kernel_rfl) (by kernel_rfl) (by kernel_rfl) (fun _ _ _ h => h) (yields_not (by rfl)) hHeld ?_
        (try simp only [Act.put, List.setIfInBounds_toArray, List.set_cons_zero, List.set_cons_succ])
        refine wpAnyH_tk (i := 9) (v := undef) 64 rfl rfl (by kernel_rfl) (by kernel_rfl) (by kernel_rfl) (fun _ _ _ h => h) (yields_not (by rfl)) hHeld ?_
        (try simp only [Act.put, List.setIfInBounds_toArray, List.set_cons_zero, List.set_cons_succ])
        refine wpAnyH_tk (i := 10) (v := undef) 65 rfl rfl (by kernel_rfl) (by kernel_rfl) (by kernel_rfl) (fun _ _ _ h => h) (yields_not (by rfl)) hHeld ?_
        (try simp only [Act.put, List.setIfInBounds_toArray, List.set_cons_zero, List.set_cons_succ])
        refine wpAnyH_tk (i := 11) (v := ?vz35) 66 rfl rfl (by kernel_rfl) (by kernel_rfl) (by kernel_rfl) (fun _ _ _ h => h) (Or.inl ⟨by rfl, ?yz35⟩) hHeld ?rz35
        case yz35 => (intro w hSw; go_simp; try with_reducible rfl)
        (try simp only [Act.put, List.setIfInBounds_toArray, List.set_cons_zero, List.set_cons_succ])
        refine wpAnyH_tk (i := 12) (v := ?vz36) 4 rfl rfl (by kernel_rfl) (by kernel_rfl) (by kernel_rfl) (fun _ _ _ h => h) (Or.inl ⟨by rfl, ?yz36⟩) hHeld ?rz36
        case yz36 => (intro w hSw; go_simp; try with_reducible rfl)
        (try simp only [Act.put, List.setIfInBounds_toArray, List.set_cons_zero, List.set_cons_succ])
        refine wpAnyH_done (by kernel_rfl) ?_ _
        skip
        go_wp2_with fail
        go_ret
        exact ⟨by simp, hHeld.below⟩
end Go.Proofs.Ytmkkkenpjealdaa.MastLaws
