/- The walks of layer 8's statements: MastBack, MastAlone. -/
import Derived.Test.YtmkkkenpjealdaaMastLaws
namespace Go.Proofs.Ytmkkkenpjealdaa.MastLaws
set_option linter.unusedSimpArgs false
set_option linter.unusedVariables false
open Go.RowKit Go.Proofs.YtmkkkenpjealdaaW.PrintWords Go.Proofs.YtmkkkenpjealdaaW.PrintLast Go.Proofs.YtmkkkenpjealdaaW.PrintMore PlainWord CrcPlain PlainSec CrcMem CrcWalks CrcRef Arr SecWord SecMem SecRef LeafWalks PageLaws RecWalks MastWalks

set_option maxRecDepth 10000 in
set_option maxHeartbeats 4000000 in
theorem back_walk (W : World) (L : Mast) (cs : Array Value) (hK : kMast.K W L cs.toList) (hG : gMast L) (M : Mast) (cs' : Array Value) (hK' : kMast.K W M cs'.toList) (hG' : gMast M) (G : Geom) (cs'' : Array Value) (hK'' : kGeom.K W G cs''.toList) (hG'' : gGeom G) : Calls Try.prog 14 #[.agg cs, .agg cs', .agg cs''] W (Holds W) := by
  obtain rfl := mast_cells hK
  obtain rfl := mast_cells hK'
  obtain rfl := geom_cells hK''
  have hw := mast_wf hG
  have hv := mast_wf hG'
  have hwg := geom_wf hG''
  have hsl := hw.sum
  have hsm := hv.sum
  have HW := Aside0.mk (Keeps.refl W)
  clear hK hG hK' hG' hK'' hG''
  go_enter Try.func14, Try.ntmps14
  go_wp2_with (first | ((with_reducible refine gate_dst (N := 3) rfl ?_); refine box56 rfl (.tmp 0) rfl L rfl ?_; intro w1 a1 h1 h2 h3; have H1 := Aside0.mk (HW.out.new h3 h2); clear h2 h3) | ((with_reducible refine gate_dst (N := 4) rfl ?_); refine box56 rfl (.tmp 1) rfl M rfl ?_; intro w2 a2 h4 h5 h6; have H2 := Aside0.mk (H1.out.new h6 h5); clear h5 h6) | ((with_reducible refine gate_dst (N := 5) rfl ?_); refine box64 rfl (.tmp 2) rfl G rfl ?_; intro w3 a3 h7 h8 h9; have H3 := Aside0.mk (H2.out.new h9 h8); clear h8 h9))
  refine (MastWalks.awake_calls _).mono ?_
  rintro e w4 ⟨rfl, hb⟩
  have H4 := Aside0.mk (H3.out.step hb)
  clear hb H3 H2 H1
  go_wp2_with (((with_reducible refine gate_dst (N := 14) rfl ?_); refine gate_guard (by rfl) ?_; refine load56 (m := L) rfl (.tmp 3) rfl a1 rfl H4.out.tail.tail.head ?_))
  refine (MastWalks.right_calls _ L).mono ?_
  rintro e w5 ⟨rfl, hb⟩
  have H5 := Aside0.mk (H4.out.step hb)
  clear hb H4
  cases hbl : mastOk L
  · go_wp2_with fail
    refine (MastWalks.awake_calls _).mono ?_
    rintro e w6 ⟨rfl, hb⟩
    have H6 := Aside0.mk (H5.out.step hb)
    clear hb
    go_wp2_with fail
    go_ret
    exact ⟨rfl, H6.out.below⟩
  · go_wp2_with (((with_reducible refine gate_dst (N := 19) rfl ?_); refine gate_guard (by rfl) ?_; refine load56 (m := M) rfl (.tmp 4) rfl a2 rfl H5.out.tail.head ?_))
    refine (MastWalks.right_calls _ M).mono ?_
    rintro e w6 ⟨rfl, hb⟩
    have H6 := Aside0.mk (H5.out.step hb)
    clear hb H5
    cases hbm : mastOk M
    · go_wp2_with fail
      refine (MastWalks.awake_calls _).mono ?_
      rintro e w7 ⟨rfl, hb⟩
      have H7 := Aside0.mk (H6.out.step hb)
      clear hb
      go_wp2_with fail
      go_ret
      exact ⟨rfl, H7.out.below⟩
    · have hll := mastLay_length L
      have hlm := mastLay_length M
      obtain ⟨d, hd⟩ : ∃ d, d = decide (mastLay L = mastLay M) := ⟨_, rfl⟩
      have hdi : d = true ↔ L = M := by
        rw [hd, decide_eq_true_eq]
        exact ⟨fun h => mastLay_inj hsl hsm hbl hbm h, fun h => by rw [h]⟩
      have HE1 := Aside0.mk (eq28 hll hlm (mastLay_bytes L) (mastLay_bytes M))
      rw [← hd] at HE1
      have HE2 := Aside0.mk (eq56 hw hv hdi)
      have HE3 := Aside0.mk (eq56 hw hw (b := true) (by simp))
      have HRD := Aside0.mk (mastRead_lay L hsl hbl)
      have HBL := Aside0.mk hbl
      have HBM := Aside0.mk hbm
      clear hd hdi hbl hbm
      go_wp2_with (((with_reducible refine gate_dst (N := 25) rfl ?_); refine load56 (m := L) rfl (.tmp 3) rfl a1 rfl H6.out.tail.tail.head ?_))
      refine (MastWalks.lay_calls _ L hsl HBL.out).mono ?_
      rintro e w7 ⟨rfl, hb⟩
      have H7 := Aside0.mk (H6.out.step hb)
      clear hb H6
      go_wp2_with fail
      refine (MastWalks.read_calls _ (mastLay L) (mastLay_bytes L) hll).mono ?_
      rintro e w8 ⟨rfl, hb⟩
      rw [HRD.out]
      have H8 := Aside0.mk (H7.out.step hb)
      clear hb H7
      go_upto_region 4 with (first | ((with_reducible refine gate_dst (N := 7) rfl ?_); refine alloc56 rfl rfl ?_; intro w9 a4 h7 h8 h9; have H9 := Aside0.mk (H8.out.new h9 h8); have hb4 : W.heap.size ≤ a4 := Nat.le_trans H8.out.size h7; have HN4 := Aside0.mk (fun b hb => Nat.ne_of_lt (Nat.lt_of_lt_of_le (H8.out.lt hb) h7) : ∀ b ∈ _, b.1 ≠ a4); clear h8 h9) | ((with_reducible refine gate_store (t := 56) (p := 7) rfl ?_); refine store56 rfl rfl (.tmp 7) (.tmp 28) rfl a4 rfl L rfl H9.out.head ?_; intro w10 h10 h11 h12; have H10 := Aside0.mk (H9.out.put h11 hb4 HN4.out h10); clear h10 h11))
      refine wp_region_held_drew (S := (fun w' => Keeps W [(a4, 56, mastC L), (a3, 64, geomC G), (a2, 56, mastC M), (a1, 56, mastC L)] w')) (by kernel_rfl) (by exact H10.out.drew) (fun hHeld => ?_)
      refine wpAnyH_tk (i := 0) (v := ?vz1) 30 rfl rfl (by kernel_rfl) (by kernel_rfl) (by kernel_rfl) (fun _ _ _ h => h) (Or.inl ⟨by rfl, ?yz1⟩) hHeld ?rz1
      case yz1 => (intro w hSw; go_simp; try with_reducible rfl)
      (try simp only [Act.put, List.setIfInBounds_toArray, List.set_cons_zero, List.set_cons_succ])
      refine wpAnyH_tk (i := 1) (v := ?vz2) 31 rfl rfl (by kernel_rfl) (by kernel_rfl) (by kernel_rfl) (fun _ _ _ h => h) (Or.inl ⟨by rfl, ?yz2⟩) hHeld ?rz2
      case yz2 => (intro w hSw; go_simp; try with_reducible rfl)
      (try simp only [Act.put, List.setIfInBounds_toArray, List.set_cons_zero, List.set_cons_succ])
      refine wpAnyH_tk (i := 2) (v := ?vz3) 32 rfl rfl (by kernel_rfl) (by kernel_rfl) (by kernel_rfl) (fun _ _ _ h => h) (Or.inl ⟨by rfl, ?yz3⟩) hHeld ?rz3
      case yz3 => (intro w hSw; go_simp; try with_reducible rfl)
      (try simp only [Act.put, List.setIfInBounds_toArray, List.set_cons_zero, List.set_cons_succ])
      refine wpAnyH_tk (i := 3) (v := _) 33 rfl rfl (by kernel_rfl) (by kernel_rfl) (by kernel_rfl) (fun _ _ _ h => h) (yields_load (by rfl) 56 (.tmp 7) rfl a4 rfl (fun _ h => h.head) Try.underlying56 rfl (size56 L)) hHeld ?_
      (try simp only [Act.put, List.setIfInBounds_toArray, List.set_cons_zero, List.set_cons_succ])
      refine wpAnyH_tk (i := 4) (v := _) 34 rfl rfl (by kernel_rfl) (by kernel_rfl) (by kernel_rfl) (fun _ _ _ h => h) (yields_load (by rfl) 56 (.tmp 3) rfl a1 rfl (fun _ h => h.tail.tail.tail.head) Try.underlying56 rfl (size56 L)) hHeld ?_
      (try simp only [Act.put, List.setIfInBounds_toArray, List.set_cons_zero, List.set_cons_succ])
      refine wpAnyH_tk (i := 5) (v := _) 35 rfl rfl (by kernel_rfl) (by kernel_rfl) (by kernel_rfl) (fun _ _ _ h => h) (yields_neq (by rfl) 56 56 (.tmp 33) (.tmp 34) rfl (mastC L) (mastC L) rfl rfl true HE3.out eqg56 rfl) hHeld ?_
      (try simp only [Act.put, List.setIfInBounds_toArray, List.set_cons_zero, List.set_cons_succ])
      refine wpAnyH_tk (i := 6) (v := ?vz4) 36 rfl rfl (by kernel_rfl) (by kernel_rfl) (by kernel_rfl) (fun _ _ _ h => h) (Or.inl ⟨by rfl, ?yz4⟩) hHeld ?rz4
      case yz4 => (intro w hSw; go_simp; try with_reducible rfl)
      (try simp only [Act.put, List.setIfInBounds_toArray, List.set_cons_zero, List.set_cons_succ])
      refine wpAnyH_tk (i := 7) (v := ?vz5) 37 rfl rfl (by kernel_rfl) (by kernel_rfl) (by kernel_rfl) (fun _ _ _ h => h) (Or.inl ⟨by rfl, ?yz5⟩) hHeld ?rz5
      case yz5 => (intro w hSw; go_simp; try with_reducible rfl)
      (try simp only [Act.put, List.setIfInBounds_toArray, List.set_cons_zero, List.set_cons_succ])
      refine wpAnyH_tk (i := 8) (v := _) 38 rfl rfl (by kernel_rfl) (by kernel_rfl) (by kernel_rfl) (fun _ _ _ h => h) (yields_load (by rfl) 56 (.tmp 3) rfl a1 rfl (fun _ h => h.tail.tail.tail.head) Try.underlying56 rfl (size56 L)) hHeld ?_
      (try simp only [Act.put, List.setIfInBounds_toArray, List.set_cons_zero, List.set_cons_succ])
      refine wpAnyH_tk (i := 10) (v := _) 40 rfl rfl (by kernel_rfl) (by kernel_rfl) (by kernel_rfl) (fun _ _ _ h => h) (yields_load (by rfl) 56 (.tmp 4) rfl a2 rfl (fun _ h => h.tail.tail.head) Try.underlying56 rfl (size56 M)) hHeld ?_
      (try simp only [Act.put, List.setIfInBounds_toArray, List.set_cons_zero, List.set_cons_succ])
      refine wpAnyH_tk (i := 13) (v := _) 43 rfl rfl (by kernel_rfl) (by kernel_rfl) (by kernel_rfl) (fun _ _ _ h => h) (yields_load (by rfl) 56 (.tmp 3) rfl a1 rfl (fun _ h => h.tail.tail.tail.head) Try.underlying56 rfl (size56 L)) hHeld ?_
      (try simp only [Act.put, List.setIfInBounds_toArray, List.set_cons_zero, List.set_cons_succ])
      refine wpAnyH_tk (i := 14) (v := _) 44 rfl rfl (by kernel_rfl) (by kernel_rfl) (by kernel_rfl) (fun _ _ _ h => h) (yields_load (by rfl) 56 (.tmp 4) rfl a2 rfl (fun _ h => h.tail.tail.head) Try.underlying56 rfl (size56 M)) hHeld ?_
      (try simp only [Act.put, List.setIfInBounds_toArray, List.set_cons_zero, List.set_cons_succ])
      refine wpAnyH_tk (i := 15) (v := _) 45 rfl rfl (by kernel_rfl) (by kernel_rfl) (by kernel_rfl) (fun _ _ _ h => h) (yields_eql (by rfl) 56 56 (.tmp 43) (.tmp 44) rfl (mastC L) (mastC M) rfl rfl d HE2.out eqg56 rfl) hHeld ?_
      (try simp only [Act.put, List.setIfInBounds_toArray, List.set_cons_zero, List.set_cons_succ])
      refine wpAnyH_one (i := 9) (by kernel_rfl) rfl (fun K hK => ?_)
      go_simp
      go_wp2_with ((go_at_call 37; refine (MastWalks.lay_calls _ L hsl HBL.out).mono ?_; rintro e wx ⟨rfl, hb⟩; have hHX := hHeld.step hb))
      refine hK.out _ _ (by exact hHX) (fun hHeld => ?_)
      clear hK K
      refine wpAnyH_one (i := 11) (by kernel_rfl) rfl (fun K hK => ?_)
      go_simp
      go_wp2_with ((go_at_call 37; refine (MastWalks.lay_calls _ M hsm HBM.out).mono ?_; rintro e wx ⟨rfl, hb⟩; have hHX := hHeld.step hb))
      refine hK.out _ _ (by exact hHX) (fun hHeld => ?_)
      clear hK K
      refine wpAnyH_tk (i := 12) (v := _) 42 rfl rfl (by kernel_rfl) (by kernel_rfl) (by kernel_rfl) (fun _ _ _ h => h) (yields_eql (by rfl) 28 28 (.tmp 39) (.tmp 41) rfl (encs (Value.int .u8) (mastLay L)) (encs (Value.int .u8) (mastLay M)) rfl rfl d HE1.out eqg28 rfl) hHeld ?_
      (try simp only [Act.put, List.setIfInBounds_toArray, List.set_cons_zero, List.set_cons_succ])
      refine wpAnyH_tk (i := 16) (v := _) 46 rfl rfl (by kernel_rfl) (by kernel_rfl) (by kernel_rfl) (fun _ _ _ h => h) (show YieldsIf Try.prog _ _ _ (.bool false) _ from Or.inl ⟨(by rfl), fun w hSw => by go_simp; try (cases d <;> rfl)⟩) hHeld ?_
      (try simp only [Act.put, List.setIfInBounds_toArray, List.set_cons_zero, List.set_cons_succ])
      refine wpAnyH_tk (i := 17) (v := ?vz6) 47 rfl rfl (by kernel_rfl) (by kernel_rfl) (by kernel_rfl) (fun _ _ _ h => h) (Or.inl ⟨by rfl, ?yz6⟩) hHeld ?rz6
      case yz6 => (intro w hSw; go_simp; try with_reducible rfl)
      (try simp only [Act.put, List.setIfInBounds_toArray, List.set_cons_zero, List.set_cons_succ])
      refine wpAnyH_done (by kernel_rfl) ?_ _
      skip
      have HK := Aside0.mk (show Keeps W [(a4, 56, mastC L), (a3, 64, geomC G), (a2, 56, mastC M), (a1, 56, mastC L)] _ from hHX)
      clear hHX hHeld H10 H9 H8 HN4
      go_wp2_with (((with_reducible refine gate_dst (N := 48) rfl ?_); refine load64 (m := G) rfl (.tmp 5) rfl a3 rfl HK.out.tail.head ?_))
      refine (GeomWalks.refright_calls _ G hwg).mono ?_
      rintro e w11 ⟨rfl, hb⟩
      have HK2 := Aside0.mk (HK.out.step hb)
      clear hb HK
      cases hgo : geomOk G
      · go_wp2_with fail
        go_ret
        exact ⟨rfl, HK2.out.below⟩
      · have hcO := GB.opn HK2.out.tail.head
        obtain ⟨O, hO⟩ : ∃ O, O = G.opn := ⟨_, rfl⟩
        rw [← hO] at hcO
        by_cases hfit : O ≤ 2147483647
        · have HF := Aside0.mk (show geomFits G from ⟨hgo, by rw [← hO]; exact hfit⟩)
          have hd2 : decide (2147483647 < O) = false := by simp; omega
          have HGD := Aside0.mk (geomRead_lay G HF.out)
          have hgl := geomLay_length G
          have hgb := geomLay_bytes G
          have HE4 := Aside0.mk (eq64 hwg hwg (b := true) (by simp))
          have HE5 := Aside0.mk (eq28 hgl hgl hgb hgb)
          rw [decide_eq_true rfl] at HE5
          clear hO hgo
          go_wp2_with (((with_reducible refine gate_dst (N := 57) rfl ?_); refine load64 (m := G) rfl (.tmp 5) rfl a3 rfl HK2.out.tail.head ?_))
          refine (GeomWalks.lay_calls _ G HF.out).mono ?_
          rintro e w12 ⟨rfl, hb⟩
          have HK3 := Aside0.mk (HK2.out.step hb)
          clear hb HK2 hcO
          go_wp2_with fail
          refine (GeomWalks.read_calls _ (geomLay G) hgb hgl).mono ?_
          rintro e w13 ⟨rfl, hb⟩
          rw [HGD.out]
          have HK4 := Aside0.mk (HK3.out.step hb)
          clear hb HK3
          go_upto_region 9 with (first | ((with_reducible refine gate_dst (N := 9) rfl ?_); refine alloc64 rfl rfl ?_; intro w14 a5 h7 h8 h9; have H14 := Aside0.mk (HK4.out.new h9 h8); have hb5 : W.heap.size ≤ a5 := Nat.le_trans HK4.out.size h7; have HN5 := Aside0.mk (fun b hb => Nat.ne_of_lt (Nat.lt_of_lt_of_le (HK4.out.lt hb) h7) : ∀ b ∈ _, b.1 ≠ a5); clear h8 h9) | ((with_reducible refine gate_store (t := 64) (p := 9) rfl ?_); refine store64 rfl rfl (.tmp 9) (.tmp 60) rfl a5 rfl G rfl H14.out.head ?_; intro w15 h10 h11 h12; have H15 := Aside0.mk (H14.out.put h11 hb5 HN5.out h10); clear h10 h11))
          refine wp_region_held_drew (S := (fun w' => Keeps W [(a5, 64, geomC G), (a4, 56, mastC L), (a3, 64, geomC G), (a2, 56, mastC M), (a1, 56, mastC L)] w')) (by kernel_rfl) (by exact H15.out.drew) (fun hHeld => ?_)
          refine wpAnyH_tk (i := 0) (v := ?vz7) 62 rfl rfl (by kernel_rfl) (by kernel_rfl) (by kernel_rfl) (fun _ _ _ h => h) (Or.inl ⟨by rfl, ?yz7⟩) hHeld ?rz7
          case yz7 => (intro w hSw; go_simp; try with_reducible rfl)
          (try simp only [Act.put, List.setIfInBounds_toArray, List.set_cons_zero, List.set_cons_succ])
          refine wpAnyH_tk (i := 1) (v := ?vz8) 63 rfl rfl (by kernel_rfl) (by kernel_rfl) (by kernel_rfl) (fun _ _ _ h => h) (Or.inl ⟨by rfl, ?yz8⟩) hHeld ?rz8
          case yz8 => (intro w hSw; go_simp; try with_reducible rfl)
          (try simp only [Act.put, List.setIfInBounds_toArray, List.set_cons_zero, List.set_cons_succ])
          refine wpAnyH_tk (i := 2) (v := ?vz9) 64 rfl rfl (by kernel_rfl) (by kernel_rfl) (by kernel_rfl) (fun _ _ _ h => h) (Or.inl ⟨by rfl, ?yz9⟩) hHeld ?rz9
          case yz9 => (intro w hSw; go_simp; try with_reducible rfl)
          (try simp only [Act.put, List.setIfInBounds_toArray, List.set_cons_zero, List.set_cons_succ])
          refine wpAnyH_tk (i := 3) (v := _) 65 rfl rfl (by kernel_rfl) (by kernel_rfl) (by kernel_rfl) (fun _ _ _ h => h) (yields_load (by rfl) 64 (.tmp 9) rfl a5 rfl (fun _ h => h.head) Try.underlying64 rfl (size64 G)) hHeld ?_
          (try simp only [Act.put, List.setIfInBounds_toArray, List.set_cons_zero, List.set_cons_succ])
          refine wpAnyH_tk (i := 4) (v := _) 66 rfl rfl (by kernel_rfl) (by kernel_rfl) (by kernel_rfl) (fun _ _ _ h => h) (yields_load (by rfl) 64 (.tmp 5) rfl a3 rfl (fun _ h => h.tail.tail.head) Try.underlying64 rfl (size64 G)) hHeld ?_
          (try simp only [Act.put, List.setIfInBounds_toArray, List.set_cons_zero, List.set_cons_succ])
          refine wpAnyH_tk (i := 5) (v := _) 67 rfl rfl (by kernel_rfl) (by kernel_rfl) (by kernel_rfl) (fun _ _ _ h => h) (yields_eql (by rfl) 64 64 (.tmp 65) (.tmp 66) rfl (geomC G) (geomC G) rfl rfl true HE4.out eqg64 rfl) hHeld ?_
          (try simp only [Act.put, List.setIfInBounds_toArray, List.set_cons_zero, List.set_cons_succ])
          refine wpAnyH_tk (i := 6) (v := ?vz10) 68 rfl rfl (by kernel_rfl) (by kernel_rfl) (by kernel_rfl) (fun _ _ _ h => h) (Or.inl ⟨by rfl, ?yz10⟩) hHeld ?rz10
          case yz10 => (intro w hSw; go_simp; try with_reducible rfl)
          (try simp only [Act.put, List.setIfInBounds_toArray, List.set_cons_zero, List.set_cons_succ])
          refine wpAnyH_tk (i := 7) (v := ?vz11) 69 rfl rfl (by kernel_rfl) (by kernel_rfl) (by kernel_rfl) (fun _ _ _ h => h) (Or.inl ⟨by rfl, ?yz11⟩) hHeld ?rz11
          case yz11 => (intro w hSw; go_simp; try with_reducible rfl)
          (try simp only [Act.put, List.setIfInBounds_toArray, List.set_cons_zero, List.set_cons_succ])
          refine wpAnyH_tk (i := 8) (v := _) 70 rfl rfl (by kernel_rfl) (by kernel_rfl) (by kernel_rfl) (fun _ _ _ h => h) (yields_load (by rfl) 64 (.tmp 5) rfl a3 rfl (fun _ h => h.tail.tail.head) Try.underlying64 rfl (size64 G)) hHeld ?_
          (try simp only [Act.put, List.setIfInBounds_toArray, List.set_cons_zero, List.set_cons_succ])
          refine wpAnyH_tk (i := 10) (v := _) 72 rfl rfl (by kernel_rfl) (by kernel_rfl) (by kernel_rfl) (fun _ _ _ h => h) (yields_load (by rfl) 64 (.tmp 5) rfl a3 rfl (fun _ h => h.tail.tail.head) Try.underlying64 rfl (size64 G)) hHeld ?_
          (try simp only [Act.put, List.setIfInBounds_toArray, List.set_cons_zero, List.set_cons_succ])
          refine wpAnyH_one (i := 9) (by kernel_rfl) rfl (fun K hK => ?_)
          go_simp
          go_wp2_with ((go_at_call 44; refine (GeomWalks.lay_calls _ G HF.out).mono ?_; rintro e wx ⟨rfl, hb⟩; have hHX := hHeld.step hb))
          refine hK.out _ _ (by exact hHX) (fun hHeld => ?_)
          clear hK K
          refine wpAnyH_one (i := 11) (by kernel_rfl) rfl (fun K hK => ?_)
          go_simp
          go_wp2_with ((go_at_call 45; refine (GeomWalks.reflay_calls _ G HF.out).mono ?_; rintro e wx ⟨rfl, hb⟩; have hHX := hHeld.step hb))
          refine hK.out _ _ (by exact hHX) (fun hHeld => ?_)
          clear hK K
          refine wpAnyH_tk (i := 12) (v := _) 74 rfl rfl (by kernel_rfl) (by kernel_rfl) (by kernel_rfl) (fun _ _ _ h => h) (yields_eql (by rfl) 28 28 (.tmp 71) (.tmp 73) rfl (encs (Value.int .u8) (geomLay G)) (encs (Value.int .u8) (geomLay G)) rfl rfl true HE5.out eqg28 rfl) hHeld ?_
          (try simp only [Act.put, List.setIfInBounds_toArray, List.set_cons_zero, List.set_cons_succ])
          refine wpAnyH_tk (i := 13) (v := ?vz12) 75 rfl rfl (by kernel_rfl) (by kernel_rfl) (by kernel_rfl) (fun _ _ _ h => h) (Or.inl ⟨by rfl, ?yz12⟩) hHeld ?rz12
          case yz12 => (intro w hSw; go_simp; try with_reducible rfl)
          (try simp only [Act.put, List.setIfInBounds_toArray, List.set_cons_zero, List.set_cons_succ])
          refine wpAnyH_tk (i := 14) (v := ?vz13) 6 rfl rfl (by kernel_rfl) (by kernel_rfl) (by kernel_rfl) (fun _ _ _ h => h) (Or.inl ⟨by rfl, ?yz13⟩) hHeld ?rz13
          case yz13 => (intro w hSw; go_simp; try with_reducible rfl)
          (try simp only [Act.put, List.setIfInBounds_toArray, List.set_cons_zero, List.set_cons_succ])
          refine wpAnyH_done (by kernel_rfl) ?_ _
          skip
          go_wp2_with fail
          go_ret
          exact ⟨by simp, hHX.below⟩
        · have hd2 : decide (2147483647 < O) = true := by simp; omega
          go_wp2_with fail
          go_ret
          exact ⟨rfl, HK2.out.below⟩
/-! ### no mast's sector is a measure's, a leaf's or a record's -/
def kRec : Kd Rec := Kd.iso (Kd.pair (Kd.int .i64) (Kd.pair (Kd.int .i64) (Kd.pair (Kd.int .i64) (Kd.pair (Kd.int .i64) (Kd.pair (Kd.int .i64) (Dec.ints .u8 32)))))) (fun r : Rec => (r.kind, r.epoch, r.seq, r.blk, r.cnt, r.data))
def gRec (r : Rec) : Prop := (Lit.int .i64 r.kind).wf = true ∧ (Lit.int .i64 r.epoch).wf = true ∧ (Lit.int .i64 r.seq).wf = true ∧ (Lit.int .i64 r.blk).wf = true ∧ (Lit.int .i64 r.cnt).wf = true ∧ ∀ x ∈ r.data, (Lit.int .u8 x).wf = true
section
attribute [local irreducible] Dec.Dec Dec.DecF
theorem dec43 : Dec.Dec Try.prog 43 kRec gRec :=
  Dec.dec_struct (k := Kd.pair (Kd.int .i64) (Kd.pair (Kd.int .i64) (Kd.pair (Kd.int .i64) (Kd.pair (Kd.int .i64) (Kd.pair (Kd.int .i64) (Dec.ints .u8 32)))))) (G := fun x => (Lit.int .i64 x.1).wf = true ∧ (Lit.int .i64 x.2.1).wf = true ∧ (Lit.int .i64 x.2.2.1).wf = true ∧ (Lit.int .i64 x.2.2.2.1).wf = true ∧ (Lit.int .i64 x.2.2.2.2.1).wf = true ∧ ∀ y ∈ x.2.2.2.2.2, (Lit.int .u8 y).wf = true) (pr := fun r : Rec => (r.kind, r.epoch, r.seq, r.blk, r.cnt, r.data)) Try.underlying43 (by kernel_rfl)
    (Dec.decf_cons (Dec.dec_int Try.underlying3) rfl (by kernel_rfl) (Dec.decf_cons (Dec.dec_int Try.underlying3) rfl (by kernel_rfl) (Dec.decf_cons (Dec.dec_int Try.underlying3) rfl (by kernel_rfl) (Dec.decf_cons (Dec.dec_int Try.underlying3) rfl (by kernel_rfl) (Dec.decf_cons (Dec.dec_int Try.underlying3) rfl (by kernel_rfl) (Dec.decf_one (Dec.dec_ints Try.underlying41 Try.underlying5 (by kernel_rfl) (by kernel_rfl)) rfl (by kernel_rfl))))))) (fun ⟨a, b, c, d, e, f⟩ => ⟨⟨a, b, c, d, e, f⟩, rfl⟩)
end
theorem rec_cells {w : World} {r : Rec} {cs : Array Value} (h : kRec.K w r cs.toList) : cs = (recC r).toArray ∧ r.data.length = 32 := by
  obtain ⟨c1, c2, h1, h2, c3, c4, h3, h4, c5, c6, h5, h6, c7, c8, h7, h8, c9, c10, h9, h10, h11, h12⟩ := h
  have e : cs.toList = recC r := by
    rw [h1, h2, h3, h4, h5, h6, h7, h8, h9, h10, h12]
    rfl
  exact ⟨by rw [← e], h11⟩
theorem rec_wf {r : Rec} (h : gRec r) : recWf r := ⟨bounds_i64 h.1, bounds_i64 h.2.1, bounds_i64 h.2.2.1, bounds_i64 h.2.2.2.1, bounds_i64 h.2.2.2.2.1, Bytes.of_wf h.2.2.2.2.2⟩
theorem geomRead_mast (m : Mast) : geomRead (mastLay m) = (geom0, 7) :=
  GeomWalks.geomRead_mark _ (mastLay_right m) (by rw [mastLay_mark]; rcases mastMark_two m with e | e <;> rw [e] <;> decide)
theorem leafRead_mast (m : Mast) : leafRead (mastLay m) = (leaf0, 7) := by
  unfold leafRead
  rw [if_pos (mastLay_right m), if_neg]
  rintro ⟨h1, _⟩
  rw [mastLay_mark] at h1
  rcases mastMark_two m with e | e <;> rw [e] at h1 <;> exact absurd h1 (by decide)
theorem recRead_mast (m : Mast) : recRead (mastLay m) = (rec0, 7) := by
  unfold recRead
  rw [if_pos (mastLay_right m), if_neg]
  rintro ⟨h1, _⟩
  have h2 : (recOf (mastLay m)).kind = mastMark m := mastLay_mark m
  have h3 := (recOk_small h1).1
  rcases mastMark_two m with e | e <;> omega
theorem mastRead_geom (g : Geom) : mastRead (geomLay g) = (mast0, 7) :=
  mastRead_mark _ (geomLay_right g) (by rw [geomLay_mark]; decide) (by rw [geomLay_mark]; decide)
theorem mastRead_leaf (l : Leaf) (h : l.ps.length = 10) : mastRead (leafLay l) = (mast0, 7) :=
  mastRead_mark _ (leafLay_right l) (by rw [leafLay_mark l h]; decide) (by rw [leafLay_mark l h]; decide)
theorem mastRead_rec (r : Rec) (h : r.data.length = 32) (hd : Bytes r.data) (hr : recOk r = true) : mastRead (recLay r) = (mast0, 7) := by
  have h1 : (recLay r).getD 0 0 = r.kind := congrArg Rec.kind (recOf_lay r h hr)
  have h2 := (recOk_small hr).1
  exact mastRead_mark _ (recLay_right r hd) (by rw [h1]; omega) (by rw [h1]; omega)
set_option maxRecDepth 10000 in
set_option maxHeartbeats 4000000 in
theorem alone_walk (W : World) (M : Mast) (c1 : Array Value) (k1 : kMast.K W M c1.toList) (g1 : gMast M) (G : Geom) (c2 : Array Value) (k2 : kGeom.K W G c2.toList) (g2 : gGeom G) (L : Leaf) (c3 : Array Value) (k3 : kLeaf.K W L c3.toList) (g3 : gLeaf L) (R : Rec) (c4 : Array Value) (k4 : kRec.K W R c4.toList) (g4 : gRec R) : Calls Try.prog 17 #[.agg c1, .agg c2, .agg c3, .agg c4] W (Holds W) := by
  obtain rfl := mast_cells k1
  obtain rfl := geom_cells k2
  obtain ⟨rfl, hl⟩ := leaf_cells k3
  obtain ⟨rfl, hr⟩ := rec_cells k4
  have hsm := (mast_wf g1).sum
  have hwg := geom_wf g2
  have hwl := leaf_wf g3
  have hrd := (rec_wf g4).data
  have HW := Aside0.mk (Keeps.refl W)
  clear k1 g1 k2 g2 k3 g3 k4 g4
  go_enter Try.func17, Try.ntmps17
  go_wp2_with (first | ((with_reducible refine gate_dst (N := 4) rfl ?_); refine box56 rfl (.tmp 0) rfl M rfl ?_; intro w1 a1 h1 h2 h3; have H1 := Aside0.mk (HW.out.new h3 h2); clear h2 h3) | ((with_reducible refine gate_dst (N := 5) rfl ?_); refine box64 rfl (.tmp 1) rfl G rfl ?_; intro w2 a2 h4 h5 h6; have H2 := Aside0.mk (H1.out.new h6 h5); clear h5 h6) | ((with_reducible refine gate_dst (N := 6) rfl ?_); refine box24 rfl (.tmp 2) rfl L rfl ?_; intro w3 a3 h7 h8 h9; have H3 := Aside0.mk (H2.out.new h9 h8); clear h8 h9) | ((with_reducible refine gate_dst (N := 7) rfl ?_); refine box43 rfl (.tmp 3) rfl R rfl ?_; intro w4 a4 h10 h11 h12; have H4 := Aside0.mk (H3.out.new h12 h11); clear h11 h12))
  refine (MastWalks.awake_calls _).mono ?_
  rintro e w5 ⟨rfl, hb⟩
  have H5 := Aside0.mk (H4.out.step hb)
  clear hb H4 H3 H2 H1
  go_wp2_with (((with_reducible refine gate_dst (N := 25) rfl ?_); refine gate_guard (by rfl) ?_; refine load56 (m := M) rfl (.tmp 4) rfl a1 rfl H5.out.tail.tail.tail.head ?_))
  refine (MastWalks.right_calls _ M).mono ?_
  rintro e w6 ⟨rfl, hb⟩
  have H6 := Aside0.mk (H5.out.step hb)
  clear hb H5
  cases hbm : mastOk M
  · go_wp2_with fail
    refine (MastWalks.awake_calls _).mono ?_
    rintro e wz ⟨rfl, hb⟩
    have HZ := Aside0.mk (H6.out.step hb)
    clear hb
    go_wp2_with fail
    go_ret
    exact ⟨rfl, HZ.out.below⟩
  · go_wp2_with (((with_reducible refine gate_dst (N := 30) rfl ?_); refine gate_guard (by rfl) ?_; refine load64 (m := G) rfl (.tmp 5) rfl a2 rfl H6.out.tail.tail.head ?_))
    refine (GeomWalks.refright_calls _ G hwg).mono ?_
    rintro e w7 ⟨rfl, hb⟩
    have H7 := Aside0.mk (H6.out.step hb)
    clear hb H6
    cases hgo : geomOk G
    · go_wp2_with fail
      refine (MastWalks.awake_calls _).mono ?_
      rintro e wz ⟨rfl, hb⟩
      have HZ := Aside0.mk (H7.out.step hb)
      clear hb
      go_wp2_with fail
      go_ret
      exact ⟨rfl, HZ.out.below⟩
    · have hcO := GB.opn H7.out.tail.tail.head
      obtain ⟨O, hO⟩ : ∃ O, O = G.opn := ⟨_, rfl⟩
      rw [← hO] at hcO
      rcases Int.lt_or_le 2147483647 O with hfit | hfit
      · have hd2 : decide (2147483647 < O) = true := by simp; omega
        go_wp2_with fail
        refine (MastWalks.awake_calls _).mono ?_
        rintro e wz ⟨rfl, hb⟩
        have HZ := Aside0.mk (H7.out.step hb)
        clear hb
        go_wp2_with fail
        go_ret
        exact ⟨rfl, HZ.out.below⟩
      · have HF := Aside0.mk (show geomFits G from ⟨hgo, by rw [← hO]; exact hfit⟩)
        have hd2 : decide (2147483647 < O) = false := by simp; omega
        clear hO hgo
        go_wp2_with (((with_reducible refine gate_dst (N := 40) rfl ?_); refine gate_guard (by rfl) ?_; refine load24 (L := L) rfl (.tmp 6) rfl a3 rfl hl H7.out.tail.head ?_))
        clear hcO hd2
        refine (LeafWalks.right_calls _ L hl hwl.2.2).mono ?_
        rintro e w8 ⟨rfl, hb⟩
        have H8 := Aside0.mk (H7.out.step hb)
        clear hb H7
        cases hbl : leafOk L
        · go_wp2_with fail
          refine (MastWalks.awake_calls _).mono ?_
          rintro e wz ⟨rfl, hb⟩
          have HZ := Aside0.mk (H8.out.step hb)
          clear hb
          go_wp2_with fail
          go_ret
          exact ⟨rfl, HZ.out.below⟩
        · go_wp2_with (((with_reducible refine gate_dst (N := 45) rfl ?_); refine gate_guard (by rfl) ?_; refine load43 (r := R) rfl (.tmp 7) rfl a4 rfl hr H8.out.head ?_))
          refine (RecWalks.right_calls _ R hr hrd).mono ?_
          rintro e w9 ⟨rfl, hb⟩
          have H9 := Aside0.mk (H8.out.step hb)
          clear hb H8
          cases hbr : recOk R
          · go_wp2_with fail
            refine (MastWalks.awake_calls _).mono ?_
            rintro e wz ⟨rfl, hb⟩
            have HZ := Aside0.mk (H9.out.step hb)
            clear hb
            go_wp2_with fail
            go_ret
            exact ⟨rfl, HZ.out.below⟩
          · have HBM := Aside0.mk hbm
            have HBL := Aside0.mk hbl
            have HBR := Aside0.mk hbr
            have hml := mastLay_length M
            have hmb := mastLay_bytes M
            have R1 := Aside0.mk (geomRead_mast M)
            have R2 := Aside0.mk (leafRead_mast M)
            have R3 := Aside0.mk (recRead_mast M)
            have R4 := Aside0.mk (mastRead_geom G)
            have R5 := Aside0.mk (mastRead_leaf L hl)
            have R6 := Aside0.mk (mastRead_rec R hr hrd hbr)
            clear hbm hbl hbr
            go_wp2_with (((with_reducible refine gate_dst (N := 50) rfl ?_); refine load56 (m := M) rfl (.tmp 4) rfl a1 rfl H9.out.tail.tail.tail.head ?_))
            refine (MastWalks.lay_calls _ M hsm HBM.out).mono ?_
            rintro e w10 ⟨rfl, hb⟩
            have H10 := Aside0.mk (H9.out.step hb)
            clear hb H9
            obtain ⟨p, hp⟩ : ∃ p, p = mastLay M := ⟨_, rfl⟩
            rw [← hp] at hml hmb R1 R2 R3
            rw [← hp]
            clear hp
            go_wp2_with (first | ((with_reducible refine gate_dst (N := 9) rfl ?_); refine alloc28 rfl rfl ?_; intro w11 a5 h7 h8 h9; obtain ⟨Y, hY⟩ : ∃ Y : List Int, Y = zeros 64 := ⟨_, rfl⟩; rw [← hY] at h8; have hYl : Y.length = 64 := (by rw [hY, zeros_length]); clear hY; have H11 := Aside0.mk (H10.out.new h9 h8); have hb5 : W.heap.size ≤ a5 := Nat.le_trans H10.out.size h7; have HN5 := Aside0.mk (fun b hb => Nat.ne_of_lt (Nat.lt_of_lt_of_le (H10.out.lt hb) h7) : ∀ b ∈ _, b.1 ≠ a5); clear h8 h9) | ((with_reducible refine gate_store (t := 28) (p := 9) rfl ?_); refine store28 rfl rfl (.tmp 9) (.tmp 51) rfl a5 rfl p rfl hml H11.out.head hYl ?_; intro w12 h10 h11 h12; have H12 := Aside0.mk (H11.out.put h11 hb5 HN5.out h10); clear h10 h11) | ((with_reducible refine gate_dst (N := 53) rfl ?_); refine load28 rfl (.tmp 9) rfl a5 rfl H12.out.head hml ?_))
            refine (GeomWalks.read_calls _ p hmb hml).mono ?_
            rintro e w13 ⟨rfl, hb⟩
            rw [R1.out]
            have H13 := Aside0.mk (H12.out.step hb)
            clear hb H12 H11 H10 HN5
            go_wp2_with (first | ((with_reducible refine gate_dst (N := 10) rfl ?_); refine alloc64 rfl rfl ?_; intro w14 a14 h7 h8 h9; have HA14 := Aside0.mk (H13.out.new h9 h8); have hb14 : W.heap.size ≤ a14 := Nat.le_trans H13.out.size h7; have HN14 := Aside0.mk (fun b hb => Nat.ne_of_lt (Nat.lt_of_lt_of_le (H13.out.lt hb) h7) : ∀ b ∈ _, b.1 ≠ a14); clear h8 h9) | ((with_reducible refine gate_store (t := 64) (p := 10) rfl ?_); refine store64 rfl rfl (.tmp 10) (.tmp 55) rfl a14 rfl geom0 rfl HA14.out.head ?_; intro v14 h10 h11 h12; have HS14 := Aside0.mk (HA14.out.put h11 hb14 HN14.out h10).tail; clear h10 h11) | ((with_reducible refine gate_dst (N := 58) rfl ?_); refine load28 rfl (.tmp 9) rfl a5 rfl HS14.out.head hml ?_))
            refine (LeafWalks.read_calls _ p hmb hml).mono ?_
            rintro e w30 ⟨rfl, hb⟩
            rw [R2.out]
            have H30 := Aside0.mk (HS14.out.step hb)
            clear hb H13 HS14 HA14 HN14
            go_wp2_with (first | ((with_reducible refine gate_dst (N := 12) rfl ?_); refine alloc24 rfl rfl ?_; intro w15 a15 h7 h8 h9; have HA15 := Aside0.mk (H30.out.new h9 h8); have hb15 : W.heap.size ≤ a15 := Nat.le_trans H30.out.size h7; have HN15 := Aside0.mk (fun b hb => Nat.ne_of_lt (Nat.lt_of_lt_of_le (H30.out.lt hb) h7) : ∀ b ∈ _, b.1 ≠ a15); clear h8 h9) | ((with_reducible refine gate_store (t := 24) (p := 12) rfl ?_); refine store24 rfl rfl (.tmp 12) (.tmp 60) rfl a15 rfl leaf0 rfl rfl HA15.out.head rfl ?_; intro v15 h10 h11 h12; have HS15 := Aside0.mk (HA15.out.put h11 hb15 HN15.out h10).tail; clear h10 h11) | ((with_reducible refine gate_dst (N := 63) rfl ?_); refine load28 rfl (.tmp 9) rfl a5 rfl HS15.out.head hml ?_))
            refine (RecWalks.read_calls _ p hmb hml).mono ?_
            rintro e w31 ⟨rfl, hb⟩
            rw [R3.out]
            have H31 := Aside0.mk (HS15.out.step hb)
            clear hb H30 HS15 HA15 HN15
            go_wp2_with (first | ((with_reducible refine gate_dst (N := 14) rfl ?_); refine alloc43 rfl rfl ?_; intro w16 a16 h7 h8 h9; have HA16 := Aside0.mk (H31.out.new h9 h8); have hb16 : W.heap.size ≤ a16 := Nat.le_trans H31.out.size h7; have HN16 := Aside0.mk (fun b hb => Nat.ne_of_lt (Nat.lt_of_lt_of_le (H31.out.lt hb) h7) : ∀ b ∈ _, b.1 ≠ a16); clear h8 h9) | ((with_reducible refine gate_store (t := 43) (p := 14) rfl ?_); refine store43 rfl rfl (.tmp 14) (.tmp 65) rfl a16 rfl rec0 rfl rfl HA16.out.head rfl ?_; intro v16 h10 h11 h12; have HS16 := Aside0.mk (HA16.out.put h11 hb16 HN16.out h10).tail; clear h10 h11) | ((with_reducible refine gate_dst (N := 68) rfl ?_); refine load64 (m := G) rfl (.tmp 5) rfl a2 rfl HS16.out.tail.tail.tail.head ?_))
            refine (GeomWalks.lay_calls _ G HF.out).mono ?_
            rintro e w32 ⟨rfl, hb⟩
            have H32 := Aside0.mk (HS16.out.step hb)
            clear hb H31 HS16 HA16 HN16
            go_wp2_with fail
            refine (MastWalks.read_calls _ (geomLay G) (geomLay_bytes G) (geomLay_length G)).mono ?_
            rintro e w33 ⟨rfl, hb⟩
            rw [R4.out]
            have H33 := Aside0.mk (H32.out.step hb)
            clear hb H32
            go_wp2_with (first | ((with_reducible refine gate_dst (N := 16) rfl ?_); refine alloc56 rfl rfl ?_; intro w17 a17 h7 h8 h9; have HA17 := Aside0.mk (H33.out.new h9 h8); have hb17 : W.heap.size ≤ a17 := Nat.le_trans H33.out.size h7; have HN17 := Aside0.mk (fun b hb => Nat.ne_of_lt (Nat.lt_of_lt_of_le (H33.out.lt hb) h7) : ∀ b ∈ _, b.1 ≠ a17); clear h8 h9) | ((with_reducible refine gate_store (t := 56) (p := 16) rfl ?_); refine store56 rfl rfl (.tmp 16) (.tmp 71) rfl a17 rfl mast0 rfl HA17.out.head ?_; intro v17 h10 h11 h12; have HS17 := Aside0.mk (HA17.out.put h11 hb17 HN17.out h10).tail; clear h10 h11) | ((with_reducible refine gate_dst (N := 74) rfl ?_); refine load24 (L := L) rfl (.tmp 6) rfl a3 rfl hl HS17.out.tail.tail.head ?_))
            refine (LeafWalks.lay_calls _ L hl HBL.out).mono ?_
            rintro e w34 ⟨rfl, hb⟩
            have H34 := Aside0.mk (HS17.out.step hb)
            clear hb H33 HS17 HA17 HN17
            go_wp2_with fail
            refine (MastWalks.read_calls _ (leafLay L) (leafLay_bytes L) (leafLay_length L hl)).mono ?_
            rintro e w35 ⟨rfl, hb⟩
            rw [R5.out]
            have H35 := Aside0.mk (H34.out.step hb)
            clear hb H34
            go_wp2_with (first | ((with_reducible refine gate_dst (N := 18) rfl ?_); refine alloc56 rfl rfl ?_; intro w18 a18 h7 h8 h9; have HA18 := Aside0.mk (H35.out.new h9 h8); have hb18 : W.heap.size ≤ a18 := Nat.le_trans H35.out.size h7; have HN18 := Aside0.mk (fun b hb => Nat.ne_of_lt (Nat.lt_of_lt_of_le (H35.out.lt hb) h7) : ∀ b ∈ _, b.1 ≠ a18); clear h8 h9) | ((with_reducible refine gate_store (t := 56) (p := 18) rfl ?_); refine store56 rfl rfl (.tmp 18) (.tmp 77) rfl a18 rfl mast0 rfl HA18.out.head ?_; intro v18 h10 h11 h12; have HS18 := Aside0.mk (HA18.out.put h11 hb18 HN18.out h10).tail; clear h10 h11) | ((with_reducible refine gate_dst (N := 80) rfl ?_); refine load43 (r := R) rfl (.tmp 7) rfl a4 rfl hr HS18.out.tail.head ?_))
            refine (RecWalks.lay_calls _ R hr hrd HBR.out).mono ?_
            rintro e w36 ⟨rfl, hb⟩
            have H36 := Aside0.mk (HS18.out.step hb)
            clear hb H35 HS18 HA18 HN18
            go_wp2_with fail
            refine (MastWalks.read_calls _ (recLay R) (recLay_bytes R hrd) (recLay_length R hr)).mono ?_
            rintro e w37 ⟨rfl, hb⟩
            rw [R6.out]
            have H37 := Aside0.mk (H36.out.step hb)
            clear hb H36
            go_wp2_with (first | ((with_reducible refine gate_dst (N := 20) rfl ?_); refine alloc56 rfl rfl ?_; intro w19 a19 h7 h8 h9; have HA19 := Aside0.mk (H37.out.new h9 h8); have hb19 : W.heap.size ≤ a19 := Nat.le_trans H37.out.size h7; have HN19 := Aside0.mk (fun b hb => Nat.ne_of_lt (Nat.lt_of_lt_of_le (H37.out.lt hb) h7) : ∀ b ∈ _, b.1 ≠ a19); clear h8 h9) | ((with_reducible refine gate_store (t := 56) (p := 20) rfl ?_); refine store56 rfl rfl (.tmp 20) (.tmp 83) rfl a19 rfl mast0 rfl HA19.out.head ?_; intro v19 h10 h11 h12; have HS19 := Aside0.mk (HA19.out.put h11 hb19 HN19.out h10).tail; clear h10 h11))
            go_ret
            exact ⟨rfl, HS19.out.below⟩
end Go.Proofs.Ytmkkkenpjealdaa.MastLaws
