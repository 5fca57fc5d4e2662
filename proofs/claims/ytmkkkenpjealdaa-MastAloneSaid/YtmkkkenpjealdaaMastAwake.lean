/- Layer 8's statements: the answers that the document fixes. -/
import Derived.Test.YtmkkkenpjealdaaGeomAll
import Derived.Test.YtmkkkenpjealdaaMastAll
import Derived.Test.YtmkkkenpjealdaaLeafAwake
namespace Go.Proofs.Ytmkkkenpjealdaa.MastWalks
set_option linter.unusedSimpArgs false
set_option linter.unusedVariables false
open Go.RowKit Go.Proofs.YtmkkkenpjealdaaW.PrintWords Go.Proofs.YtmkkkenpjealdaaW.PrintLast Go.Proofs.YtmkkkenpjealdaaW.PrintMore PlainWord CrcPlain PlainSec CrcMem CrcWalks CrcRef Arr SecWord SecMem SecRef LeafWalks RecWalks

def mast1 : Mast := ⟨true, 1, 2, 3, 4, 5⟩
def geom1 : Geom := ⟨2, 8, 6, 16, 3⟩
theorem mast1_ok : mastOk mast1 = true := by decide +kernel
theorem geom1_ok : geomFits geom1 := ⟨by decide +kernel, by decide⟩
theorem mast1_sum : mastSum mast1 := ⟨by decide, by decide⟩
set_option maxRecDepth 10000 in
set_option maxHeartbeats 4000000 in
theorem awake_calls (w : World) : Calls Try.prog 34 #[] w fun e w' => e = .returned (.bool true) ∧ Below w.heap.size w w' := by
  have HW := Aside0.mk (Keeps.refl w)
  have hok := mast1_ok
  have hsu := mast1_sum
  have hfi := geom1_ok
  have hll := mastLay_length mast1
  have hlb := mastLay_bytes mast1
  have hrd := mastRead_lay mast1 hsu hok
  have hgd := geomRead_lay geom1 hfi
  have hgl := geomLay_length geom1
  have hgb := geomLay_bytes geom1
  obtain ⟨L, hL⟩ : ∃ L, L = mast1 := ⟨_, rfl⟩
  obtain ⟨G, hG⟩ : ∃ G, G = geom1 := ⟨_, rfl⟩
  have hwf : mastWf L := by rw [hL]; exact mastOk_wf hok hsu
  have hwg : geomWf G := by rw [hG]; exact geomFits_wf hfi
  have hg : ∀ i v, (mastLay mast1).getD i 0 = v → (mastLay L).getD i 0 = v := by rw [hL]; exact fun _ _ h => h
  have p0 := hg 0 130 (by decide +kernel)
  have p1 := hg 1 1 (by decide +kernel)
  have p9 := hg 9 2 (by decide +kernel)
  have p17 := hg 17 3 (by decide +kernel)
  have p25 := hg 25 4 (by decide +kernel)
  have p29 := hg 29 5 (by decide +kernel)
  have HL := Aside0.mk hL
  have HG := Aside0.mk hG
  rw [← hL] at hok hll hlb hrd hsu
  rw [← hG] at hfi hgd hgl hgb
  have HRD := Aside0.mk hrd
  have HGD := Aside0.mk hgd
  have HOK := Aside0.mk hok
  have HFI := Aside0.mk hfi
  have HE := Aside0.mk (eq56 hwf hwf (b := true) (by simp))
  have HE2 := Aside0.mk (eq64 hwg hwg (b := true) (by simp))
  clear hL hG hrd hgd hok hg hfi
  go_enter Try.func34, Try.ntmps34
  go_wp2_with (first | ((with_reducible refine gate_dst (N := 1) rfl ?_); refine alloc56 rfl rfl ?_; intro w1 a1 h1 h2 h3; have H1 := Aside0.mk (HW.out.new h3 h2); clear h2 h3) | ((with_reducible refine gate_store (t := 56) (p := 1) rfl ?_); refine store56 rfl rfl (.tmp 1) (.tmp 8) rfl a1 rfl L (by rw [HL.out]; rfl) H1.out.head ?_; intro w2 h4 h5 h6; have H2 := Aside0.mk (H1.out.put h5 h1 (by simp) h4); clear h4 h5) | ((with_reducible refine gate_dst (N := 9) rfl ?_); refine load56 rfl (.tmp 1) rfl a1 rfl H2.out.head ?_))
  refine (MastWalks.lay_calls w2 L hsu HOK.out).mono ?_
  rintro e w3 ⟨rfl, hb⟩
  have H3 := Aside0.mk (H2.out.step hb)
  clear hb H2 H1
  go_wp2_with (first | ((with_reducible refine gate_dst (N := 2) rfl ?_); refine alloc28 rfl rfl ?_; intro w4 a2 h7 h8 h9; obtain ⟨Y, hY⟩ : ∃ Y : List Int, Y = zeros 64 := ⟨_, rfl⟩; rw [← hY] at h8; have hYl : Y.length = 64 := (by rw [hY, zeros_length]); clear hY; have H4 := Aside0.mk (H3.out.new h9 h8); have hb2 : w.heap.size ≤ a2 := Nat.le_trans H3.out.size h7; have hn2 : a1 ≠ a2 := (by have := H3.out.head.lt; omega); clear h8 h9) | ((with_reducible refine gate_store (t := 28) (p := 2) rfl ?_); refine store28 rfl rfl (.tmp 2) (.tmp 10) rfl a2 rfl (mastLay L) rfl hll H4.out.head hYl ?_; intro w5 h10 h11 h12; have H5 := Aside0.mk (H4.out.put h11 hb2 (by simp; omega) h10); clear h10 h11) | ((with_reducible refine gate_dst (N := 12) rfl ?_); refine load28 rfl (.tmp 2) rfl a2 rfl H5.out.head hll ?_))
  refine (MastWalks.read_calls w5 (mastLay L) hlb hll).mono ?_
  rintro e w6 ⟨rfl, hb⟩
  rw [HRD.out]
  have H6 := Aside0.mk (H5.out.step hb)
  clear hb H5 H4 H3
  go_wp2_with (first | ((with_reducible refine gate_dst (N := 3) rfl ?_); refine alloc56 rfl rfl ?_; intro w7 a3 h7 h8 h9; have H7 := Aside0.mk (H6.out.new h9 h8); have hb3 : w.heap.size ≤ a3 := Nat.le_trans H6.out.size h7; have hn3 : a1 ≠ a3 := (by have := H6.out.tail.head.lt; omega); have hn4 : a2 ≠ a3 := (by have := H6.out.head.lt; omega); clear h8 h9) | ((with_reducible refine gate_store (t := 56) (p := 3) rfl ?_); refine store56 rfl rfl (.tmp 3) (.tmp 14) rfl a3 rfl L rfl H7.out.head ?_; intro w8 h10 h11 h12; have H8 := Aside0.mk (H7.out.put h11 hb3 (by simp; omega) h10); clear h10 h11) | ((with_reducible refine gate_dst (N := 5) rfl ?_); refine alloc64 rfl rfl ?_; intro w9 a4 h7 h8 h9; have H9 := Aside0.mk (H8.out.new h9 h8); have hb4 : w.heap.size ≤ a4 := Nat.le_trans H8.out.size h7; have hn5 : a1 ≠ a4 := (by have := H8.out.tail.tail.head.lt; omega); have hn6 : a2 ≠ a4 := (by have := H8.out.tail.head.lt; omega); have hn7 : a3 ≠ a4 := (by have := H8.out.head.lt; omega); clear h8 h9) | ((with_reducible refine gate_store (t := 64) (p := 5) rfl ?_); refine store64 rfl rfl (.tmp 5) (.tmp 16) rfl a4 rfl G (by rw [HG.out]; rfl) H9.out.head ?_; intro w10 h10 h11 h12; have H10 := Aside0.mk (H9.out.put h11 hb4 (by simp; omega) h10); clear h10 h11) | ((with_reducible refine gate_dst (N := 18) rfl ?_); refine load64 rfl (.tmp 5) rfl a4 rfl H10.out.head ?_))
  refine (GeomWalks.lay_calls w10 G HFI.out).mono ?_
  rintro e w11 ⟨rfl, hb⟩
  have H11 := Aside0.mk (H10.out.step hb)
  clear hb H10 H9 H8 H7
  go_wp2_with fail
  refine (GeomWalks.read_calls _ (geomLay G) hgb hgl).mono ?_
  rintro e w12 ⟨rfl, hb⟩
  rw [HGD.out]
  have H12 := Aside0.mk (H11.out.step hb)
  clear hb H11
  go_wp2_with (first | ((with_reducible refine gate_dst (N := 6) rfl ?_); refine alloc64 rfl rfl ?_; intro w13 a5 h7 h8 h9; have H13 := Aside0.mk (H12.out.new h9 h8); have hb5 : w.heap.size ≤ a5 := Nat.le_trans H12.out.size h7; have hn8 : a1 ≠ a5 := (by have := H12.out.tail.tail.tail.head.lt; omega); have hn9 : a2 ≠ a5 := (by have := H12.out.tail.tail.head.lt; omega); have hn10 : a3 ≠ a5 := (by have := H12.out.tail.head.lt; omega); have hn11 : a4 ≠ a5 := (by have := H12.out.head.lt; omega); clear h8 h9) | ((with_reducible refine gate_store (t := 64) (p := 6) rfl ?_); refine store64 rfl rfl (.tmp 6) (.tmp 21) rfl a5 rfl G rfl H13.out.head ?_; intro w14 h10 h11 h12; have H14 := Aside0.mk (H13.out.put h11 hb5 (by simp; omega) h10); clear h10 h11) | ((with_reducible refine gate_dst (N := 23) rfl ?_); refine load56 rfl (.tmp 1) rfl a1 rfl H14.out.tail.tail.tail.tail.head ?_))
  refine (MastWalks.right_calls w14 L).mono ?_
  rintro e w15 ⟨rfl, hb⟩
  rw [HOK.out]
  have H15 := Aside0.mk (H14.out.step hb)
  clear hb H14 H13 H12
  have hc : ∀ i, i < 64 → w15.cell? ⟨a2, i, none⟩ = some (.int .u8 ((mastLay L).getD i 0)) := fun i hi => Blk.encAt H15.out.tail.tail.tail.head (0 : Int) i (by omega)
  have c0 := hc 0 (by omega)
  have c1 := hc 1 (by omega)
  have c9 := hc 9 (by omega)
  have c17 := hc 17 (by omega)
  have c25 := hc 25 (by omega)
  have c29 := hc 29 (by omega)
  rw [p0] at c0
  rw [p1] at c1
  rw [p9] at c9
  rw [p17] at c17
  rw [p25] at c25
  rw [p29] at c29
  clear hc p0 p1 p9 p17 p25 p29
  go_wp2_with (first | ((with_reducible refine gate_dst (N := 60) rfl ?_); refine gate_guard (by rfl) ?_; refine load56 (m := L) rfl (.tmp 3) rfl a3 rfl H15.out.tail.tail.head ?_) | ((with_reducible refine gate_dst (N := 61) rfl ?_); refine gate_guard (by rfl) ?_; refine load56 (m := L) rfl (.tmp 1) rfl a1 rfl H15.out.tail.tail.tail.tail.head ?_) | ((with_reducible refine gate_dst (N := 62) rfl ?_); refine gate_guard (by rfl) ?_; refine wpl_eql rfl 56 56 (.tmp 60) (.tmp 61) rfl (mastC L) (mastC L) rfl rfl true HE.out eqg56 rfl ?_) | ((with_reducible refine gate_dst (N := 69) rfl ?_); refine gate_guard (by rfl) ?_; refine load64 (m := G) rfl (.tmp 6) rfl a5 rfl H15.out.head ?_) | ((with_reducible refine gate_dst (N := 70) rfl ?_); refine gate_guard (by rfl) ?_; refine load64 (m := G) rfl (.tmp 5) rfl a4 rfl H15.out.tail.head ?_) | ((with_reducible refine gate_dst (N := 71) rfl ?_); refine gate_guard (by rfl) ?_; refine wpl_eql rfl 64 64 (.tmp 69) (.tmp 70) rfl (geomC G) (geomC G) rfl rfl true HE2.out eqg64 rfl ?_))
  go_ret
  exact ⟨rfl, H15.out.below⟩
end Go.Proofs.Ytmkkkenpjealdaa.MastWalks
