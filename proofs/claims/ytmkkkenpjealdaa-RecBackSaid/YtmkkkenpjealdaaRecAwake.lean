/- Layer 6's statements: the answers that the document fixes; a sector sealed. -/
import Derived.Test.YtmkkkenpjealdaaRecRefRead
import Derived.Test.YtmkkkenpjealdaaLeafAwake
namespace Go.Proofs.Ytmkkkenpjealdaa.RecWalks
set_option linter.unusedSimpArgs false
set_option linter.unusedVariables false
open Go.RowKit Go.Proofs.YtmkkkenpjealdaaW.PrintWords Go.Proofs.YtmkkkenpjealdaaW.PrintLast Go.Proofs.YtmkkkenpjealdaaW.PrintMore PlainWord CrcPlain PlainSec CrcMem CrcWalks CrcRef Arr SecWord SecMem SecRef LeafWalks

def rec1 : Rec := ⟨1, 3, 9, 5, 0, 7 :: zeros 31⟩
theorem rec1_ok : recOk rec1 = true := by decide +kernel
theorem rec0_bad : recOk rec0 = false := by decide +kernel
theorem rec1_bytes : Bytes rec1.data := by
  intro x hx
  rcases List.mem_cons.1 hx with rfl | hx
  · omega
  · exact zeros_bytes 31 x hx
set_option maxRecDepth 10000 in
set_option maxHeartbeats 4000000 in
theorem awake_calls (w : World) : Calls Try.prog 26 #[] w fun e w' => e = .returned (.bool true) ∧ Below w.heap.size w w' := by
  have HW := Aside0.mk (Keeps.refl w)
  have hl1 : rec1.data.length = 32 := rfl
  have hdb := rec1_bytes
  have hok := rec1_ok
  have hll := recLay_length rec1 hl1
  have hlb := recLay_bytes rec1 hdb
  have hrd := recRead_lay rec1 hl1 hdb hok
  have hrz : recRead (zeros 64) = (rec0, 8) := by unfold recRead; rw [right_zeros]; rfl
  have hz64 := zeros_length 64
  have hzb := zeros_bytes 64
  obtain ⟨L, hL⟩ : ∃ L, L = rec1 := ⟨_, rfl⟩
  obtain ⟨Z, hZ⟩ : ∃ Z, Z = zeros 64 := ⟨_, rfl⟩
  have hwf : recWf L := by rw [hL]; exact recOk_wf hok hdb
  have hg : ∀ i v, (recLay rec1).getD i 0 = v → (recLay L).getD i 0 = v := by rw [hL]; exact fun _ _ h => h
  have p0 := hg 0 1 (by decide +kernel)
  have p1 := hg 1 3 (by decide +kernel)
  have p9 := hg 9 9 (by decide +kernel)
  have p17 := hg 17 5 (by decide +kernel)
  have p25 := hg 25 7 (by decide +kernel)
  have HL := Aside0.mk hL
  have HZ := Aside0.mk hZ
  rw [← hL] at hl1 hok hll hlb hrd hdb
  rw [← hZ] at hrz hz64 hzb
  have HRD := Aside0.mk hrd
  have HRZ := Aside0.mk hrz
  have HOK := Aside0.mk hok
  have HE := Aside0.mk (eq43 hl1 hl1 hwf hwf (b := true) (by simp))
  clear hL hZ hrd hrz hok hg
  go_enter Try.func26, Try.ntmps26
  go_wp2_with (first | ((with_reducible refine gate_dst (N := 1) rfl ?_); refine alloc43 rfl rfl ?_; intro w1 a1 h1 h2 h3; have H1 := Aside0.mk (HW.out.new h3 h2); clear h2 h3) | ((with_reducible refine gate_store (t := 43) (p := 1) rfl ?_); refine store43 rfl rfl (.tmp 1) (.tmp 8) rfl a1 rfl L (by rw [HL.out]; rfl) hl1 H1.out.head rfl ?_; intro w2 h4 h5 h6; have H2 := Aside0.mk (H1.out.put h5 h1 (by simp) h4); clear h4 h5) | ((with_reducible refine gate_dst (N := 9) rfl ?_); refine load43 rfl (.tmp 1) rfl a1 rfl hl1 H2.out.head ?_))
  refine (lay_calls w2 L hl1 hdb HOK.out).mono ?_
  rintro e w3 ⟨rfl, hb⟩
  have H3 := Aside0.mk (H2.out.step hb)
  clear hb H2 H1
  go_wp2_with (first | ((with_reducible refine gate_dst (N := 2) rfl ?_); refine alloc28 rfl rfl ?_; intro w4 a2 h7 h8 h9; obtain ⟨Y, hY⟩ : ∃ Y : List Int, Y = zeros 64 := ⟨_, rfl⟩; rw [← hY] at h8; have hYl : Y.length = 64 := (by rw [hY, zeros_length]); clear hY; have H4 := Aside0.mk (H3.out.new h9 h8); have hb2 : w.heap.size ≤ a2 := Nat.le_trans H3.out.size h7; have hn2 : a1 ≠ a2 := (by have := H3.out.head.lt; omega); clear h8 h9) | ((with_reducible refine gate_store (t := 28) (p := 2) rfl ?_); refine store28 rfl rfl (.tmp 2) (.tmp 10) rfl a2 rfl (recLay L) rfl hll H4.out.head hYl ?_; intro w5 h10 h11 h12; have H5 := Aside0.mk (H4.out.put h11 hb2 (by simp; omega) h10); clear h10 h11) | ((with_reducible refine gate_dst (N := 12) rfl ?_); refine load28 rfl (.tmp 2) rfl a2 rfl H5.out.head hll ?_))
  refine (read_calls w5 (recLay L) hlb hll).mono ?_
  rintro e w6 ⟨rfl, hb⟩
  rw [HRD.out]
  have H6 := Aside0.mk (H5.out.step hb)
  clear hb H5 H4 H3
  go_wp2_with (first | ((with_reducible refine gate_dst (N := 3) rfl ?_); refine alloc43 rfl rfl ?_; intro w7 a3 h7 h8 h9; have H7 := Aside0.mk (H6.out.new h9 h8); have hb3 : w.heap.size ≤ a3 := Nat.le_trans H6.out.size h7; have hn3 : a1 ≠ a3 := (by have := H6.out.tail.head.lt; omega); have hn4 : a2 ≠ a3 := (by have := H6.out.head.lt; omega); clear h8 h9) | ((with_reducible refine gate_store (t := 43) (p := 3) rfl ?_); refine store43 rfl rfl (.tmp 3) (.tmp 14) rfl a3 rfl L rfl hl1 H7.out.head rfl ?_; intro w8 h10 h11 h12; have H8 := Aside0.mk (H7.out.put h11 hb3 (by simp; omega) h10); clear h10 h11) | ((with_reducible refine gate_dst (N := 17) rfl ?_); refine build28z rfl rfl ?_; rw [← HZ.out]))
  refine (read_calls w8 Z hzb hz64).mono ?_
  rintro e w9 ⟨rfl, hb⟩
  rw [HRZ.out]
  have H9 := Aside0.mk (H8.out.step hb)
  clear hb H8 H7 H6
  go_wp2_with (first | ((with_reducible refine gate_dst (N := 5) rfl ?_); refine alloc43 rfl rfl ?_; intro w10 a4 h7 h8 h9; have H10 := Aside0.mk (H9.out.new h9 h8); have hb4 : w.heap.size ≤ a4 := Nat.le_trans H9.out.size h7; have hn5 : a1 ≠ a4 := (by have := H9.out.tail.tail.head.lt; omega); have hn6 : a2 ≠ a4 := (by have := H9.out.tail.head.lt; omega); have hn7 : a3 ≠ a4 := (by have := H9.out.head.lt; omega); clear h8 h9) | ((with_reducible refine gate_store (t := 43) (p := 5) rfl ?_); refine store43 rfl rfl (.tmp 5) (.tmp 19) rfl a4 rfl rec0 rfl rfl H10.out.head rfl ?_; intro w11 h10 h11 h12; have H11 := Aside0.mk (H10.out.put h11 hb4 (by simp; omega) h10).tail; clear h10 h11) | ((with_reducible refine gate_dst (N := 21) rfl ?_); refine load43 rfl (.tmp 1) rfl a1 rfl hl1 H11.out.tail.tail.head ?_))
  refine (right_calls w11 L hl1 hdb).mono ?_
  rintro e w12 ⟨rfl, hb⟩
  rw [HOK.out]
  have H12 := Aside0.mk (H11.out.step hb)
  clear hb H11 H10 H9
  have hc : ∀ i, i < 64 → w12.cell? ⟨a2, i, none⟩ = some (.int .u8 ((recLay L).getD i 0)) := fun i hi => Blk.encAt H12.out.tail.head (0 : Int) i (by omega)
  have c0 := hc 0 (by omega)
  have c1 := hc 1 (by omega)
  have c9 := hc 9 (by omega)
  have c17 := hc 17 (by omega)
  have c25 := hc 25 (by omega)
  rw [p0] at c0
  rw [p1] at c1
  rw [p9] at c9
  rw [p17] at c17
  rw [p25] at c25
  clear hc p0 p1 p9 p17 p25
  go_wp2_with (first | ((with_reducible refine gate_dst (N := 53) rfl ?_); refine gate_guard (by rfl) ?_; refine load43 (r := L) rfl (.tmp 3) rfl a3 rfl hl1 H12.out.head ?_) | ((with_reducible refine gate_dst (N := 54) rfl ?_); refine gate_guard (by rfl) ?_; refine load43 (r := L) rfl (.tmp 1) rfl a1 rfl hl1 H12.out.tail.tail.head ?_) | ((with_reducible refine gate_dst (N := 55) rfl ?_); refine gate_guard (by rfl) ?_; refine wpl_eql rfl 43 43 (.tmp 53) (.tmp 54) rfl (recC L) (recC L) rfl rfl true HE.out eqg43 rfl ?_) | ((with_reducible refine gate_dst (N := 62) rfl ?_); refine gate_guard (by rfl) ?_; refine build43z rfl rfl ?_))
  refine (right_calls w12 rec0 rfl (zeros_bytes 32)).mono ?_
  rintro e w13 ⟨rfl, hb⟩
  rw [rec0_bad]
  have H13 := Aside0.mk (H12.out.step hb)
  clear hb
  go_wp2_with fail
  go_ret
  exact ⟨rfl, H13.out.below⟩
end Go.Proofs.Ytmkkkenpjealdaa.RecWalks
