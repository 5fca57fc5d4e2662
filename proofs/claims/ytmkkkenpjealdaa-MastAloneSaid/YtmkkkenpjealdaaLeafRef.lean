/- The walks of layer 7's reference: a leaf's sector. -/
import Derived.Test.YtmkkkenpjealdaaLeafLay
import Derived.Test.YtmkkkenpjealdaaWRepsOne
namespace Go.Proofs.Ytmkkkenpjealdaa.LeafWalks
open Go.RowKit Go.Proofs.YtmkkkenpjealdaaW.PrintWords Go.Proofs.YtmkkkenpjealdaaW.PrintLast Go.Proofs.YtmkkkenpjealdaaW.PrintMore PlainWord CrcPlain PlainSec CrcMem CrcWalks CrcRef Arr SecWord SecMem SecRef

section
variable {ops : Array Oper} {rest : List Oper} {o : Oper} {a : Act} {Q : Exit → Act → World → Prop} {w0 W : World} {B : Nat}
theorem lit1_u8 (hgd : o.guard = none) (N : Tmp) (hd : o.dst = some N) (x : Operand) (ho : o.op = .buildSlice 30 1 #[(0, x)]) (y : Int) (hx : a.eval x = .int .u8 y) (HB : Below B w0 W) (hb : B ≤ W.heap.size)
    (h : ∀ v1 w1, RB w1 B v1 [y] → Below B w0 w1 → W.heap.size ≤ w1.heap.size → wpList Try.prog ops Q rest (a.put o.dst v1) w1) : wpList Try.prog ops Q (o :: rest) a W :=
  Kd.R_lit (Kd.int .u8) B 5 hgd hd (xs := [y]) (inner := [.int .u8 y]) (ok := fun _ => True) (okp := fun _ => True) (by simp only [execOp, ho, List.map_toArray, List.map_cons, List.map_nil, hx]; kernel_rfl) (Reps.one (by rfl) (Reps.none _ _)) (fun _ h => h) trivial HB hb (by simp)
    fun v1 w1 h1 h2 h3 _ => h v1 w1 h1 h2 h3.size
end
set_option maxHeartbeats 2000000 in
theorem reflay_calls (w : World) (L : Leaf) (hl : L.ps.length = 10) (hok : leafOk L = true) : Calls Try.prog 22 #[.agg (leafC L).toArray] w fun e w' => e = .returned (.agg (encs (Value.int .u8) (leafLay L)).toArray) ∧ Below w.heap.size w w' := by
  have HW := Aside0.mk (Below.refl w.heap.size w)
  obtain ⟨⟨g1, g2, g3, g4⟩, hps⟩ := of_decide_eq_true hok
  have HP := Aside0.mk hps
  clear hps hok
  go_enter Try.func22, Try.ntmps22
  go_wp2_with (first | ((with_reducible refine gate_dst (N := 1) rfl ?_); refine box24 rfl (.tmp 0) rfl L rfl ?_; intro w1 a1 h1 h2 h3; have H2 := Aside0.mk h2; have H3 := Aside0.mk (below_new HW.out HW.out.size h3); clear h2 h3) | ((with_reducible refine gate_dst (N := 2) rfl ?_); refine alloc28 rfl rfl ?_; intro w2 a2 h4 h5 h6; obtain ⟨Z, hZ⟩ : ∃ Z : List Int, Z = zeros 64 := ⟨_, rfl⟩; rw [← hZ] at h5; have hZl : Z.length = 64 := (by rw [hZ, zeros_length]); clear hZ; have H5 := Aside0.mk h5; have H6 := Aside0.mk (below_new H3.out H3.out.size h6); have H2b := Aside0.mk (H2.out.grown h6 (by simp)); have hb2 : w.heap.size ≤ a2 := (by have := H3.out.size; omega); have HN := Aside0.mk (Below.refl w2.heap.size w2); clear h5 h6) | ((with_reducible refine gate_dst (N := 5) rfl ?_); refine lit1_u8 rfl 5 rfl _ rfl 128 rfl HN.out (Nat.le_refl _) ?_; intro v3 w3 h7 h8 h9; have H7 := Aside0.mk h7; have H8 := Aside0.mk h8; have hx0 := LB.gen (H2b.out.below h8 H2b.out.lt); clear h7 h8))
  clear hx0
  have hl1 := H2b.out.lt
  refine (low48 L.gen 8 (by omega) (by omega) (by omega) w3).mono ?_
  rintro e w4 ⟨v4, rfl, h4r, h4b⟩
  obtain ⟨A4, c4, rfl, _, hc4⟩ := RB.reads h4r
  have HC4 := Aside0.mk hc4
  have H7' := Aside0.mk (Kd.R_below H7.out h4b)
  have H8' := Aside0.mk (H8.out.trans (h4b.mono h9))
  clear h4r h4b hc4 H7 H8
  have hlen8 := leI_length L.gen 8
  go_wp2_with ((at_builtin; refine apps_u8 rfl (.tmp 6) (.tmp 9) rfl v3 [128] A4 (leI L.gen 8) c4 rfl rfl H7'.out HC4.out H8'.out H8'.out.size (by rw [hlen8]; decide) ?_; intro v5 w5 h7 h8 h9; have H7 := Aside0.mk h7; have H8 := Aside0.mk h8; have hx1 := LB.idx (H2b.out.below h8 hl1); clear h7 h8))
  clear hx1 H7' H8' HC4 hlen8
  refine (low48 L.idx 4 (by omega) (by omega) (by omega) w5).mono ?_
  rintro e w6 ⟨v6, rfl, h4r, h4b⟩
  obtain ⟨A6, c6, rfl, _, hc6⟩ := RB.reads h4r
  have HC6 := Aside0.mk hc6
  have H7' := Aside0.mk (Kd.R_below H7.out h4b)
  have H8' := Aside0.mk (H8.out.trans (h4b.mono H8.out.size))
  clear h4r h4b hc6 H7 H8
  have hlen4 := leI_length L.idx 4
  have hp0 : [128] ++ leI L.gen 8 ++ leI L.idx 4 = leafPart L 0 := by unfold leafPart; rw [List.take_zero]; simp
  go_wp2_with ((at_builtin; refine apps_u8 rfl (.tmp 11) (.tmp 14) rfl v5 ([128] ++ leI L.gen 8) A6 (leI L.idx 4) c6 rfl rfl H7'.out HC6.out H8'.out H8'.out.size (by rw [List.length_append, leI_length, hlen4]; decide) ?_; intro v7 w7 h7 h8 h9; rw [hp0] at h7; have H7 := Aside0.mk h7; have H8 := Aside0.mk h8; clear h7 h8))
  clear H7' H8' HC6 hlen4 hp0
  go_loopw [3, 4] (fun v i wr => ∃ k : Nat, k ≤ 10 ∧ i = .int .i64 k ∧ Aside0 (RB wr w2.heap.size v (leafPart L k)) ∧ Aside0 (Below w2.heap.size w2 wr)) (fun _ i _ => 10 - (intOf i).toNat)
  case atStart => exact ⟨0, by omega, rfl, H7, H8⟩
  case round =>
    clear H7 H8
    obtain ⟨k, hk, rfl, HO, HX⟩ := hrel
    have hS := HX.out.size
    by_cases hlt : k < 10
    · have hb := HP.out (L.ps.getD k 0) (by rw [List.getD_eq_getElem?_getD, List.getElem?_eq_getElem (by omega)]; exact List.getElem_mem _)
      have hc := LB.place (H2b.out.below HX.out hl1) k (by omega)
      have HS := Aside0.mk (leafPart_succ L k (by omega))
      obtain ⟨x, hx⟩ : ∃ x, x = L.ps.getD k 0 := ⟨_, rfl⟩
      rw [← hx] at hb hc HS
      clear hx
      go_wp2_with fail
      refine (low48 x 4 (by omega) (by omega) (by omega) wr).mono ?_
      rintro e w8 ⟨v8, rfl, h4r, h4b⟩
      obtain ⟨A8, c8, rfl, _, hc8⟩ := RB.reads h4r
      have HC8 := Aside0.mk hc8
      have H7' := Aside0.mk (Kd.R_below HO.out h4b)
      have H8' := Aside0.mk (HX.out.trans (h4b.mono hS))
      clear h4r h4b hc8 HO HX hc
      have hlen4 := leI_length x 4
      have hpl := leafPart_length L k (by omega)
      go_wp2_with ((at_builtin; refine apps_u8 rfl (.tmp 20) (.tmp 25) rfl u3 (leafPart L k) A8 (leI x 4) c8 rfl rfl H7'.out HC8.out H8'.out H8'.out.size (by rw [hpl, hlen4]; omega) ?_; intro v9 w9 h7 h8 h9; rw [← HS.out] at h7; have H7 := Aside0.mk h7; have H8 := Aside0.mk h8; clear h7 h8))
      go_roundw
      case rel => exact ⟨k + 1, by omega, by go_num, H7, H8⟩
      case measure => simp [intOf]; omega
    · obtain rfl : k = 10 := by omega
      have hbl : leafPart L 10 = leafBody L := by rw [← hl, leafPart_all]
      rw [hbl] at HO
      go_wp2_with fail
      refine (full_calls wr w2.heap.size _ (leafBody L) HO.out hS (by rw [leafBody_length, hl]; decide) (leafBody_bytes L)).mono ?_
      rintro e w8 ⟨rfl, h4b⟩
      have HB8 := Aside0.mk (HX.out.trans h4b)
      have HR8 := Aside0.mk (H5.out.below HB8.out H5.out.lt)
      have HF8 := Aside0.mk (H6.out.trans (HB8.out.mono H6.out.size))
      have hll := leafLay_length L hl
      rw [show fullL (leafBody L) = leafLay L from rfl]
      clear h4b HO HX
      go_wp2_with ((with_reducible refine gate_store (t := 28) (p := 2) rfl ?_); refine store28 rfl rfl (.tmp 2) (.tmp 28) rfl a2 rfl (leafLay L) rfl hll HR8.out hZl ?_; intro w9 h8 h9 h10)
      refine bodyPost_ret (ret28 rfl rfl h8 hll) rfl ?_
      exact ⟨rfl, below_grown HF8.out hb2 HF8.out.size h9⟩
end Go.Proofs.Ytmkkkenpjealdaa.LeafWalks
