/- The walks of layer 6's reference: a record's sector. -/
import Derived.Test.YtmkkkenpjealdaaRecLay
import Derived.Test.YtmkkkenpjealdaaLeafRef
namespace Go.Proofs.Ytmkkkenpjealdaa.RecWalks
set_option linter.unusedSimpArgs false
set_option linter.unusedVariables false
open Go.RowKit Go.Proofs.YtmkkkenpjealdaaW.PrintWords Go.Proofs.YtmkkkenpjealdaaW.PrintLast Go.Proofs.YtmkkkenpjealdaaW.PrintMore PlainWord CrcPlain PlainSec CrcMem CrcWalks CrcRef Arr SecWord SecMem SecRef LeafWalks

section
variable {ops : Array Oper} {rest : List Oper} {o : Oper} {a : Act} {Q : Exit → Act → World → Prop} {w0 W : World} {B : Nat}
theorem lit3_u8 (hgd : o.guard = none) (N : Tmp) (hd : o.dst = some N) (ho : o.op = .buildSlice 30 3 #[(0, .const (.int .u8 0)), (1, .const (.int .u8 0)), (2, .const (.int .u8 0))]) (HB : Below B w0 W) (hb : B ≤ W.heap.size)
    (h : ∀ v1 w1, RB w1 B v1 (zeros 3) → Below B w0 w1 → W.grownBy w1 none → wpList Try.prog ops Q rest (a.put o.dst v1) w1) : wpList Try.prog ops Q (o :: rest) a W :=
  Kd.R_lit (Kd.int .u8) B 5 hgd hd (xs := zeros 3) (inner := [.int .u8 0, .int .u8 0, .int .u8 0]) (ok := fun _ => True) (okp := fun _ => True) (by simp only [execOp, ho, List.map_toArray, List.map_cons, List.map_nil]; kernel_rfl) (Reps.one (by rfl) (Reps.one (by rfl) (Reps.one (by rfl) (Reps.none _ _)))) (fun _ h => h) trivial HB hb (by simp [zeros])
    fun v1 w1 h1 h2 h3 _ => h v1 w1 h1 h2 h3
end
set_option maxHeartbeats 4000000 in
theorem reflay_calls (w : World) (r : Rec) (hl : r.data.length = 32) (hd : Bytes r.data) (hok : recOk r = true) : Calls Try.prog 30 #[.agg (recC r).toArray] w fun e w' => e = .returned (.agg (encs (Value.int .u8) (recLay r)).toArray) ∧ Below w.heap.size w w' := by
  have HW := Aside0.mk (Below.refl w.heap.size w)
  obtain ⟨⟨k0, k1⟩, ⟨e0, e1⟩, ⟨s0, s1⟩, ⟨b0, b1⟩, ⟨c0, c1⟩⟩ := recOk_small hok
  have HP := Aside0.mk (recBody_pre r k0 k1)
  have HD := Aside0.mk hd
  clear hok hd
  go_enter Try.func30, Try.ntmps30
  go_wp2_with (first | ((with_reducible refine gate_dst (N := 1) rfl ?_); refine box43 rfl (.tmp 0) rfl r rfl ?_; intro w1 a1 h1 h2 h3; have H2 := Aside0.mk h2; have H3 := Aside0.mk (below_new HW.out HW.out.size h3); clear h2 h3) | ((with_reducible refine gate_dst (N := 2) rfl ?_); refine alloc28 rfl rfl ?_; intro w2 a2 h4 h5 h6; obtain ⟨Z, hZ⟩ : ∃ Z : List Int, Z = zeros 64 := ⟨_, rfl⟩; rw [← hZ] at h5; have hZl : Z.length = 64 := (by rw [hZ, zeros_length]); clear hZ; have H5 := Aside0.mk h5; have H6 := Aside0.mk (below_new H3.out H3.out.size h6); have H2b := Aside0.mk (H2.out.grown h6 (by simp)); have hb2 : w.heap.size ≤ a2 := (by have := H3.out.size; omega); have HN := Aside0.mk (Below.refl w2.heap.size w2); have hx0 := QB.kind H2b.out; clear h5 h6) | ((with_reducible refine gate_dst (N := 10) rfl ?_); refine lit1_u8 rfl 10 rfl _ rfl r.kind rfl HN.out (Nat.le_refl _) ?_; intro v3 w3 h7 h8 h9; have H7 := Aside0.mk h7; have H8 := Aside0.mk h8; have hx1 := QB.epoch (H2b.out.below h8 H2b.out.lt); clear h7 h8))
  clear hx0 hx1
  have hl1 := H2b.out.lt
  refine (low55 r.epoch 8 (by omega) (by omega) (by omega) w3).mono ?_
  rintro e w4 ⟨v4, rfl, h4r, h4b⟩
  obtain ⟨A4, c4, rfl, _, hc4⟩ := RB.reads h4r
  have HC4 := Aside0.mk hc4
  have H7' := Aside0.mk (Kd.R_below H7.out h4b)
  have H8' := Aside0.mk (H8.out.trans (h4b.mono h9))
  clear h4r h4b hc4 H7 H8
  have hlen8 := leI_length r.epoch 8
  go_wp2_with ((at_builtin; refine apps_u8 rfl (.tmp 11) (.tmp 14) rfl v3 ([r.kind]) A4 (leI r.epoch 8) c4 rfl rfl H7'.out HC4.out H8'.out H8'.out.size (by rw [hlen8]; simp [leI_length]) ?_; intro v5 w5 h7 h8 h9; have hx1 := QB.seq (H2b.out.below h8 hl1); have H7 := Aside0.mk h7; have H8 := Aside0.mk h8; clear h7 h8))
  clear hx1 H7' H8' HC4 hlen8
  refine (low55 r.seq 8 (by omega) (by omega) (by omega) w5).mono ?_
  rintro e w6 ⟨v6, rfl, h4r, h4b⟩
  obtain ⟨A4, c4, rfl, _, hc4⟩ := RB.reads h4r
  have HC4 := Aside0.mk hc4
  have H7' := Aside0.mk (Kd.R_below H7.out h4b)
  have H8' := Aside0.mk (H8.out.trans (h4b.mono H8.out.size))
  clear h4r h4b hc4 H7 H8
  have hlen8 := leI_length r.seq 8
  go_wp2_with ((at_builtin; refine apps_u8 rfl (.tmp 16) (.tmp 19) rfl v5 ([r.kind] ++ leI r.epoch 8) A4 (leI r.seq 8) c4 rfl rfl H7'.out HC4.out H8'.out H8'.out.size (by rw [hlen8]; simp [leI_length]) ?_; intro v7 w7 h7 h8 h9; have hx1 := QB.blk (H2b.out.below h8 hl1); have H7 := Aside0.mk h7; have H8 := Aside0.mk h8; clear h7 h8))
  clear hx1 H7' H8' HC4 hlen8
  refine (low55 r.blk 4 (by omega) (by omega) (by omega) w7).mono ?_
  rintro e w8 ⟨v8, rfl, h4r, h4b⟩
  obtain ⟨A4, c4, rfl, _, hc4⟩ := RB.reads h4r
  have HC4 := Aside0.mk hc4
  have H7' := Aside0.mk (Kd.R_below H7.out h4b)
  have H8' := Aside0.mk (H8.out.trans (h4b.mono H8.out.size))
  clear h4r h4b hc4 H7 H8
  have hlen8 := leI_length r.blk 4
  go_wp2_with ((at_builtin; refine apps_u8 rfl (.tmp 21) (.tmp 24) rfl v7 ([r.kind] ++ leI r.epoch 8 ++ leI r.seq 8) A4 (leI r.blk 4) c4 rfl rfl H7'.out HC4.out H8'.out H8'.out.size (by rw [hlen8]; simp [leI_length]) ?_; intro v9 w9 h7 h8 h9; have hx1 := QB.cnt (H2b.out.below h8 hl1); have H7 := Aside0.mk h7; have H8 := Aside0.mk h8; clear h7 h8))
  clear hx1 H7' H8' HC4 hlen8
  refine (low55 r.cnt 4 (by omega) (by omega) (by omega) w9).mono ?_
  rintro e w10 ⟨v10, rfl, h4r, h4b⟩
  obtain ⟨A4, c4, rfl, _, hc4⟩ := RB.reads h4r
  have HC4 := Aside0.mk hc4
  have H7' := Aside0.mk (Kd.R_below H7.out h4b)
  have H8' := Aside0.mk (H8.out.trans (h4b.mono H8.out.size))
  clear h4r h4b hc4 H7 H8
  have hlen8 := leI_length r.cnt 4
  go_wp2_with ((at_builtin; refine apps_u8 rfl (.tmp 26) (.tmp 29) rfl v9 ([r.kind] ++ leI r.epoch 8 ++ leI r.seq 8 ++ leI r.blk 4) A4 (leI r.cnt 4) c4 rfl rfl H7'.out HC4.out H8'.out H8'.out.size (by rw [hlen8]; simp [leI_length]) ?_; intro v11 w11 h7 h8 h9; have H7 := Aside0.mk h7; have H8 := Aside0.mk h8; clear h7 h8))
  clear H7' H8' HC4 hlen8
  have HP0 := Aside0.mk (show RB w11 w2.heap.size v11 (recPre r ++ r.data.take 0) by rw [List.take_zero, List.append_nil]; exact H7.out)
  clear H7
  go_loopw [3, 4] (fun v i wr => ∃ k : Nat, k ≤ 32 ∧ i = .int .i64 k ∧ Aside0 (RB wr w2.heap.size v (recPre r ++ r.data.take k)) ∧ Aside0 (Below w2.heap.size w2 wr)) (fun _ i _ => 32 - (intOf i).toNat)
  case atStart => exact ⟨0, by omega, rfl, HP0, H8⟩
  case round =>
    clear HP0 H8
    obtain ⟨k, hk, rfl, HO, HX⟩ := hrel
    have hS := HX.out.size
    by_cases hlt : k < 32
    · have hc := QB.byte (H2b.out.below HX.out hl1) k (by omega)
      have HS := Aside0.mk (take_rd r.data k (by omega))
      have hlen : (recPre r ++ r.data.take k).length ≤ 100 := by rw [List.length_append, recPre_length, List.length_take]; omega
      obtain ⟨x, hx⟩ : ∃ x, x = r.data.getD k 0 := ⟨_, rfl⟩
      rw [← hx] at hc HS
      clear hx
      go_wp2_with (first | (at_builtin; refine app_u8 rfl (.tmp 35) (.tmp 40) rfl u3 (recPre r ++ r.data.take k) _ rfl rfl HO.out HX.out hS (by omega) ?_; intro v3 w3 h7 h8 h9; have H7 := Aside0.mk h7; have H8 := Aside0.mk h8; clear h7 h8))
      go_roundw
      case rel => exact ⟨k + 1, by omega, by go_num, ⟨by rw [HS.out, ← List.append_assoc]; exact H7.out⟩, H8⟩
      case measure => simp [intOf]; omega
    · obtain rfl : k = 32 := by omega
      have HO2 := Aside0.mk (show RB wr w2.heap.size u3 (recBody r) by rw [HP.out]; have := HO.out; rwa [List.take_of_length_le (by omega)] at this)
      have hbl : (recBody r).length = 57 := by rw [recBody_length, hl]
      clear HO
      have hfull : sealL (recBody r ++ zeros 3) = recLay r := by unfold recLay fullL; rw [hbl]
      have hsl : (recBody r ++ zeros 3).length = 60 := by rw [List.length_append, hbl, zeros_length]
      have hsb : Bytes (recBody r ++ zeros 3) := bytes_append (recBody_bytes r HD.out) (zeros_bytes 3)
      go_wp2_with (first | ((with_reducible refine gate_dst (N := 43) rfl ?_); refine lit3_u8 rfl 43 rfl rfl HX.out hS ?_; intro v3 w3 h7 h8 h9; obtain ⟨A3, c3, rfl, _, hc3⟩ := RB.reads h7; have HC3 := Aside0.mk hc3; have HO3 := Aside0.mk (Kd.R_grown HO2.out h9 (fun _ _ e => by cases e)); have H8 := Aside0.mk h8; clear h7 h8 h9 hc3) | (at_builtin; refine apps_u8 rfl (.tmp 42) (.tmp 43) rfl u3 (recBody r) A3 (zeros 3) c3 rfl rfl HO3.out HC3.out H8.out H8.out.size (by rw [hbl, zeros_length]; decide) ?_; intro v4 w4 h10 h11 h12; obtain ⟨A5, c5, e5⟩ := Kd.R_slice h10; rw [hsl] at e5; subst e5; have hR := (Kd.R_reads' h10).2.2; rw [hsl] at hR; have HR := Aside0.mk hR; have H11 := Aside0.mk h11; clear h10 h11 hR))
      obtain ⟨s, hs⟩ : ∃ s, s = recBody r ++ zeros 3 := ⟨_, rfl⟩
      rw [← hs] at hfull hsl hsb HR
      have HF := Aside0.mk hfull
      clear hs hfull HC3 HO3 H8
      refine (refseal_calls A5 60 c5 s _ HR.out hsb (by omega)).mono ?_
      rintro e w5 ⟨v5, rfl, h4, h5⟩
      obtain ⟨A6, c6, rfl⟩ := Kd.R_slice h4
      have HS := Aside0.mk (Kd.R_reads' h4).2.2
      have hsl4 : (sealL s).length = 64 := by rw [seal_length, hsl]
      rw [hsl4] at HS
      rw [hsl4]
      have hs2 := HX.out.size
      have H12 := Aside0.mk (H11.out.trans (h5.mono H11.out.size))
      have HG4 := Aside0.mk (H5.out.below H12.out H5.out.lt)
      have HW4 := Aside0.mk (H6.out.trans (H12.out.mono H6.out.size))
      clear h4 h5 HR HX H11 HO2
      obtain ⟨q, hq⟩ : ∃ q, q = sealL s := ⟨_, rfl⟩
      rw [← hq] at HS hsl4
      have HQ := Aside0.mk (hq.trans HF.out)
      clear hq HF
      go_wp2_with (first | ((with_reducible refine gate_dst (N := 5) rfl ?_); refine wpl_alloc rfl 28 rfl _ zero28 _ rfl ?_; intro w6 g5 h1 h2 h3; have H2 := Aside0.mk (show BB w6 g5 28 (upTo q 0) by rw [upTo_zero, hsl4]; exact h2); have HK5 := Aside0.mk (below_new (Below.refl _ _) (Nat.le_refl _) h3); clear h2 h3))
      go_loopw [6] (fun i wr => ∃ k : Nat, k ≤ 64 ∧ i = .int .i64 k ∧ Aside0 (BB wr g5 28 (upTo q k)) ∧ Aside0 (Below w5.heap.size w5 wr)) (fun i _ => 64 - (intOf i).toNat)
      case atStart => exact ⟨0, by omega, rfl, H2, HK5⟩
      case round =>
        clear H2 HK5
        obtain ⟨i, hi, rfl, HO, HK⟩ := hrel
        have HS5 := Aside0.mk (Kd.C_below HS.out HK.out)
        by_cases hlt : i < 64
        · obtain ⟨ad, rfl, hx⟩ := Kd.at_int HS5.out (i : Int) (by omega) (by omega)
          rw [Int.toNat_natCast] at hx
          have hc := HO.out.encAt (0 : Int) i (by rw [upTo_length]; omega)
          have hf := HO.out.frozen i
          go_wp2_with fail
          go_roundw
          case rel => exact ⟨i + 1, by omega, by go_num, ⟨by have := HO.out.encSet i (rd q (i : Int)); rwa [rd_nat, Int.toNat_natCast, upTo_succ q i (by omega), ← Int.toNat_natCast i, ← rd_nat, Int.toNat_natCast] at this⟩, ⟨HK.out.setCell h1 _⟩⟩
          case measure => simp [intOf]; omega
        · obtain rfl : i = 64 := by omega
          have HL := Aside0.mk (show BB wr g5 28 q by have := HO.out; rwa [show (64 : Nat) = q.length by omega, upTo_all] at this)
          have HG := Aside0.mk (HG4.out.below HK.out HG4.out.lt)
          clear HO HG4
          go_wp2_with (first | ((with_reducible refine gate_dst (N := 57) rfl ?_); refine load28 rfl (.tmp 5) rfl g5 rfl HL.out hsl4 ?_) | ((with_reducible refine gate_store (t := 28) (p := 2) rfl ?_); refine store28 rfl rfl (.tmp 2) (.tmp 57) rfl a2 rfl q rfl hsl4 HG.out hZl ?_; intro w6 h6 h7 h8))
          refine bodyPost_ret (ret28 rfl rfl h6 hsl4) rfl ?_
          exact ⟨by rw [HQ.out], below_grown ((HW4.out.trans (HK.out.mono (by have := HW4.out.size; omega)))) (by omega) (by have := HW4.out.size; have := HK.out.size; omega) h7⟩
end Go.Proofs.Ytmkkkenpjealdaa.RecWalks
