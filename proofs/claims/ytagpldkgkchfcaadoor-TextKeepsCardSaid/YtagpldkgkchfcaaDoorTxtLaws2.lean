/- Layer 25's laws: TextPlains. -/
import Derived.Test.YtagpldkgkchfcaaDoorTxtLaws1
namespace Go.Proofs.YtagpldkgkchfcaaDoor.Txt
set_option linter.unusedSimpArgs false
set_option linter.unusedVariables false
open Go.RowKit Go.Proofs.YtagpldkgkchfcaaDoorW.PrintWords Go.Proofs.YtagpldkgkchfcaaDoorW.PrintLast Go.Proofs.YtagpldkgkchfcaaDoorW.PrintMore Arr PTextPrints

theorem k41_mkK (w : World) (x : Step) (A : Option Addr) (c : Nat) (h : x.op.data.length = 32) (hc : x.keep.length ≤ c) (hC : (Kd.int .i64).C w A x.keep.length x.keep) : k41.K w x (stepC x (.slice A x.keep.length c)) :=
  ⟨opC x.op, _, rfl, ⟨[.int .i64 x.op.kind], _, rfl, rfl, ⟨[.int .i64 x.op.id], _, rfl, rfl, ⟨[.int .i64 x.op.blk], _, rfl, rfl, ⟨encs (Value.int .u8) x.op.data, _, rfl, ⟨h, rfl⟩, ⟨[.bool x.op.sync], [.int .i64 x.op.policy], rfl, rfl, rfl⟩⟩⟩⟩⟩, ⟨[.int .i64 x.arm], _, rfl, rfl, ⟨[.bool x.crash], _, rfl, rfl, ⟨[.slice A x.keep.length c], _, rfl, ⟨A, c, rfl, hc, hC⟩, ⟨[.int .u64 x.soft], [.int .i64 x.tear], rfl, rfl, rfl⟩⟩⟩⟩⟩
theorem C_one {w : World} {g : Nat} {x : Step} {A : Option Addr} {c : Nat} (h : x.op.data.length = 32) (hc : x.keep.length ≤ c) (hC : (Kd.int .i64).C w A x.keep.length x.keep) (hb : Blk w g 41 (stepC x (.slice A x.keep.length c))) : k41.C w (some ⟨g, 0, none⟩) 1 [x] := by
  refine ⟨rfl, by decide, fun _ => ⟨⟨g, 0, none⟩, rfl, fun j p hp => ?_⟩⟩
  match j, hp with
  | 0, hp =>
    obtain rfl := Option.some.inj hp
    refine ⟨stepC x (.slice A x.keep.length c), by rw [stepC_len _ _ h, k41_sz], k41_mkK w x A c h hc hC, fun i u hu => ?_⟩
    rw [Nat.zero_mul, Nat.zero_add, addr_at, Nat.zero_add]
    exact hb.cell hu
  | j + 1, hp => simp at hp
theorem few_one (x : Step) : fewB [x] = decide (1 + x.keep.length ≤ 400) := by unfold fewB keeps; simp
theorem litW {ops : Array Oper} {rest : List Oper} {o : Oper} {a : Act} {Q : Exit → Act → World → Prop} {W : World} (hw : Region.wanted o (yielded ops a.tmps) = true) (y : Operand) (ho : o.op = .buildSlice 23 1 #[(0, y)]) (x : Step) (v : Value) (hl : x.op.data.length = 32) (hx : a.eval y = .agg (stepC x v).toArray)
    (h : wpList Tryd.prog ops Q rest (a.put o.dst (.slice (some ⟨W.heap.size, 0, none⟩) 1 1)) (W.alloc (.cells (stepC x v).toArray 41))) : wpList Tryd.prog ops Q (o :: rest) a W :=
  event_runW hw (Arr.lit_run 23 41 y ho Tryd.underlying23 42 128 _ info41 (by decide) (by decide) (stepC x v) (stepC_len _ _ hl) hx) h
set_option maxRecDepth 10000 in
set_option maxHeartbeats 1000000 in
theorem law_plains (w : World) (hE : Env w) (x : Step) (hG : Good x) (A : Option Addr) (c : Nat) (hC : (Kd.int .i64).C w A x.keep.length x.keep) (hc : x.keep.length ≤ c) (hkw : x.keep.length ≤ 281474976710656) : Calls Tryd.prog 5 #[.agg (stepC x (.slice A x.keep.length c)).toArray] w fun e w' => e = .returned (.bool true) ∧ Below w.heap.size w w' := by
  have HK := Aside0.mk (Keeps.refl w)
  have HE := Aside0.mk hE
  have HL := Aside0.mk hG.len
  have HG := Aside0.mk hG
  have HC := Aside0.mk hC
  have HAW := Aside0.mk (fun W hW => awake_calls W (hE.below hW))
  have HFW := Aside0.mk (fun (W : World) (g : Nat) hW (hb : Blk W g 41 (stepC x (.slice A x.keep.length c))) => few_calls W (some ⟨g, 0, none⟩) 1 [x] (C_one hG.len hc (Kd.C_below hC hW) hb) (show 1 ≤ 281474976710656 by decide) (fun y hy => by obtain rfl := List.mem_singleton.1 hy; exact hkw))
  by_cases hf : x.keep.length ≤ 399
  · have HFB := Aside0.mk (show fewB [x] = true by rw [few_one, decide_eq_true_eq]; omega)
    have HPI := Aside0.mk (plain_iff x hG.good)
    rcases hr : refLine x with _ | s
    · have HR := Aside0.mk hr
      have HPB := Aside0.mk (show plainB x = false by rw [HPI.out, hr]; rfl)
      clear hr hG hC hE hkw
      go_enter Tryd.func5, Tryd.ntmps5
      go_wp2_with (first | ((with_reducible refine gate_dst (N := 1) rfl ?_); refine box41 rfl (.tmp 0) rfl x _ rfl ?_; intro w1 bg h1 h2 h3; have HK1 := Aside0.mk (HK.out.new h3 h2); clear h1 h2 h3) | (go_at_call 10; refine (HAW.out _ HK1.out.below).mono ?_; rintro e w2 ⟨rfl, hbb⟩; have HK2 := Aside0.mk (HK1.out.step hbb); clear hbb) | ((with_reducible refine gate_dst (N := 8) rfl ?_); refine loadW41 (by rfl) (.tmp 1) rfl bg rfl x _ HL.out HK2.out.head ?_) | ((with_reducible refine gate_dst (N := 9) rfl ?_); refine litW (by rfl) (.tmp 8) rfl x _ HL.out rfl ?_; have HK3 := Aside0.mk (HK2.out.fresh (World.grownBy_alloc w2 (.cells (stepC x (.slice A x.keep.length c)).toArray 41) none)); have HB3 := Aside0.mk (Blk.new w2 41 (stepC x (.slice A x.keep.length c)))) | (go_at_call 15; refine (HFW.out _ _ HK3.out.below HB3.out).mono ?_; rintro e w4 ⟨rfl, hbb⟩; rw [HFB.out]; have HK4 := Aside0.mk (HK3.out.step hbb); clear hbb) | ((with_reducible refine gate_dst (N := 15) rfl ?_); refine loadB41 rfl (.tmp 1) rfl bg rfl x _ HL.out HK4.out.head ?_) | (go_at_call 16; refine (rline_calls _ x HG.out A c (Kd.C_below HC.out HK4.out.below) hc (by omega)).mono ?_; unfold RLineEnd; rw [HR.out]; rintro e w5 ⟨s5, rfl, _, hbb⟩; have HK5 := Aside0.mk (HK4.out.step hbb); clear hbb) | ((with_reducible refine gate_dst (N := 19) rfl ?_); refine loadB41 rfl (.tmp 1) rfl bg rfl x _ HL.out HK5.out.head ?_) | (go_at_call 17; refine (plain_calls _ (HE.out.keeps HK5.out) x HG.out A c (Kd.C_below HC.out HK5.out.below) hc (by omega)).mono ?_; unfold PlainEnd; rw [HPB.out]; rintro e w6 ⟨rfl, hbb⟩; have HK6 := Aside0.mk (HK5.out.step hbb); clear hbb))
      go_ret
      exact ⟨rfl, HK6.out.below⟩
    · have HR := Aside0.mk hr
      have HPB := Aside0.mk (show plainB x = true by rw [HPI.out, hr]; rfl)
      have HPR := Aside0.mk (show printOf [x] = s by
        obtain ⟨rfl, _, _⟩ := back x hG.good.1 hG.good.2 hr
        unfold printOf; simp)
      have HST := Aside0.mk (fun (W : World) (g : Nat) hW (hb : Blk W g 41 (stepC x (.slice A x.keep.length c))) => (⟨C_one hG.len hc (Kd.C_below hC hW) hb, fun y hy => by obtain rfl := List.mem_singleton.1 hy; exact hG, (show 1 ≤ 800 by decide), fun y hy => by obtain rfl := List.mem_singleton.1 hy; omega⟩ : Steps W (some ⟨g, 0, none⟩) [x]))
      obtain ⟨S, hS⟩ : ∃ S, S = str s := ⟨_, rfl⟩
      have HS := Aside0.mk hS
      clear hr hG hC hE hkw hS
      go_enter Tryd.func5, Tryd.ntmps5
      go_wp2_with (first | ((with_reducible refine gate_dst (N := 1) rfl ?_); refine box41 rfl (.tmp 0) rfl x _ rfl ?_; intro w1 bg h1 h2 h3; have HK1 := Aside0.mk (HK.out.new h3 h2); clear h1 h2 h3) | (go_at_call 10; refine (HAW.out _ HK1.out.below).mono ?_; rintro e w2 ⟨rfl, hbb⟩; have HK2 := Aside0.mk (HK1.out.step hbb); clear hbb) | ((with_reducible refine gate_dst (N := 8) rfl ?_); refine loadW41 (by rfl) (.tmp 1) rfl bg rfl x _ HL.out HK2.out.head ?_) | ((with_reducible refine gate_dst (N := 9) rfl ?_); refine litW (by rfl) (.tmp 8) rfl x _ HL.out rfl ?_; have HK3 := Aside0.mk (HK2.out.fresh (World.grownBy_alloc w2 (.cells (stepC x (.slice A x.keep.length c)).toArray 41) none)); have HB3 := Aside0.mk (Blk.new w2 41 (stepC x (.slice A x.keep.length c)))) | (go_at_call 15; refine (HFW.out _ _ HK3.out.below HB3.out).mono ?_; rintro e w4 ⟨rfl, hbb⟩; rw [HFB.out]; have HK4 := Aside0.mk (HK3.out.step hbb); clear hbb) | ((with_reducible refine gate_dst (N := 15) rfl ?_); refine loadB41 rfl (.tmp 1) rfl bg rfl x _ HL.out HK4.out.head ?_) | (go_at_call 16; refine (rline_calls _ x HG.out A c (Kd.C_below HC.out HK4.out.below) hc (by omega)).mono ?_; unfold RLineEnd; rw [HR.out]; rintro e w5 ⟨s5, rfl, h5, hbb⟩; obtain rfl : s5 = S := (by rw [HS.out]; exact h5 s rfl); have HK5 := Aside0.mk (HK4.out.step hbb); clear hbb h5) | ((with_reducible refine gate_dst (N := 19) rfl ?_); refine loadB41 rfl (.tmp 1) rfl bg rfl x _ HL.out HK5.out.head ?_) | (go_at_call 17; refine (plain_calls _ (HE.out.keeps HK5.out) x HG.out A c (Kd.C_below HC.out HK5.out.below) hc (by omega)).mono ?_; unfold PlainEnd; rw [HPB.out]; rintro e w6 ⟨rfl, hbb⟩; have HK6 := Aside0.mk (HK5.out.step hbb); clear hbb) | ((with_reducible refine gate_dst (N := 27) rfl ?_); refine loadW41 (by rfl) (.tmp 1) rfl bg rfl x _ HL.out HK6.out.head ?_) | ((with_reducible refine gate_dst (N := 28) rfl ?_); refine litW (by rfl) (.tmp 27) rfl x _ HL.out rfl ?_; have HK7 := Aside0.mk (HK6.out.fresh (World.grownBy_alloc w6 (.cells (stepC x (.slice A x.keep.length c)).toArray 41) none)); have HB7 := Aside0.mk (Blk.new w6 41 (stepC x (.slice A x.keep.length c)))) | (go_at_call 18; refine (print_calls _ (HE.out.keeps HK7.out) (some ⟨w6.heap.size, 0, none⟩) 1 [x] (HST.out _ _ HK7.out.below HB7.out)).mono ?_; unfold PrintEnd; rw [HPR.out, ← HS.out]; rintro e w8 ⟨rfl, hbb⟩; have HK8 := Aside0.mk (HK7.out.step hbb); clear hbb))
      go_ret
      exact ⟨by simp, HK8.out.below⟩
  · have HFB := Aside0.mk (show fewB [x] = false by rw [few_one, decide_eq_false_iff_not]; omega)
    clear hG hC hE hkw hf
    go_enter Tryd.func5, Tryd.ntmps5
    go_wp2_with (first | ((with_reducible refine gate_dst (N := 1) rfl ?_); refine box41 rfl (.tmp 0) rfl x _ rfl ?_; intro w1 bg h1 h2 h3; have HK1 := Aside0.mk (HK.out.new h3 h2); clear h1 h2 h3) | (go_at_call 10; first | (refine (HAW.out _ HK4.out.below).mono ?_; rintro e w5 ⟨rfl, hbb⟩; have HK5 := Aside0.mk (HK4.out.step hbb); clear hbb) | (refine (HAW.out _ HK1.out.below).mono ?_; rintro e w2 ⟨rfl, hbb⟩; have HK2 := Aside0.mk (HK1.out.step hbb); clear hbb)) | ((with_reducible refine gate_dst (N := 8) rfl ?_); refine loadW41 (by rfl) (.tmp 1) rfl bg rfl x _ HL.out HK2.out.head ?_) | ((with_reducible refine gate_dst (N := 9) rfl ?_); refine litW (by rfl) (.tmp 8) rfl x _ HL.out rfl ?_; have HK3 := Aside0.mk (HK2.out.fresh (World.grownBy_alloc w2 (.cells (stepC x (.slice A x.keep.length c)).toArray 41) none)); have HB3 := Aside0.mk (Blk.new w2 41 (stepC x (.slice A x.keep.length c)))) | (go_at_call 15; refine (HFW.out _ _ HK3.out.below HB3.out).mono ?_; rintro e w4 ⟨rfl, hbb⟩; rw [HFB.out]; have HK4 := Aside0.mk (HK3.out.step hbb); clear hbb))
    go_ret
    exact ⟨rfl, HK5.out.below⟩
theorem row_plains (w : World) (hE : Env w) (x : Step) (cs : Array Value) (hK : k41.K w x cs.toList) (hg : gStep x) : Calls Tryd.prog 5 #[.agg cs] w fun e w' => e = .returned (.bool true) ∧ Below w.heap.size w w' := by
  obtain ⟨h1, h2, A, c, h0, h3, h4⟩ := arg_good hK hg
  obtain rfl : cs = (stepC x (.slice A x.keep.length c)).toArray := by rw [← h0]
  exact law_plains w hE x h1 A c h4 h3 h2
end Go.Proofs.YtagpldkgkchfcaaDoor.Txt
