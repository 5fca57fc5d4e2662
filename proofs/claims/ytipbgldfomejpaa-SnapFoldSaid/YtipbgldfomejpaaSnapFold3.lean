/- The walk of layer 17's statement SnapFold. -/
import Derived.Test.YtipbgldfomejpaaSnapFold2
namespace Go.Proofs.Ytipbgldfomejpaa.Snap
set_option linter.unusedSimpArgs false
set_option linter.unusedVariables false
open Go.RowKit Go.Proofs.YtipbgldfomejpaaW.PrintWords Go.Proofs.YtipbgldfomejpaaW.PrintLast Go.Proofs.YtipbgldfomejpaaW.PrintMore Arr

theorem FW.cells {W w : World} {s ob lb nb m : Nat} {vw vo : Value} {S : St} (h : FW W w s ob lb nb vw vo S m) (h8 : S.now.length = 8) (hk : ∀ o ∈ S.now, okO o) {b : Nat} (hb : b < 8) : ∀ j u, (oldC (og S.now b))[j]? = some u → w.cell? ((⟨nb, b * 34, none⟩ : Addr).add j) = some u := fun j u hu => by
  have hj : j < 34 := by
    have := (List.getElem?_eq_some_iff.1 hu).1
    rwa [oldC_len _ (hk _ (og_mem _ _ (by omega))).2] at this
  have e : (⟨nb, b * 34, none⟩ : Addr).add j = ⟨nb, b * 34 + j, none⟩ := by unfold Addr.add; split <;> simp_all
  rw [e, blk_cell h.now, flat_at S.now hk b (by omega) j hj]
  exact hu
theorem FW.start {W w3 w4 : World} {s ob lb nb : Nat} {S0 : St} (hD : DocAt w3 s ob lb ([], 0) 0) (hB : Below W.heap.size W w3) (h1 : W.heap.size ≤ s) (h2 : W.heap.size ≤ ob) (h3 : W.heap.size ≤ lb) (h4 : w3.heap.size ≤ nb) (h5 : Blk w4 nb 30 (flat S0.now)) (h6 : w3.grownBy w4 none) (hS : S0 = ({ st0 with was := [] } : St)) : FW W w4 s ob lb nb (.slice none 0 0) (.slice none 0 0) S0 0 := by
  have d := hD.fresh h6
  have e1 := hD.1.blk.lt
  have e2 := hD.1.old.lt
  have e3 := hD.1.last.lt
  have e6 := hB.size
  have hbel := step_bel hB (grown_fresh h6)
  subst hS
  exact ⟨d, hbel, h5, Kd.R_nil _ _ _ _ _, Kd.R_nil _ _ _ _ _, by omega, by omega⟩
theorem FW.start2 {W w4 w5 : World} {s ob lb nb : Nat} {v5 : Value} {S0 : St} (h : FW W w4 s ob lb nb (.slice none 0 0) (.slice none 0 0) S0 0) (hS : S0 = ({ st0 with was := [] } : St)) (h9 : w4.grownBy w5 (Value.slice none 0 0).ownBlock) (h8 : Below W.heap.size W w5) (h7 : Kd.R kN 30 w5 W.heap.size (fun k => k ≠ s ∧ k ≠ ob ∧ k ≠ lb ∧ k ≠ nb) v5 ([] ++ [S0.now])) : FW W w5 s ob lb nb v5 (.slice none 0 0) st0 0 := by
  subst hS
  exact h.was_ h9 h8 h7 rfl
theorem commitFW {W w : World} {s ob lb nb m : Nat} {vw : Value} {Ao : Option Addr} {q co : Nat} {S : St} (h : FW W w s ob lb nb vw (.slice Ao q co) S m) (fi : FI S) (hl : S.all.length ≤ 1000) (hm : m + S.opn.length ≤ 1000) :
    Calls Try.prog 14 #[.pointer (some ⟨s, 0, none⟩), .slice Ao q co] w fun e w' => e = .returned (.tuple #[]) ∧ FW W w' s ob lb nb vw (.slice none 0 0) { S with opn := [], all := S.all ++ [S.opn] } (m + S.opn.length) := by
  obtain ⟨rfl, _, _⟩ := Kd.R_reads' h.opn
  have hmv : ∀ w1, Moves w w1 s ob lb → ∀ k, ((k ≠ s ∧ k ≠ ob ∧ k ≠ lb ∧ k ≠ nb) ∧ k < w.heap.size) → w1.heap[k]? = w.heap[k]? := fun w1 hM k hk => hM.heap k hk.2 hk.1.1 hk.1.2.1 hk.1.2.2.1
  refine (commitDoc w s ob lb m (S.all, 0) h.doc Ao co S.opn (fun w1 hM => (Kd.R_reads' (Kd.R_move (Kd.R_mono (Kd.R_bound h.opn) (fun k hk => ⟨hk.1, hk.2.2.1⟩)) (hmv w1 hM))).2.2) (fun o ho => (fi.okO_ o ho).1) (by show S.all.length ≤ 100000; omega) (by omega)).mono ?_
  rintro e w1 ⟨he, hD, hM⟩
  refine ⟨he, hD, hM.below _ W h.bel h.bel.size h.lo.1 h.lo.2.1 h.lo.2.2.1, hM.blk h.now h.ne.1 h.ne.2.1 h.ne.2.2, ?_, Kd.R_nil _ _ _ _ _, h.lo, h.ne⟩
  exact Kd.R_mono (Kd.R_move (Kd.R_mono (Kd.R_bound h.was) (fun k hk => ⟨hk.1, hk.2.2.1⟩)) (hmv w1 hM)) (fun k hk => hk.1)
def newO (x : Stp) (b : Nat) : Old := ⟨(b : Int), !x.trim, if x.trim then zeros 32 else x.data⟩
theorem newO_ok (x : Stp) (hx : gStp x) (hl : x.data.length = 32) (b : Nat) (hb : b < 8) : okO (newO x b) := by
  refine ⟨⟨wf_i64 (by show -9223372036854775808 ≤ (b : Int) ∧ (b : Int) ≤ 9223372036854775807; omega), trivial, fun y hy => ?_⟩, ?_⟩
  · unfold newO at hy
    cases ht : x.trim
    · rw [ht] at hy; exact hx.2.1 y hy
    · rw [ht] at hy
      rw [List.eq_of_mem_replicate hy]; decide
  · unfold newO
    cases ht : x.trim
    · exact hl
    · rfl
theorem stpC_len (x : Stp) (h : x.data.length = 32) : (encs (Value.int .u8) x.data).length = 32 := by simp [encs, h]
section
variable {W w : World} {ad : Addr} {k : Nat} {x : Stp}
theorem add_off {a : Addr} {i : Nat} (hi : 0 < i) : a.add i = ⟨a.block, a.off + i, none⟩ := by unfold Addr.add; rw [if_neg (by omega)]
theorem step_trim (h : ∀ j u, (stpC x)[j]? = some u → W.cell? ((ad.add (k * 35)).add j) = some u) (hl : x.data.length = 32) : W.cell? ⟨(ad.add (k * 35)).block, (ad.add (k * 35)).off + 33, none⟩ = some (.bool x.trim) := by
  rw [← add_off (by omega)]
  refine h 33 _ ?_
  unfold stpC
  rw [List.getElem?_append_right (by simp), List.getElem?_append_right (by rw [stpC_len x hl]; simp), stpC_len x hl]
  rfl
theorem step_more (h : ∀ j u, (stpC x)[j]? = some u → W.cell? ((ad.add (k * 35)).add j) = some u) (hl : x.data.length = 32) : W.cell? ⟨(ad.add (k * 35)).block, (ad.add (k * 35)).off + 34, none⟩ = some (.bool x.more) := by
  rw [← add_off (by omega)]
  refine h 34 _ ?_
  unfold stpC
  rw [List.getElem?_append_right (by simp), List.getElem?_append_right (by rw [stpC_len x hl]; simp), stpC_len x hl]
  rfl
theorem step_data (h : ∀ j u, (stpC x)[j]? = some u → W.cell? ((ad.add (k * 35)).add j) = some u) (hb : Below W.heap.size W w) : ∀ j u, (encs (Value.int .u8) x.data)[j]? = some u → w.cell? ((⟨(ad.add (k * 35)).block, (ad.add (k * 35)).off + 1, none⟩ : Addr).add j) = some u := fun j u hu => by
  rw [← add_off (by omega), Addr.add_add]
  refine bel_cell hb (h (1 + j) u ?_)
  unfold stpC
  rw [List.getElem?_append_right (by simp), show 1 + j - [Value.int .u8 x.block].length = j by simp, List.getElem?_append_left (List.getElem?_eq_some_iff.1 hu).1]
  exact hu
end
section
variable {ops : Array Oper} {rest : List Oper} {o : Oper} {a : Go.Act} {Q : Exit → Go.Act → World → Prop} {W : World}
theorem ev_wanted {w1 : World} {v : Value} (hw : Region.wanted o (yielded ops a.tmps) = true) (hrun : (execOp a.eval o).run Try.prog W = .ok (.value v) w1) (h : wpList Try.prog ops Q rest (a.put o.dst v) w1) : wpList Try.prog ops Q (o :: rest) a W := by
  unfold wpList
  rw [if_pos hw]
  left
  unfold Oper.wp
  rw [hrun]
  exact h
theorem load27g (hw : Region.wanted o (yielded ops a.tmps) = true) (p : Operand) (ho : o.op = .load 27 p) (ad : Addr) (hp : a.eval p = .pointer (some ad)) (l : List Int) (hl : l.length = 32) (hc : ∀ j u, (encs (Value.int .u8) l)[j]? = some u → W.cell? (ad.add j) = some u)
    (h : wpList Try.prog ops Q rest (a.put o.dst (.agg (encs (Value.int .u8) l).toArray)) W) : wpList Try.prog ops Q (o :: rest) a W := by
  refine ev_wanted hw ?_ h
  obtain ⟨i, hii, his⟩ := Option.map_eq_some_iff.1 size27
  have hcl := run_loadCells_list (P := Try.prog) W ad (encs (Value.int .u8) l) hc
  have hagg : (isAgg 27).run Try.prog W = .ok true W := by rw [run_isAgg Try.underlying27 W]; rfl
  rw [show (encs (Value.int .u8) l).length = 32 by simp [encs, hl]] at hcl
  unfold execOp
  simp [ho, hp, Instr.loadAt, Instr.sureAddr, loadVar, Sem.run_bind, hagg, sizeOf, typeInfo, hii, his, hcl]
theorem eql27g (hw : Region.wanted o (yielded ops a.tmps) = true) (x y : Operand) (ho : o.op = .binOp .eql 27 x y 27) (l : List Int) (hl : l.length = 32) (hwf : ∀ z ∈ l, (Lit.int .u8 z).wf = true) (hx : a.eval x = .agg (encs (Value.int .u8) l).toArray) (hy : a.eval y = .agg (encs (Value.int .u8) l).toArray)
    (h : wpList Try.prog ops Q rest (a.put o.dst (.bool true)) W) : wpList Try.prog ops Q (o :: rest) a W := by
  refine ev_wanted hw ?_ h
  simp [execOp, ho, hx, hy, Sem.run_bind, run_eqGuard eqg27 rfl, binOp, eq27 hl hwf]
end
theorem data_cells {w : World} {g : Nat} {o : Old} (h : OB w g o) : ∀ j u, (encs (Value.int .u8) o.data)[j]? = some u → w.cell? ((⟨g, 2, none⟩ : Addr).add j) = some u := fun j u hu => by
  have e : (⟨g, 2, none⟩ : Addr).add j = ⟨g, 2 + j, none⟩ := by unfold Addr.add; split <;> simp_all
  rw [e]
  refine Blk.cell h ?_
  unfold oldC
  rw [List.getElem?_append_right (by simp), show 2 + j - [Value.int IntKind.i64 o.blk, Value.bool o.has].length = j by simp]
  exact hu
theorem encs_one (l : List Int) : ∀ v ∈ encs (Value.int .u8) l, v.oneCell' = true := fun v hv => by
  unfold encs at hv
  obtain ⟨y, _, rfl⟩ := List.mem_map.1 hv
  rfl
theorem FW.trim_ {W w w1 : World} {s ob lb nb m bn : Nat} {vw vo : Value} {S : St} {x : Stp} (h : FW W w s ob lb nb vw vo { S with opn := S.opn ++ [{ og S.now bn with blk := (bn : Int) }] } m) (hg : w.grownBy w1 (some nb)) (hb : Blk w1 nb 30 (flat (S.now.set bn ⟨(bn : Int), false, zeros 32⟩))) (ht : x.trim = true) : FW W w1 s ob lb nb vw vo (stepS S bn (newO x bn)) m := by
  have e : newO x bn = ⟨(bn : Int), false, zeros 32⟩ := by unfold newO; rw [ht]; rfl
  unfold stepS
  rw [e]
  exact h.put hg hb
theorem FW.data_ {W w w1 : World} {s ob lb nb m bn : Nat} {vw vo : Value} {S : St} {x : Stp} (h : FW W w s ob lb nb vw vo { now := S.now.set bn ⟨(bn : Int), true, zeros 32⟩, was := S.was, opn := S.opn ++ [{ og S.now bn with blk := (bn : Int) }], all := S.all } m) (hg : w.grownBy w1 (some nb)) (hb : Blk w1 nb 30 (flat ((S.now.set bn ⟨(bn : Int), true, zeros 32⟩).set bn { og (S.now.set bn ⟨(bn : Int), true, zeros 32⟩) bn with data := x.data }))) (ht : x.trim = false) (hb8 : bn < 8) (h8 : S.now.length = 8) : FW W w1 s ob lb nb vw vo (stepS S bn (newO x bn)) m := by
  have e : newO x bn = ⟨(bn : Int), true, x.data⟩ := by unfold newO; rw [ht]; rfl
  rw [og_set _ _ _ _ (by omega), if_pos rfl, List.set_set] at hb
  unfold stepS
  rw [e]
  exact h.put hg hb
theorem FW.commit_ {W w w1 : World} {s ob lb nb m : Nat} {vw vo v1 : Value} {S : St} (h : FW W w s ob lb nb vw vo { S with opn := [], all := S.all ++ [S.opn] } m) (h9 : w.grownBy w1 vw.ownBlock) (h8 : Below W.heap.size W w1) (h7 : Kd.R kN 30 w1 W.heap.size (fun k => k ≠ s ∧ k ≠ ob ∧ k ≠ lb ∧ k ≠ nb) v1 (S.was ++ [S.now])) : FW W w1 s ob lb nb v1 vo (commitS S) m := h.was_ h9 h8 h7 rfl
set_option maxRecDepth 10000 in
set_option maxHeartbeats 16000000 in
theorem fold_walk (W : World) (A : Option Addr) (c : Nat) (l : List Stp) (hlc : l.length ≤ c) (hC : Kd.C k34 W A l.length l) (hG : ∀ x ∈ l, gStp x) (b0 : Int) (hb0 : (Lit.int .u8 b0).wf = true) (a0 : Int) (ha0 : (Lit.int .u8 a0).wf = true) : Calls Try.prog 3 #[.slice A l.length c, .int .u8 b0, .int .u8 a0] W (Holds W) := by
  have HC := Aside0.mk hC
  have HG := Aside0.mk hG
  have hbb := bounds_u8 hb0
  have hab := bounds_u8 ha0
  have hm := Kd.C_max hC
  clear hC hG
  go_enter Try.func3, Try.ntmps3
  go_wp2_with fail
  refine (awake_calls _).mono ?_
  rintro e w1 ⟨rfl, hb⟩
  have H1 := Aside0.mk hb
  clear hb
  by_cases q1 : 80 < (l.length : Int)
  case pos =>
    have hd : decide (80 < (l.length : Int)) = true := by simp; omega
    go_wp2_with fail
    refine (awake_calls _).mono ?_
    rintro e w9 ⟨rfl, hb⟩
    have H9 := Aside0.mk (step_bel H1.out hb)
    clear hb
    go_wp2_with fail
    go_ret
    exact ⟨rfl, H9.out⟩
  have d1 : decide (80 < (l.length : Int)) = false := by simp; omega
  obtain ⟨S0, hS0⟩ : ∃ S, S = ({ st0 with was := [] } : St) := ⟨_, rfl⟩
  have h80 : S0.now.length = 8 ∧ ∀ o ∈ S0.now, okO o := by rw [hS0]; exact ⟨fi0.len8, fi0.okN⟩
  have HS0 := Aside0.mk hS0
  have H80 := Aside0.mk h80
  clear hS0 h80
  go_upto_region 5 with (first | (go_at_call 13; refine (newDoc _).mono ?_; rintro e w3 ⟨s, ob, lb, rfl, hD, hs1, hs2, hs3, hB1⟩; have HD := Aside0.mk hD; have HB := Aside0.mk (step_bel H1.out hB1); have h1 := Nat.le_trans H1.out.size hs1; have h2 := Nat.le_trans H1.out.size hs2; have h3 := Nat.le_trans H1.out.size hs3; clear hD hB1 hs1 hs2 hs3 H1) | ((with_reducible refine gate_dst (N := 8) rfl ?_); refine alloc30 (zs := flat S0.now) (by rw [HS0.out]; rfl) rfl rfl ?_; intro w4 nb h4 h5 h6; have HF4 := Aside0.mk (FW.start HD.out HB.out h1 h2 h3 h4 h5 h6 HS0.out); clear h4 h5 h6 HD HB))
  go_upto_region 7 with (first | ((with_reducible refine gate_dst (N := 29) rfl ?_); refine load30 rfl (.tmp 8) rfl nb rfl H80.out.1 H80.out.2 HF4.out.now ?_) | ((with_reducible refine gate_dst (N := 30) rfl ?_); refine lit30 rfl (.tmp 29) rfl S0.now H80.out.1 H80.out.2 rfl ?_) | ((with_reducible refine gate_dst (N := 31) rfl ?_); refine app30 (w0 := W) (B := W.heap.size) (ok := fun k => k ≠ s ∧ k ≠ ob ∧ k ≠ lb ∧ k ≠ nb) rfl (.tmp 28) (.tmp 30) rfl (.slice none 0 0) [] S0.now rfl rfl H80.out.1 H80.out.2 (Kd.R_nil _ _ _ _ _) (fun k hk => by have := HF4.out.lts; omega) HF4.out.bel HF4.out.bel.size (by simp) ?_; intro v5 w5 h7 h8 h9; have HF5 := Aside0.mk (FW.start2 HF4.out HS0.out h9 h8 h7); clear h7 h8 h9))
  clear HF4 h1 h2 h3
  go_wp2_with fail
  go_loopw [9, 10, 11] (fun vw vo i wr => ∃ k : Nat, k ≤ l.length ∧ i = .int .i64 k ∧ ∃ (S : St) (m : Nat), m + S.opn.length ≤ k ∧ S.all.length ≤ k ∧ Aside0 (k = l.length → S.opn = []) ∧ Aside0 (FI S) ∧ Aside0 (FW W wr s ob lb nb vw vo S m)) (fun _ _ i _ => l.length - (intOf i).toNat)
  case atStart => exact ⟨0, by omega, rfl, st0, 0, by decide, by decide, ⟨fun _ => rfl⟩, ⟨fi0⟩, HF5⟩
  case round =>
    clear HF5
    obtain ⟨k, hk, rfl, S, m, hmo, hal, HOP, HFI, HFW⟩ := hrel
    by_cases hlt : k < l.length
    · have hd : decide ((k : Int) < l.length) = true := by simp; omega
      obtain ⟨ad, hA, hcx, hxl⟩ := at34 HC.out k hlt
      subst hA
      have hxg := HG.out _ (sg_mem l k hlt)
      obtain ⟨x, hx⟩ : ∃ x, x = sg l k := ⟨_, rfl⟩
      rw [← hx] at hcx hxl hxg
      have HCX := Aside0.mk hcx
      have HXG := Aside0.mk hxg
      have hbx := bounds_u8 hxg.1
      have hc0 : wr.cell? (ad.add (k * 35)) = some (.int .u8 x.block) := bel_cell HFW.out.bel (hcx 0 _ rfl)
      clear hcx hx hxg
      obtain ⟨bn, hbn⟩ : ∃ bn : Nat, x.block % 8 = bn := ⟨(x.block % 8).toNat, by omega⟩
      have hb8 : bn < 8 := by omega
      have HBN := Aside0.mk hbn
      go_upto_region 12 with (fail)
      go_upto_region 13 with (first | ((with_reducible refine gate_dst (N := 47) rfl ?_); refine load29 rfl (.tmp 46) rfl ⟨nb, bn * 34, none⟩ rfl (og S.now bn) (HFI.out.okN _ (og_mem _ _ (by rw [HFI.out.len8]; exact hb8))).2 (HFW.out.cells HFI.out.len8 HFI.out.okN hb8) ?_) | ((with_reducible refine gate_dst (N := 13) rfl ?_); refine alloc29 rfl rfl ?_; intro w2 x13 h6 h7 h8; have H7 := Aside0.mk h7; have H8 := Aside0.mk h8; clear h7 h8) | (refine store29 rfl rfl (.tmp 13) (.tmp 47) rfl x13 rfl (og S.now bn) (HFI.out.okN _ (og_mem _ _ (by rw [HFI.out.len8]; exact hb8))).2 rfl (M := old0) rfl H7.out ?_; intro w3' h9 h10 h11; have H9 := Aside0.mk h9; have H10 := Aside0.mk h10; clear h9 h10 h11))
      have hfz := Blk.frozen H9.out 0
      have hc3 : w3'.cell? ⟨x13, 0, none⟩ = some (.int .i64 (og S.now bn).blk) := Blk.cell H9.out rfl
      have HB3 := Aside0.mk (below_grown (grown_fresh H8.out) h6 H8.out.size H10.out)
      go_upto_region 14 with (fail)
      have HB4 := Aside0.mk (below_grown HB3.out h6 HB3.out.size (grown_set w3' x13 0 (.int .i64 bn)))
      have H4 := Aside0.mk (show OB (w3'.setCell ⟨x13, 0, none⟩ (.int .i64 bn)) x13 { og S.now bn with blk := (bn : Int) } from H9.out.set 0 _)
      have HF4 := Aside0.mk (HFW.out.below HB4.out)
      obtain ⟨w4', hw4⟩ : ∃ w4', w4' = w3'.setCell ⟨x13, 0, none⟩ (.int .i64 bn) := ⟨_, rfl⟩
      rw [← hw4] at H4 HF4 ⊢
      clear hw4 hfz hc3 HB3 HB4 H7 H8 H9 H10 HFW h6 hc0
      have hol := (HFI.out.okN _ (og_mem _ _ (by rw [HFI.out.len8]; exact hb8))).2
      go_upto_region 15 with (first | ((with_reducible refine gate_dst (N := 51) rfl ?_); refine loadB29 rfl (.tmp 13) rfl x13 rfl { og S.now bn with blk := (bn : Int) } hol H4.out ?_) | ((with_reducible refine gate_dst (N := 52) rfl ?_); refine lit29 rfl (.tmp 51) rfl { og S.now bn with blk := (bn : Int) } hol rfl ?_) | ((with_reducible refine gate_dst (N := 53) rfl ?_); refine app29 (w0 := W) (B := W.heap.size) (ok := fun k => k ≠ s ∧ k ≠ ob ∧ k ≠ lb ∧ k ≠ nb) rfl (.tmp 50) (.tmp 52) rfl u10 S.opn { og S.now bn with blk := (bn : Int) } rfl rfl hol HF4.out.opn (fun k hk => by have := HF4.out.lts; omega) HF4.out.bel HF4.out.bel.size (by omega) ?_; intro v5' w5' h1 h2 h3; obtain ⟨Ao, co, rfl, hco, _⟩ := Kd.R_reads h1; have h4 := HF4.out.open_ h3 h2 h1 rfl; obtain ⟨q, hq⟩ : ∃ q, q = (S.opn ++ [{ og S.now bn with blk := (bn : Int) }]).length := ⟨_, rfl⟩; rw [← hq] at h4 ⊢; have HF5 := Aside0.mk h4; clear h1 h2 h3 hco h4 hq))
      clear hol H4 HF4
      have e33 := bel_cell HF5.out.bel (step_trim HCX.out hxl)
      obtain ⟨S1, hS1⟩ : ∃ S1, S1 = stepS S bn (newO x bn) := ⟨_, rfl⟩
      have HFI1 := Aside0.mk (show FI S1 by rw [hS1]; exact fi_step HFI.out bn hb8 _ (newO_ok x HXG.out hxl bn hb8))
      have HS1 := Aside0.mk (show m + S1.opn.length ≤ k + 1 ∧ S1.all.length ≤ k by rw [hS1]; refine ⟨?_, hal⟩; show m + (S.opn ++ [_]).length ≤ k + 1; simp; omega)
      have HST := Aside0.mk hS1
      clear hS1
      obtain ⟨tr, htr⟩ : ∃ tr, tr = x.trim := ⟨_, rfl⟩
      rw [← htr] at e33
      have HXT := Aside0.mk htr.symm
      obtain ⟨mo, hmo'⟩ : ∃ mo, mo = x.more := ⟨_, rfl⟩
      have HXM := Aside0.mk hmo'.symm
      clear htr hmo'
      cases tr with
      | false =>
        have HO6 := Aside0.mk (show ∀ o ∈ S.now.set bn ⟨(bn : Int), true, zeros 32⟩, okO o from fun o ho => by
          rcases List.mem_or_eq_of_mem_set ho with h1 | h1
          · exact HFI.out.okN o h1
          · rw [h1]; exact ⟨⟨wf_i64 (by show -9223372036854775808 ≤ (bn : Int) ∧ (bn : Int) ≤ 9223372036854775807; omega), trivial, fun y hy => by rw [List.eq_of_mem_replicate hy]; decide⟩, rfl⟩)
        go_upto_region 18 with (first | (refine wpl_store rfl rfl 29 (.tmp 63) (.tmp 62) rfl nb (bn * 34) rfl (oldC ⟨(bn : Int), true, zeros 32⟩) rfl (by exact size29) (oldC_one _) HF5.out.now (by rw [flat_len _ HFI.out.okN, HFI.out.len8]; show bn * 34 + 34 ≤ 8 * 34; omega) ?_; intro w6 g1 g2 g3; rw [show bn * 34 + (oldC ⟨(bn : Int), true, zeros 32⟩).length = bn * 34 + 34 from rfl, flat_put S.now HFI.out.okN bn (by rw [HFI.out.len8]; exact hb8)] at g1; have HF6 := Aside0.mk (HF5.out.put g2 g1); have e6 := bel_cell HF6.out.bel (step_trim HCX.out hxl); rw [HXT.out] at e6; clear g1 g2 g3) | ((with_reducible refine gate_dst (N := 75) rfl ?_); refine wpl_load rfl 27 (.tmp 74) rfl ⟨(ad.add (k * 35)).block, (ad.add (k * 35)).off + 1, none⟩ rfl (encs (Value.int .u8) x.data) Try.underlying27 rfl (by rw [show (encs (Value.int .u8) x.data).length = 32 by simp [encs, hxl]]; exact size27) (step_data HCX.out HF6.out.bel) ?_) | (refine wpl_store rfl rfl 27 (.tmp 77) (.tmp 75) rfl nb (bn * 34 + 2) rfl (encs (Value.int .u8) x.data) rfl (by rw [show (encs (Value.int .u8) x.data).length = 32 by simp [encs, hxl]]; exact size27) (encs_one _) HF6.out.now (by rw [flat_len _ HO6.out, List.length_set, HFI.out.len8, show (encs (Value.int .u8) x.data).length = 32 by simp [encs, hxl]]; omega) ?_; intro w7 g1 g2 g3; rw [flat_data HO6.out (by rw [List.length_set, HFI.out.len8]; exact hb8) hxl] at g1; have HF7 := Aside0.mk (FW.data_ HF6.out g2 g1 HXT.out hb8 HFI.out.len8); clear g1 g2 g3))
        have HF7 : Aside0 (FW W _ s ob lb nb u9 (.slice Ao q co) S1 m) := Aside0.mk (by rw [HST.out]; exact HF7.out)
        have e34 := bel_cell HF7.out.bel (step_more HCX.out hxl)
        rw [HXM.out] at e34
        cases mo with
        | false =>
          go_wp2_with (first | (go_at_call 14; refine (commitFW HF7.out HFI1.out (by have := HS1.out.2; omega) (by have := HS1.out.1; omega)).mono ?_; rintro e w8 ⟨rfl, h⟩; have HF8 := Aside0.mk h; clear h) | ((with_reducible refine gate_dst (N := 95) rfl ?_); refine load30 rfl (.tmp 8) rfl nb rfl HFI1.out.len8 HFI1.out.okN HF8.out.now ?_) | ((with_reducible refine gate_dst (N := 96) rfl ?_); refine lit30 rfl (.tmp 95) rfl S1.now HFI1.out.len8 HFI1.out.okN rfl ?_) | ((with_reducible refine gate_dst (N := 97) rfl ?_); refine app30 (w0 := W) (B := W.heap.size) (ok := fun k => k ≠ s ∧ k ≠ ob ∧ k ≠ lb ∧ k ≠ nb) rfl (.tmp 94) (.tmp 96) rfl u9 S1.was S1.now rfl rfl HFI1.out.len8 HFI1.out.okN HF8.out.was (fun k hk => by have := HF8.out.lts; omega) HF8.out.bel HF8.out.bel.size (by have := HFI1.out.wlen; have := HS1.out.2; omega) ?_; intro v9 w9 g7 g8 g9; have HF9 := Aside0.mk (FW.commit_ HF8.out g9 g8 g7); clear g7 g8 g9))
          go_roundw
          case rel => exact ⟨k + 1, by omega, by go_num, commitS S1, m + S1.opn.length, by have := HS1.out.1; show m + S1.opn.length + 0 ≤ k + 1; omega, by show (S1.all ++ [S1.opn]).length ≤ k + 1; have := HS1.out.2; simp; omega, ⟨fun _ => rfl⟩, ⟨fi_commit HFI1.out⟩, HF9⟩
          case measure => simp [intOf]; omega
        | true =>
          by_cases hl1 : k + 1 = l.length
          · have hd2 : ((k : Int) == (l.length : Int) - 1) = true := by simp; omega
            go_wp2_with (first | (go_at_call 14; refine (commitFW HF7.out HFI1.out (by have := HS1.out.2; omega) (by have := HS1.out.1; omega)).mono ?_; rintro e w8 ⟨rfl, h⟩; have HF8 := Aside0.mk h; clear h) | ((with_reducible refine gate_dst (N := 95) rfl ?_); refine load30 rfl (.tmp 8) rfl nb rfl HFI1.out.len8 HFI1.out.okN HF8.out.now ?_) | ((with_reducible refine gate_dst (N := 96) rfl ?_); refine lit30 rfl (.tmp 95) rfl S1.now HFI1.out.len8 HFI1.out.okN rfl ?_) | ((with_reducible refine gate_dst (N := 97) rfl ?_); refine app30 (w0 := W) (B := W.heap.size) (ok := fun k => k ≠ s ∧ k ≠ ob ∧ k ≠ lb ∧ k ≠ nb) rfl (.tmp 94) (.tmp 96) rfl u9 S1.was S1.now rfl rfl HFI1.out.len8 HFI1.out.okN HF8.out.was (fun k hk => by have := HF8.out.lts; omega) HF8.out.bel HF8.out.bel.size (by have := HFI1.out.wlen; have := HS1.out.2; omega) ?_; intro v9 w9 g7 g8 g9; have HF9 := Aside0.mk (FW.commit_ HF8.out g9 g8 g7); clear g7 g8 g9))
            go_roundw
            case rel => exact ⟨k + 1, by omega, by go_num, commitS S1, m + S1.opn.length, by have := HS1.out.1; show m + S1.opn.length + 0 ≤ k + 1; omega, by show (S1.all ++ [S1.opn]).length ≤ k + 1; have := HS1.out.2; simp; omega, ⟨fun _ => rfl⟩, ⟨fi_commit HFI1.out⟩, HF9⟩
            case measure => simp [intOf]; omega
          · have hd2 : ((k : Int) == (l.length : Int) - 1) = false := by simp; omega
            go_wp2_with fail
            go_roundw
            case rel => exact ⟨k + 1, by omega, by go_num, S1, m, by have := HS1.out.1; omega, by have := HS1.out.2; omega, ⟨fun h => by omega⟩, HFI1, HF7⟩
            case measure => simp [intOf]; omega
      | true =>
        go_upto_region 18 with (first | (refine wpl_store rfl rfl 29 (.tmp 63) (.tmp 62) rfl nb (bn * 34) rfl (oldC ⟨(bn : Int), false, zeros 32⟩) rfl (by exact size29) (oldC_one _) HF5.out.now (by rw [flat_len _ HFI.out.okN, HFI.out.len8]; show bn * 34 + 34 ≤ 8 * 34; omega) ?_; intro w6 g1 g2 g3; rw [show bn * 34 + (oldC ⟨(bn : Int), false, zeros 32⟩).length = bn * 34 + 34 from rfl, flat_put S.now HFI.out.okN bn (by rw [HFI.out.len8]; exact hb8)] at g1; have HF7 := Aside0.mk (FW.trim_ HF5.out g2 g1 HXT.out); have e6 := bel_cell HF7.out.bel (step_trim HCX.out hxl); rw [HXT.out] at e6; clear g1 g2 g3))
        have HF7 : Aside0 (FW W _ s ob lb nb u9 (.slice Ao q co) S1 m) := Aside0.mk (by rw [HST.out]; exact HF7.out)
        have e34 := bel_cell HF7.out.bel (step_more HCX.out hxl)
        rw [HXM.out] at e34
        cases mo with
        | false =>
          go_wp2_with (first | (go_at_call 14; refine (commitFW HF7.out HFI1.out (by have := HS1.out.2; omega) (by have := HS1.out.1; omega)).mono ?_; rintro e w8 ⟨rfl, h⟩; have HF8 := Aside0.mk h; clear h) | ((with_reducible refine gate_dst (N := 95) rfl ?_); refine load30 rfl (.tmp 8) rfl nb rfl HFI1.out.len8 HFI1.out.okN HF8.out.now ?_) | ((with_reducible refine gate_dst (N := 96) rfl ?_); refine lit30 rfl (.tmp 95) rfl S1.now HFI1.out.len8 HFI1.out.okN rfl ?_) | ((with_reducible refine gate_dst (N := 97) rfl ?_); refine app30 (w0 := W) (B := W.heap.size) (ok := fun k => k ≠ s ∧ k ≠ ob ∧ k ≠ lb ∧ k ≠ nb) rfl (.tmp 94) (.tmp 96) rfl u9 S1.was S1.now rfl rfl HFI1.out.len8 HFI1.out.okN HF8.out.was (fun k hk => by have := HF8.out.lts; omega) HF8.out.bel HF8.out.bel.size (by have := HFI1.out.wlen; have := HS1.out.2; omega) ?_; intro v9 w9 g7 g8 g9; have HF9 := Aside0.mk (FW.commit_ HF8.out g9 g8 g7); clear g7 g8 g9))
          go_roundw
          case rel => exact ⟨k + 1, by omega, by go_num, commitS S1, m + S1.opn.length, by have := HS1.out.1; show m + S1.opn.length + 0 ≤ k + 1; omega, by show (S1.all ++ [S1.opn]).length ≤ k + 1; have := HS1.out.2; simp; omega, ⟨fun _ => rfl⟩, ⟨fi_commit HFI1.out⟩, HF9⟩
          case measure => simp [intOf]; omega
        | true =>
          by_cases hl1 : k + 1 = l.length
          · have hd2 : ((k : Int) == (l.length : Int) - 1) = true := by simp; omega
            go_wp2_with (first | (go_at_call 14; refine (commitFW HF7.out HFI1.out (by have := HS1.out.2; omega) (by have := HS1.out.1; omega)).mono ?_; rintro e w8 ⟨rfl, h⟩; have HF8 := Aside0.mk h; clear h) | ((with_reducible refine gate_dst (N := 95) rfl ?_); refine load30 rfl (.tmp 8) rfl nb rfl HFI1.out.len8 HFI1.out.okN HF8.out.now ?_) | ((with_reducible refine gate_dst (N := 96) rfl ?_); refine lit30 rfl (.tmp 95) rfl S1.now HFI1.out.len8 HFI1.out.okN rfl ?_) | ((with_reducible refine gate_dst (N := 97) rfl ?_); refine app30 (w0 := W) (B := W.heap.size) (ok := fun k => k ≠ s ∧ k ≠ ob ∧ k ≠ lb ∧ k ≠ nb) rfl (.tmp 94) (.tmp 96) rfl u9 S1.was S1.now rfl rfl HFI1.out.len8 HFI1.out.okN HF8.out.was (fun k hk => by have := HF8.out.lts; omega) HF8.out.bel HF8.out.bel.size (by have := HFI1.out.wlen; have := HS1.out.2; omega) ?_; intro v9 w9 g7 g8 g9; have HF9 := Aside0.mk (FW.commit_ HF8.out g9 g8 g7); clear g7 g8 g9))
            go_roundw
            case rel => exact ⟨k + 1, by omega, by go_num, commitS S1, m + S1.opn.length, by have := HS1.out.1; show m + S1.opn.length + 0 ≤ k + 1; omega, by show (S1.all ++ [S1.opn]).length ≤ k + 1; have := HS1.out.2; simp; omega, ⟨fun _ => rfl⟩, ⟨fi_commit HFI1.out⟩, HF9⟩
            case measure => simp [intOf]; omega
          · have hd2 : ((k : Int) == (l.length : Int) - 1) = false := by simp; omega
            go_wp2_with fail
            go_roundw
            case rel => exact ⟨k + 1, by omega, by go_num, S1, m, by have := HS1.out.1; omega, by have := HS1.out.2; omega, ⟨fun h => by omega⟩, HFI1, HF7⟩
            case measure => simp [intOf]; omega
    · obtain rfl : k = l.length := by omega
      have hd : decide ((l.length : Int) < l.length) = false := by simp
      have hop := HOP.out rfl
      obtain ⟨Aw, cw, hvw, hcw, hcC⟩ := Kd.R_reads HFW.out.was
      subst hvw
      have hwl := HFI.out.wlen
      obtain ⟨q, hq⟩ : ∃ q, q = S.was.length := ⟨_, rfl⟩
      rw [← hq] at HFW hwl hcw hcC ⊢
      obtain ⟨bn, hbn⟩ : ∃ bn : Nat, b0 % 8 = bn := ⟨(b0 % 8).toNat, by omega⟩
      have hb8 : bn < 8 := by omega
      obtain ⟨nn, hnn⟩ : ∃ nn : Nat, a0 % (q : Int) = nn := ⟨(a0 % q).toNat, by have := Int.emod_nonneg a0 (show (q : Int) ≠ 0 by omega); omega⟩
      have hnq : nn < q := by have := Int.emod_lt_of_pos a0 (show (0 : Int) < q by omega); omega
      have hqp : 0 < q := by omega
      have hql : q ≤ 1000 := by omega
      have hsl : S.all.length ≤ 1000 := by omega
      obtain ⟨o, ok, hR⟩ := ref_is S.all 0 bn nn
      have R1 := Aside0.mk hR
      have HSM := Aside0.mk (fi_read HFI.out hop bn hb8 nn (by omega) hR)
      have HGO := Aside0.mk (ref_good hR (fun x hx o ho => (HFI.out.okA x hx o ho).1))
      have HWL := Aside0.mk hwl
      obtain ⟨ad, hAw, hcW⟩ : ∃ ad, Aw = some ad ∧ ∀ j u, (oldC (og (wa S.was nn) bn))[j]? = some u → wr.cell? (ad.add (nn * 272 + bn * 34 + j)) = some u := by
        obtain ⟨ad, c, e, _, hK, hc⟩ := Kd.C_get hcC ([] : List Old) (nn : Int) (by omega) (by omega)
        rw [Int.toNat_natCast] at hK hc
        obtain ⟨h8, hok, rfl⟩ := kN_open (w := wr) hK
        refine ⟨ad, e, fun j u hu => ?_⟩
        have hj : j < 34 := by
          have := (List.getElem?_eq_some_iff.1 hu).1
          unfold wa at this
          rwa [oldC_len _ (hok _ (og_mem _ _ (by show bn < (S.was.getD (nn : Nat) []).length; omega))).2] at this
        have h1 := flat_at _ hok bn (by omega) j hj
        have h2 := hc (bn * 34 + j) u (by rw [h1]; exact hu)
        rw [kN_sz] at h2
        rwa [Nat.add_assoc]
      subst hAw
      have hwo : okO (og (wa S.was nn) bn) := by
        have h1 : wa S.was nn ∈ S.was := by unfold wa; rw [List.getD_eq_getElem?_getD, List.getElem?_eq_getElem (by omega)]; exact List.getElem_mem _
        exact HFI.out.okW _ h1 _ (og_mem _ _ (by rw [HFI.out.was8 _ h1]; exact hb8))
      have HWO := Aside0.mk hwo
      have HCW := Aside0.mk hcW
      have hno := HFI.out.okN _ (og_mem S.now bn (by rw [HFI.out.len8]; exact hb8))
      have HNO := Aside0.mk hno
      have HNC := Aside0.mk (HFW.out.cells HFI.out.len8 HFI.out.okN hb8)
      have hlt16 := HFW.out.lts
      clear hR hop hwl hcC hcW hwo hno hq
      go_upto_region 25 with (first | (go_at_call 15; refine (readDoc _ s ob lb m _ HFW.out.doc bn nn (wf_i64 (by omega)) (wf_i64 (by omega)) (by show S.all.length ≤ 100000; omega) R1.out).mono ?_; rintro e w2 ⟨rfl, hdo, hB⟩; have HB2 := Aside0.mk hB; clear hB) | ((with_reducible refine gate_dst (N := 16) rfl ?_); refine alloc29 rfl rfl ?_; intro w3' x16 h6 h7 h8; have H7 := Aside0.mk h7; have HB3 := Aside0.mk (step_bel HB2.out (grown_fresh h8)); have h66 := Nat.le_trans HB2.out.size h6; clear h7 h8) | (refine store29 rfl rfl (.tmp 16) (.tmp 111) rfl x16 rfl o hdo rfl (M := old0) rfl H7.out ?_; intro w4' h9 h10 h11; have H9 := Aside0.mk h9; have HB4 := Aside0.mk (below_grown HB3.out h66 HB3.out.size h10); clear h9 h10 h11))
      obtain ⟨t0, ht0⟩ : ∃ t, t = if ok then o else og S.now bn := ⟨_, rfl⟩
      rw [← ht0] at HSM
      have HT0 := Aside0.mk ht0
      clear ht0
      cases ok with
      | true =>
        go_upto_region 27 with (fail)
        have HX := H9
        have HB5 := HB4
        have HTT := Aside0.mk (show t0 = o by rw [HT0.out]; rfl)
        rw [← HTT.out] at HX
        have HTO := Aside0.mk (show okO t0 by rw [HTT.out]; exact ⟨HGO.out, hdo⟩)
        go_upto_region 28 with (first | ((with_reducible refine gate_dst (N := 123) rfl ?_); refine load29 rfl (.tmp 122) rfl ((ad.add (nn * 272)).add (bn * 34)) rfl (og (wa S.was nn) bn) HWO.out.2 (by intro j u hu; have h := bel_cell HB5.out (HCW.out j u hu); rw [Addr.add_add, Addr.add_add, ← Nat.add_assoc]; exact h) ?_) | ((with_reducible refine gate_dst (N := 18) rfl ?_); refine alloc29 rfl rfl ?_; intro w6' x18 h6 h7 h8; have H7' := Aside0.mk h7; have HB6 := Aside0.mk (step_bel HB5.out (grown_fresh h8)); have h67 := Nat.le_trans HB5.out.size h6; have HX6 := Aside0.mk (Blk.grown HX.out h8 (by simp)); have hxx := Blk.lt HX.out; clear h7 h8) | (refine store29 rfl rfl (.tmp 18) (.tmp 123) rfl x18 rfl (og (wa S.was nn) bn) HWO.out.2 rfl (M := old0) rfl H7'.out ?_; intro w7' h9 h10 h11; have HY := Aside0.mk h9; have HB7 := Aside0.mk (below_grown HB6.out h67 HB6.out.size h10); have HX7 := Aside0.mk (Blk.grown HX6.out h10 (by simp; omega)); clear h9 h10 h11))
        have HF7 := Aside0.mk (HFW.out.below HB7.out)
        have f1 := Blk.cell HX7.out (i := 1) (v := .bool t0.has) rfl
        have f2 := Blk.cell HY.out (i := 1) (v := .bool t0.has) (by rw [HSM.out.1]; rfl)
        have HD1 := Aside0.mk (data_cells HX7.out)
        have HD2 := Aside0.mk (show _ from (by have := data_cells HY.out; rw [← HSM.out.2] at this; exact this : ∀ j u, (encs (Value.int .u8) t0.data)[j]? = some u → w7'.cell? ((⟨x18, 2, none⟩ : Addr).add j) = some u))
        have hl32 : (encs (Value.int .u8) t0.data).length = 32 := by simp [encs, HTO.out.2]
        have HNW := Aside0.mk (show (S.all.length : Int) = (q : Int) - 1 by have := HWL.out; omega)
        have hbe : (t0.has == t0.has) = true := by simp
        go_wp2_with (first | ((with_reducible refine gate_dst (N := 131) rfl ?_); refine load27g (by rfl) (.tmp 130) rfl ⟨x16, 2, none⟩ rfl t0.data HTO.out.2 HD1.out ?_) | ((with_reducible refine gate_dst (N := 133) rfl ?_); refine load27g (by rfl) (.tmp 132) rfl ⟨x18, 2, none⟩ rfl t0.data HTO.out.2 HD2.out ?_) | ((with_reducible refine gate_dst (N := 134) rfl ?_); refine eql27g (by rfl) (.tmp 131) (.tmp 133) rfl t0.data HTO.out.2 HTO.out.1.2.2 rfl rfl ?_) | (go_at_call 16; refine (nowDoc _ s ob lb m _ HF7.out.doc).mono ?_; rintro e w8 ⟨rfl, hw⟩; subst hw))
        go_ret
        exact ⟨by rw [HNW.out]; simp, HF7.out.bel⟩
      | false =>
        go_upto_region 27 with (first | ((with_reducible refine gate_dst (N := 117) rfl ?_); refine load29 rfl (.tmp 116) rfl ⟨nb, bn * 34, none⟩ rfl (og S.now bn) HNO.out.2 (fun j u hu => bel_cell HB4.out (HNC.out j u hu)) ?_) | (refine store29 rfl rfl (.tmp 16) (.tmp 117) rfl x16 rfl (og S.now bn) HNO.out.2 rfl (M := o) hdo H9.out ?_; intro w5' h9 h10 h11; have HX := Aside0.mk h9; have HB5 := Aside0.mk (below_grown HB4.out h66 HB4.out.size h10); clear h9 h10 h11))
        have HTT := Aside0.mk (show t0 = og S.now bn by rw [HT0.out]; rfl)
        rw [← HTT.out] at HX
        have HTO := Aside0.mk (show okO t0 by rw [HTT.out]; exact HNO.out)
        go_upto_region 28 with (first | ((with_reducible refine gate_dst (N := 123) rfl ?_); refine load29 rfl (.tmp 122) rfl ((ad.add (nn * 272)).add (bn * 34)) rfl (og (wa S.was nn) bn) HWO.out.2 (by intro j u hu; have h := bel_cell HB5.out (HCW.out j u hu); rw [Addr.add_add, Addr.add_add, ← Nat.add_assoc]; exact h) ?_) | ((with_reducible refine gate_dst (N := 18) rfl ?_); refine alloc29 rfl rfl ?_; intro w6' x18 h6 h7 h8; have H7' := Aside0.mk h7; have HB6 := Aside0.mk (step_bel HB5.out (grown_fresh h8)); have h67 := Nat.le_trans HB5.out.size h6; have HX6 := Aside0.mk (Blk.grown HX.out h8 (by simp)); have hxx := Blk.lt HX.out; clear h7 h8) | (refine store29 rfl rfl (.tmp 18) (.tmp 123) rfl x18 rfl (og (wa S.was nn) bn) HWO.out.2 rfl (M := old0) rfl H7'.out ?_; intro w7' h9 h10 h11; have HY := Aside0.mk h9; have HB7 := Aside0.mk (below_grown HB6.out h67 HB6.out.size h10); have HX7 := Aside0.mk (Blk.grown HX6.out h10 (by simp; omega)); clear h9 h10 h11))
        have HF7 := Aside0.mk (HFW.out.below HB7.out)
        have f1 := Blk.cell HX7.out (i := 1) (v := .bool t0.has) rfl
        have f2 := Blk.cell HY.out (i := 1) (v := .bool t0.has) (by rw [HSM.out.1]; rfl)
        have HD1 := Aside0.mk (data_cells HX7.out)
        have HD2 := Aside0.mk (show _ from (by have := data_cells HY.out; rw [← HSM.out.2] at this; exact this : ∀ j u, (encs (Value.int .u8) t0.data)[j]? = some u → w7'.cell? ((⟨x18, 2, none⟩ : Addr).add j) = some u))
        have hl32 : (encs (Value.int .u8) t0.data).length = 32 := by simp [encs, HTO.out.2]
        have HNW := Aside0.mk (show (S.all.length : Int) = (q : Int) - 1 by have := HWL.out; omega)
        have hbe : (t0.has == t0.has) = true := by simp
        go_wp2_with (first | ((with_reducible refine gate_dst (N := 131) rfl ?_); refine load27g (by rfl) (.tmp 130) rfl ⟨x16, 2, none⟩ rfl t0.data HTO.out.2 HD1.out ?_) | ((with_reducible refine gate_dst (N := 133) rfl ?_); refine load27g (by rfl) (.tmp 132) rfl ⟨x18, 2, none⟩ rfl t0.data HTO.out.2 HD2.out ?_) | ((with_reducible refine gate_dst (N := 134) rfl ?_); refine eql27g (by rfl) (.tmp 131) (.tmp 133) rfl t0.data HTO.out.2 HTO.out.1.2.2 rfl rfl ?_) | (go_at_call 16; refine (nowDoc _ s ob lb m _ HF7.out.doc).mono ?_; rintro e w8 ⟨rfl, hw⟩; subst hw))
        go_ret
        exact ⟨by rw [HNW.out]; simp, HF7.out.bel⟩
end Go.Proofs.Ytipbgldfomejpaa.Snap

