/- Layer 25: walks of the document Line, Print, Lines, Few. -/
import Derived.Test.YtagpldkgkchfcaaDoorTxtG
namespace Go.Proofs.YtagpldkgkchfcaaDoor.Txt
section
set_option linter.unusedSimpArgs false
set_option linter.unusedVariables false
open Go.RowKit Go.Proofs.YtagpldkgkchfcaaDoorW.PrintWords Go.Proofs.YtagpldkgkchfcaaDoorW.PrintLast Go.Proofs.YtagpldkgkchfcaaDoorW.PrintMore Arr PTextPrints

theorem step_op_at (x : Step) (v : Value) {i : Nat} {u : Value} (h : (opC x.op)[i]? = some u) : (stepC x v)[i]? = some u := by
  unfold stepC
  rw [List.getElem?_append_left (List.getElem?_eq_some_iff.1 h).1]
  exact h
theorem step_data {w : World} {g : Nat} {f : Step} {v : Value} (h : Blk w g 41 (stepC f v)) (j : Nat) (u : Value) (hu : (encs (Value.int .u8) f.op.data)[j]? = some u) : w.cell? ((⟨g, 3, none⟩ : Addr).add j) = some u := by
  rw [addr_at]
  refine h.cell (step_op_at f v ?_)
  have hj := (List.getElem?_eq_some_iff.1 hu).1
  unfold opC
  rw [List.getElem?_append_right (by simp), List.getElem?_append_left (by simp; omega)]
  simpa using hu
theorem run_loadC {o : Oper} {a : Act} (T : TypeId) (p : Operand) (ho : o.op = .load T p) (ad : Addr) (hp : a.eval p = .pointer (some ad)) (ds : List Value) {d : TypeDesc} (hu : Tryd.prog.underlying T = some d) (hd : (match d with | .struct _ | .array _ _ => true | _ => false) = true)
    (hi : (Tryd.prog.info? T).map (·.size) = some ds.length) {W : World} (hc : ∀ j v, ds[j]? = some v → W.cell? (ad.add j) = some v) : (execOp a.eval o).run Tryd.prog W = .ok (.value (.agg ds.toArray)) W := by
  obtain ⟨i, hii, his⟩ := Option.map_eq_some_iff.1 hi
  have hl := run_loadCells_list (P := Tryd.prog) W ad ds hc
  have hagg : (isAgg T).run Tryd.prog W = .ok true W := by
    unfold isAgg
    rw [Sem.run_bind, run_underlying hu W]
    cases d <;> simp_all
  simp [execOp, ho, hp, Instr.loadAt, Instr.sureAddr, loadVar, Sem.run_bind, hagg, sizeOf, typeInfo, hii, his, hl]
theorem run_opB {o : Oper} {a : Act} (p : Operand) (ho : o.op = .load 35 p) (g : Nat) (hp : a.eval p = .pointer (some ⟨g, 0, none⟩)) (f : Op) (hl : f.data.length = 32) {W : World} (hb : Blk W g 35 (opC f)) : (execOp a.eval o).run Tryd.prog W = .ok (.value (.agg (opC f).toArray)) W :=
  run_loadC 35 p ho ⟨g, 0, none⟩ hp (opC f) Tryd.underlying35 rfl (by rw [opC_len f hl]; exact size35) (fun j u hu => by
    rw [addr_at, Nat.zero_add]
    exact hb.cell hu)
theorem run_opS {o : Oper} {a : Act} (p : Operand) (ho : o.op = .load 35 p) (g : Nat) (hp : a.eval p = .pointer (some ⟨g, 0, none⟩)) (f : Step) (v : Value) (hl : f.op.data.length = 32) {W : World} (hb : Blk W g 41 (stepC f v)) : (execOp a.eval o).run Tryd.prog W = .ok (.value (.agg (opC f.op).toArray)) W :=
  run_loadC 35 p ho ⟨g, 0, none⟩ hp (opC f.op) Tryd.underlying35 rfl (by rw [opC_len f.op hl]; exact size35) (fun j u hu => by
    rw [addr_at, Nat.zero_add]
    exact hb.cell (step_op_at f v hu))
theorem run_eql35 {o : Oper} {a : Act} (x y : Operand) (ho : o.op = .binOp .eql 35 x y 35) (p q : Op) (hx : a.eval x = .agg (opC p).toArray) (hy : a.eval y = .agg (opC q).toArray) (hp : GoodOp p) (hq : GoodOp q) (b : Bool) (hb : decide (p = q) = b) {W : World} : (execOp a.eval o).run Tryd.prog W = .ok (.value (.bool b)) W := by
  have hE : ∀ w, (Op.equal 35 (.agg (opC p).toArray) (.agg (opC q).toArray)).run Tryd.prog w = .ok b w := fun w => by rw [← hb]; exact eq35 hp hq w
  simp [execOp, ho, hx, hy, Sem.run_bind, run_eqGuard eqg35 rfl, binOp, hE]
def NameOk (r : Bs × Bs) : Prop := r.1.length ≤ 10 ∧ r.2.length ≤ 3 ∧ ∀ c ∈ r.2, c = 105 ∨ c = 98 ∨ c = 112 ∨ c = 100
theorem name_tells (k : Int) (s : Bool) : NameOk (nameOf k s) := by
  cases s
  · by_cases h1 : k = 1
    · subst h1; unfold NameOk; decide
    by_cases h2 : k = 2
    · subst h2; unfold NameOk; decide
    by_cases h3 : k = 3
    · subst h3; unfold NameOk; decide
    by_cases h4 : k = 4
    · subst h4; unfold NameOk; decide
    by_cases h5 : k = 5
    · subst h5; unfold NameOk; decide
    by_cases h6 : k = 6
    · subst h6; unfold NameOk; decide
    by_cases h7 : k = 7
    · subst h7; unfold NameOk; decide
    by_cases h8 : k = 8
    · subst h8; unfold NameOk; decide
    by_cases h9 : k = 9
    · subst h9; unfold NameOk; decide
    by_cases h10 : k = 10
    · subst h10; unfold NameOk; decide
    by_cases h11 : k = 11
    · subst h11; unfold NameOk; decide
    by_cases h12 : k = 12
    · subst h12; unfold NameOk; decide
    unfold nameOf
    simp only [Bool.false_eq_true, if_false, if_neg h1, if_neg h2, if_neg h3, if_neg h4, if_neg h5, if_neg h6, if_neg h7, if_neg h8, if_neg h9, if_neg h10, if_neg h11, if_neg h12]
    unfold NameOk; decide
  · by_cases h7 : k = 7
    · subst h7; unfold NameOk; decide
    · unfold nameOf
      simp only [if_true, if_neg h7]
      unfold NameOk; decide
theorem refTells_step (x : Op) {ts : Bs} {m : Nat} (h : m < ts.length) (s : Bs) (o : Op) : refTells x (ts.drop m) s o = match refTell x (ts.getD m 0) s o with
    | none => none
    | some (s', o') => refTells x (ts.drop (m + 1)) s' o' := by
  rw [List.drop_eq_getElem_cons h, List.getD_eq_getElem?_getD, List.getElem?_eq_getElem h]
  rfl
theorem keeps4 {w w6 w7 : World} {og zg g : Nat} {c1 c2 c3 c4 : List Value} (h : Keeps w [(og, 35, c1), (zg, 35, c2), (g, 41, c3)] w6) (hg : w6.grownBy w7 (some og)) (hB : w.heap.size ≤ og) (hn : og ≠ zg ∧ og ≠ g) (hb : Blk w7 og 35 c4) : Keeps w [(og, 35, c4), (zg, 35, c2), (g, 41, c3)] w7 :=
  h.put hg hB (by intro b hb; simp only [List.mem_cons, List.not_mem_nil, or_false] at hb; rcases hb with rfl | rfl; exact hn.1.symm; exact hn.2.symm) hb
set_option maxRecDepth 10000 in
set_option maxHeartbeats 800000 in
theorem rline_o1 (w : World) (x : Step) (hG : Good x) (A : Option Addr) (c : Nat) (hC : (Kd.int .i64).C w A x.keep.length x.keep) (hc : x.keep.length ≤ c) (hl : x.keep.length ≤ 1000000) (hcr : x.crash = false) (h0 : x.soft = 0) (h1 : x.tear = 0) (h2 : x.keep.length = 0) (h3 : x.arm = 0) (h4 : (nameOf x.op.kind x.op.sync).1 = []) : Calls Tryd.prog 16 #[.agg (stepC x (.slice A x.keep.length c)).toArray] w (RLineEnd w x) := by
  have HK := Aside0.mk (Keeps.refl w)
  have HG := Aside0.mk hG
  have HC := Aside0.mk hC
  have HL := Aside0.mk hG.len
  have e0p : x.soft = 0 := h0
  have e1p : x.tear = 0 := h1
  have e2p : (x.keep.length : Int) = 0 := by omega
  have e0 : (x.soft == 0) = true := by rw [beq_iff_eq]; exact h0
  have e1 : (x.tear == 0) = true := by rw [beq_iff_eq]; exact h1
  have e2 : ((x.keep.length : Int) == 0) = true := by rw [beq_iff_eq]; omega
  have e3 : (x.arm == 0) = true := by rw [beq_iff_eq]; exact h3
  have e3p : x.arm = 0 := h3
  have C0 := Aside0.mk (step_op_at x (.slice A x.keep.length c) (i := 0) (u := .int .i64 x.op.kind) rfl)
  have C1 := Aside0.mk (step_op_at x (.slice A x.keep.length c) (i := 1) (u := .int .i64 x.op.id) rfl)
  have C2 := Aside0.mk (step_op_at x (.slice A x.keep.length c) (i := 2) (u := .int .i64 x.op.blk) rfl)
  have C35 := Aside0.mk (step_op_at x (.slice A x.keep.length c) (op_sync x.op hG.len))
  have C36 := Aside0.mk (step_op_at x (.slice A x.keep.length c) (op_policy x.op hG.len))
  obtain ⟨nm, hnm⟩ : ∃ nm, nm = (nameOf x.op.kind x.op.sync).1 := ⟨_, rfl⟩
  obtain ⟨ts, hts⟩ : ∃ ts, ts = (nameOf x.op.kind x.op.sync).2 := ⟨_, rfl⟩
  have HTL := Aside0.mk (show _ ∧ _ ∧ _ from name_tells x.op.kind x.op.sync)
  have HNM := Aside0.mk (name_calls x.op.kind x.op.sync)
  rw [← hnm, ← hts] at HTL HNM
  obtain ⟨N, hN⟩ : ∃ N, N = str nm := ⟨_, rfl⟩
  rw [← hN] at HNM
  have HF := Aside0.mk (rl_name hcr h3 h4)
  rw [← hnm] at h4
  have hq : (N.toList == []) = true := by rw [Lib.toList_data, hN, str_data, h4]; rfl
  clear hG hC h0 h1 h2 h3 h4 hnm hts hN
  go_enter Tryd.func16, Tryd.ntmps16
  go_wp2_with (first | ((with_reducible refine gate_dst (N := 1) rfl ?_); refine box41 rfl (.tmp 0) rfl x _ rfl ?_; intro w1 g h1 h2 h3; have HK1 := Aside0.mk (HK.out.new h3 h2); have HGG := Aside0.mk h1; clear h1 h2 h3) | ((with_reducible refine gate_dst (N := 12) rfl ?_); refine build35z rfl rfl ?_) | ((with_reducible refine gate_dst (N := 4) rfl ?_); refine alloc35 rfl rfl ?_; intro w2 zg h1 h2 h3; have HK2 := Aside0.mk (HK1.out.new h3 h2); have HZG := Aside0.mk (show w.heap.size ≤ zg from Nat.le_trans HK1.out.size h1); have HZN := Aside0.mk (show g ≠ zg by have a1 := HK1.out.head.lt; have a2 := h1; omega); clear h1 h2 h3) | (refine store35 rfl rfl (.tmp 4) (.tmp 12) rfl zg rfl op0 rfl rfl (m := op0) rfl HK2.out.head ?_; intro w3 h21 h22 h23; have HK3 := Aside0.mk (HK2.out.put h22 HZG.out (by simpa using HZN.out) h21); have q7 := (step_at x (.slice A x.keep.length c) HL.out); have a1 := HK3.out.tail.head.cell q7.1; have a2 := HK3.out.tail.head.cell q7.2.1; have a3 := HK3.out.tail.head.cell q7.2.2.1; have a4 := HK3.out.tail.head.cell q7.2.2.2.1; have a5 := HK3.out.tail.head.cell q7.2.2.2.2; rw [hcr] at a2; have c0 := HK3.out.tail.head.cell C0.out; have c35 := HK3.out.tail.head.cell C35.out; clear h21 h22 h23 q7) | (go_at_call 23; refine (HNM.out _).mono ?_; rintro e w4 ⟨rfl, hbb⟩; have HK4 := Aside0.mk (HK3.out.step hbb); have c0' := HK4.out.tail.head.cell C0.out; have c35' := HK4.out.tail.head.cell C35.out; clear hbb) | ((with_reducible refine gate_dst (N := 124) rfl ?_); refine build35 rfl (.tmp 120) (.tmp 123) rfl x.op.kind x.op.sync rfl rfl ?_) | ((with_reducible refine gate_dst (N := 9) rfl ?_); refine alloc35 rfl rfl ?_; intro w5 og h1 h2 h3; have HK5 := Aside0.mk (HK4.out.new h3 h2); have HOG := Aside0.mk (show w.heap.size ≤ og from Nat.le_trans HK4.out.size h1); have HON := Aside0.mk (show og ≠ zg ∧ og ≠ g by have a1 := HK4.out.head.lt; have a2 := HK4.out.tail.head.lt; have a3 := h1; omega); clear h1 h2 h3) | (refine store35 rfl rfl (.tmp 9) (.tmp 124) rfl og rfl (opKS x.op.kind x.op.sync) rfl rfl (m := op0) rfl HK5.out.head ?_; intro w6 h21 h22 h23; have HK6 := Aside0.mk (HK5.out.put h22 HOG.out (by intro b hb; simp only [List.mem_cons, List.not_mem_nil, or_false] at hb; rcases hb with rfl | rfl; exact HON.out.1.symm; exact HON.out.2.symm) h21); clear h21 h22 h23))
  go_ret2
  unfold RLineEnd
  rw [HF.out]
  exact ⟨_, rfl, (fun s' h => by cases h), HK6.out.below⟩
end
section
set_option linter.unusedSimpArgs false
set_option linter.unusedVariables false
open Go.RowKit Go.Proofs.YtagpldkgkchfcaaDoorW.PrintWords Go.Proofs.YtagpldkgkchfcaaDoorW.PrintLast Go.Proofs.YtagpldkgkchfcaaDoorW.PrintMore Arr PTextPrints

set_option maxRecDepth 10000 in
set_option maxHeartbeats 2000000 in
theorem rline_o2 (w : World) (x : Step) (hG : Good x) (A : Option Addr) (c : Nat) (hC : (Kd.int .i64).C w A x.keep.length x.keep) (hc : x.keep.length ≤ c) (hl : x.keep.length ≤ 1000000) (hcr : x.crash = false) (h0 : x.soft = 0) (h1 : x.tear = 0) (h2 : x.keep.length = 0) (h3 : x.arm = 0) (h4 : (nameOf x.op.kind x.op.sync).1 ≠ []) : Calls Tryd.prog 16 #[.agg (stepC x (.slice A x.keep.length c)).toArray] w (RLineEnd w x) := by
  have HK := Aside0.mk (Keeps.refl w)
  have HG := Aside0.mk hG
  have HC := Aside0.mk hC
  have HL := Aside0.mk hG.len
  have e0p : x.soft = 0 := h0
  have e1p : x.tear = 0 := h1
  have e2p : (x.keep.length : Int) = 0 := by omega
  have e0 : (x.soft == 0) = true := by rw [beq_iff_eq]; exact h0
  have e1 : (x.tear == 0) = true := by rw [beq_iff_eq]; exact h1
  have e2 : ((x.keep.length : Int) == 0) = true := by rw [beq_iff_eq]; omega
  have e3 : (x.arm == 0) = true := by rw [beq_iff_eq]; exact h3
  have e3p : x.arm = 0 := h3
  have C0 := Aside0.mk (step_op_at x (.slice A x.keep.length c) (i := 0) (u := .int .i64 x.op.kind) rfl)
  have C1 := Aside0.mk (step_op_at x (.slice A x.keep.length c) (i := 1) (u := .int .i64 x.op.id) rfl)
  have C2 := Aside0.mk (step_op_at x (.slice A x.keep.length c) (i := 2) (u := .int .i64 x.op.blk) rfl)
  have C35 := Aside0.mk (step_op_at x (.slice A x.keep.length c) (op_sync x.op hG.len))
  have C36 := Aside0.mk (step_op_at x (.slice A x.keep.length c) (op_policy x.op hG.len))
  obtain ⟨nm, hnm⟩ : ∃ nm, nm = (nameOf x.op.kind x.op.sync).1 := ⟨_, rfl⟩
  obtain ⟨ts, hts⟩ : ∃ ts, ts = (nameOf x.op.kind x.op.sync).2 := ⟨_, rfl⟩
  have HTL := Aside0.mk (show _ ∧ _ ∧ _ from name_tells x.op.kind x.op.sync)
  have HNM := Aside0.mk (name_calls x.op.kind x.op.sync)
  rw [← hnm, ← hts] at HTL HNM
  obtain ⟨N, hN⟩ : ∃ N, N = str nm := ⟨_, rfl⟩
  rw [← hN] at HNM
  have HF := Aside0.mk (rl_op hcr h0 h1 h2 h3 h4)
  rw [← hnm, ← hts] at HF
  rw [← hnm] at h4
  have hq : (N.toList == []) = false := by rw [Lib.toList_data, hN, str_data, beq_eq_false_iff_ne]; exact h4
  have HN := Aside0.mk hN
  obtain ⟨T, hT⟩ : ∃ T, T = str ts := ⟨_, rfl⟩
  rw [← hT] at HNM
  have HTs := Aside0.mk (show T.size = ts.length by rw [hT, Lib.size_eq, str_data])
  have hT4 : T.size ≤ 3 := by have := HTL.out.2.1; have := HTs.out; omega
  have HT := Aside0.mk hT
  have HOX := Aside0.mk (show Op.policy x.op = x.op.policy from rfl)
  clear hG hC h0 h1 h2 h3 h4 hnm hts hN hT
  go_enter Tryd.func16, Tryd.ntmps16
  go_wp2_with (first | ((with_reducible refine gate_dst (N := 1) rfl ?_); refine box41 rfl (.tmp 0) rfl x _ rfl ?_; intro w1 g h1 h2 h3; have HK1 := Aside0.mk (HK.out.new h3 h2); have HGG := Aside0.mk h1; clear h1 h2 h3) | ((with_reducible refine gate_dst (N := 12) rfl ?_); refine build35z rfl rfl ?_) | ((with_reducible refine gate_dst (N := 4) rfl ?_); refine alloc35 rfl rfl ?_; intro w2 zg h1 h2 h3; have HK2 := Aside0.mk (HK1.out.new h3 h2); have HZG := Aside0.mk (show w.heap.size ≤ zg from Nat.le_trans HK1.out.size h1); have HZN := Aside0.mk (show g ≠ zg by have a1 := HK1.out.head.lt; have a2 := h1; omega); clear h1 h2 h3) | (refine store35 rfl rfl (.tmp 4) (.tmp 12) rfl zg rfl op0 rfl rfl (m := op0) rfl HK2.out.head ?_; intro w3 h21 h22 h23; have HK3 := Aside0.mk (HK2.out.put h22 HZG.out (by simpa using HZN.out) h21); have q7 := (step_at x (.slice A x.keep.length c) HL.out); have a1 := HK3.out.tail.head.cell q7.1; have a2 := HK3.out.tail.head.cell q7.2.1; have a3 := HK3.out.tail.head.cell q7.2.2.1; have a4 := HK3.out.tail.head.cell q7.2.2.2.1; have a5 := HK3.out.tail.head.cell q7.2.2.2.2; rw [hcr] at a2; have c0 := HK3.out.tail.head.cell C0.out; have c35 := HK3.out.tail.head.cell C35.out; clear h21 h22 h23 q7) | (go_at_call 23; refine (HNM.out _).mono ?_; rintro e w4 ⟨rfl, hbb⟩; have HK4 := Aside0.mk (HK3.out.step hbb); have c0' := HK4.out.tail.head.cell C0.out; have c35' := HK4.out.tail.head.cell C35.out; clear hbb) | ((with_reducible refine gate_dst (N := 124) rfl ?_); refine build35 rfl (.tmp 120) (.tmp 123) rfl x.op.kind x.op.sync rfl rfl ?_) | ((with_reducible refine gate_dst (N := 9) rfl ?_); refine alloc35 rfl rfl ?_; intro w5 og h1 h2 h3; have HK5 := Aside0.mk (HK4.out.new h3 h2); have HOG := Aside0.mk (show w.heap.size ≤ og from Nat.le_trans HK4.out.size h1); have HON := Aside0.mk (show og ≠ zg ∧ og ≠ g by have a1 := HK4.out.head.lt; have a2 := HK4.out.tail.head.lt; have a3 := h1; omega); clear h1 h2 h3) | (refine store35 rfl rfl (.tmp 9) (.tmp 124) rfl og rfl (opKS x.op.kind x.op.sync) rfl rfl (m := op0) rfl HK5.out.head ?_; intro w6 h21 h22 h23; have HK6 := Aside0.mk (HK5.out.put h22 HOG.out (by intro b hb; simp only [List.mem_cons, List.not_mem_nil, or_false] at hb; rcases hb with rfl | rfl; exact HON.out.1.symm; exact HON.out.2.symm) h21); clear h21 h22 h23))
  have HGK0 := Aside0.mk (show GoodOp (opKS x.op.kind x.op.sync) from ⟨rfl, goodop0.byte, goodop0.id, goodop0.blk, goodop0.policy, HG.out.op.kind⟩)
  have HNL := Aside0.mk (show nm.length ≤ 300 by have := HTL.out.1; omega)
  go_loopw [7, 10, 11] (fun v i _ wr => ∃ (m : Nat) (s : Bs) (om : Op), m ≤ T.size ∧ i = .int .i64 m ∧ v = .string (str s) ∧ Aside0 (GoodOp om) ∧ Aside0 (refTells x.op ts nm (opKS x.op.kind x.op.sync) = refTells x.op (ts.drop m) s om) ∧ Aside0 (s.length ≤ 300 + 70 * m) ∧ Aside0 (Keeps w [(og, 35, opC om), (zg, 35, opC op0), (g, 41, stepC x (.slice A x.keep.length c))] wr)) (fun _ i _ _ => T.size - (intOf i).toNat)
  case atStart => exact ⟨0, nm, _, by omega, rfl, by rw [HN.out], HGK0, ⟨rfl⟩, HNL, HK6⟩
  case round =>
    obtain ⟨m, s, om, hm, rfl, rfl, HOM, HS, HSL, HB⟩ := hrel
    rename World => wr
    have hss : (str s).size ≤ 100000 := by rw [Lib.size_eq, str_data]; have := HSL.out; omega
    by_cases hlt : m < T.size
    · have hml : m < ts.length := by rw [← HTs.out]; exact hlt
      obtain ⟨c0, hc0⟩ : ∃ c0, c0 = ts.getD m 0 := ⟨_, rfl⟩
      have hcm : c0 ∈ ts := by rw [hc0, List.getD_eq_getElem?_getD, List.getElem?_eq_getElem hml]; exact List.getElem_mem _
      have hsk : ∀ h : m < T.size, T[m]'h = c0 := fun h => by
        have e : T = str ts := HT.out
        subst e
        rw [hc0, List.getD_eq_getElem?_getD, List.getElem?_eq_getElem hml]; rfl
      have hcc := HTL.out.2.2 c0 hcm
      have HST := Aside0.mk (show refTells x.op ts nm (opKS x.op.kind x.op.sync) = match refTell x.op c0 s om with
        | none => none
        | some (s', o') => refTells x.op (ts.drop (m + 1)) s' o' by rw [HS.out, refTells_step x.op hml, hc0]; try (cases refTell x.op (ts.getD m 0) s om <;> rfl))
      clear hc0 hcm hml
      rcases hcc with rfl | rfl | rfl | rfl
      · have HSS := Aside0.mk (show refTell x.op 105 s om = if fits x.op.id then some (s ++ 32 :: dec x.op.id.toNat, { om with id := x.op.id }) else none from rfl)
        have HGK := Aside0.mk (show GoodOp { om with id := x.op.id } from ⟨HOM.out.len, HOM.out.byte, HG.out.op.id, HOM.out.blk, HOM.out.policy, HOM.out.kind⟩)
        have y1 := HB.out.tail.tail.head.cell C1.out
        have z1 := HB.out.head.cell (i := 1) (v := .int .i64 om.id) (rfl)
        have z1f := HB.out.head.frozen 1
        have HKB := Aside0.mk (keeps4 HB.out (grown_set wr og 1 (.int .i64 x.op.id)) HOG.out HON.out (by have := HB.out.head.set 1 (.int .i64 x.op.id); rwa [set_id] at this))
        by_cases hf : fits x.op.id = true
        · obtain ⟨y0, y2⟩ := (fits_iff _).1 hf
          have HFT := Aside0.mk hf
          obtain ⟨n, hn⟩ : ∃ n : Nat, n = x.op.id.toNat := ⟨_, rfl⟩
          have hyw : IntKind.u64.wrap x.op.id = (n : Int) := by rw [IntWalk.u64_in _ (by omega)]; omega
          have HST2 := Aside0.mk (show refTells x.op ts nm (opKS x.op.kind x.op.sync) = refTells x.op (ts.drop (m + 1)) (s ++ 32 :: dec n) { om with id := x.op.id } by rw [HST.out, HSS.out, if_pos hf, ← hn])
          have HSP := Aside0.mk (spell_calls n (by omega))
          have hyz : (str (dec n)).size ≤ 64 := by rw [Lib.size_eq, str_data]; exact dec_len n (by omega)
          have HL2 := Aside0.mk (show (s ++ 32 :: dec n).length ≤ 300 + 70 * (m + 1) by have := HSL.out; have := dec_len n (by omega); simp; omega)
          obtain ⟨D, hD⟩ : ∃ D, D = str (dec n) := ⟨_, rfl⟩
          obtain ⟨S, hS⟩ : ∃ S, S = str s := ⟨_, rfl⟩
          rw [← hD] at HSP hyz
          rw [← hS] at hss ⊢
          have HCAT := Aside0.mk (show (S ++ ⟨#[32]⟩ ++ D : ByteArray) = str (s ++ 32 :: dec n) by rw [hS, hD, str_cat])
          clear hD hf hS hn
          go_wp2_with (first | (go_at_call 21; refine (fits_calls x.op.id _).mono ?_; rintro e w7 ⟨rfl, hbb⟩; rw [HFT.out]; have HB7 := Aside0.mk (HKB.out.step hbb); clear hbb) | (go_at_call 22; (try rw [hyw]); refine (HSP.out _).mono ?_; rintro e w8 ⟨rfl, hbb⟩; have HB8 := Aside0.mk (HB7.out.step hbb); clear hbb))
          go_roundw
          case rel => exact ⟨m + 1, _, _, by omega, by go_num, by rw [HCAT.out], HGK, HST2, HL2, HB8⟩
          case measure => simp [intOf]; omega
        · have hf2 : fits x.op.id = false := by simpa using hf
          have HFF := Aside0.mk (show refLine x = none by rw [HF.out]; show (match refTells x.op ts nm (opKS x.op.kind x.op.sync) with | none => none | some (s, o) => if o = x.op then some (s ++ [10]) else none) = none; rw [HST.out, HSS.out, if_neg hf])
          have HFT := Aside0.mk hf2
          clear hf hf2
          go_wp2_with (first | (go_at_call 21; refine (fits_calls x.op.id _).mono ?_; rintro e w7 ⟨rfl, hbb⟩; rw [HFT.out]; have HB7 := Aside0.mk (HKB.out.step hbb); clear hbb))
          go_ret2
          unfold RLineEnd
          rw [HFF.out]
          exact ⟨_, rfl, (fun s' h => by cases h), HB7.out.below⟩
      · have HSS := Aside0.mk (show refTell x.op 98 s om = if fits x.op.blk then some (s ++ 32 :: dec x.op.blk.toNat, { om with blk := x.op.blk }) else none from rfl)
        have HGK := Aside0.mk (show GoodOp { om with blk := x.op.blk } from ⟨HOM.out.len, HOM.out.byte, HOM.out.id, HG.out.op.blk, HOM.out.policy, HOM.out.kind⟩)
        have y1 := HB.out.tail.tail.head.cell C2.out
        have z1 := HB.out.head.cell (i := 2) (v := .int .i64 om.blk) (rfl)
        have z1f := HB.out.head.frozen 2
        have HKB := Aside0.mk (keeps4 HB.out (grown_set wr og 2 (.int .i64 x.op.blk)) HOG.out HON.out (by have := HB.out.head.set 2 (.int .i64 x.op.blk); rwa [set_blk] at this))
        by_cases hf : fits x.op.blk = true
        · obtain ⟨y0, y2⟩ := (fits_iff _).1 hf
          have HFT := Aside0.mk hf
          obtain ⟨n, hn⟩ : ∃ n : Nat, n = x.op.blk.toNat := ⟨_, rfl⟩
          have hyw : IntKind.u64.wrap x.op.blk = (n : Int) := by rw [IntWalk.u64_in _ (by omega)]; omega
          have HST2 := Aside0.mk (show refTells x.op ts nm (opKS x.op.kind x.op.sync) = refTells x.op (ts.drop (m + 1)) (s ++ 32 :: dec n) { om with blk := x.op.blk } by rw [HST.out, HSS.out, if_pos hf, ← hn])
          have HSP := Aside0.mk (spell_calls n (by omega))
          have hyz : (str (dec n)).size ≤ 64 := by rw [Lib.size_eq, str_data]; exact dec_len n (by omega)
          have HL2 := Aside0.mk (show (s ++ 32 :: dec n).length ≤ 300 + 70 * (m + 1) by have := HSL.out; have := dec_len n (by omega); simp; omega)
          obtain ⟨D, hD⟩ : ∃ D, D = str (dec n) := ⟨_, rfl⟩
          obtain ⟨S, hS⟩ : ∃ S, S = str s := ⟨_, rfl⟩
          rw [← hD] at HSP hyz
          rw [← hS] at hss ⊢
          have HCAT := Aside0.mk (show (S ++ ⟨#[32]⟩ ++ D : ByteArray) = str (s ++ 32 :: dec n) by rw [hS, hD, str_cat])
          clear hD hf hS hn
          go_wp2_with (first | (go_at_call 21; refine (fits_calls x.op.blk _).mono ?_; rintro e w7 ⟨rfl, hbb⟩; rw [HFT.out]; have HB7 := Aside0.mk (HKB.out.step hbb); clear hbb) | (go_at_call 22; (try rw [hyw]); refine (HSP.out _).mono ?_; rintro e w8 ⟨rfl, hbb⟩; have HB8 := Aside0.mk (HB7.out.step hbb); clear hbb))
          go_roundw
          case rel => exact ⟨m + 1, _, _, by omega, by go_num, by rw [HCAT.out], HGK, HST2, HL2, HB8⟩
          case measure => simp [intOf]; omega
        · have hf2 : fits x.op.blk = false := by simpa using hf
          have HFF := Aside0.mk (show refLine x = none by rw [HF.out]; show (match refTells x.op ts nm (opKS x.op.kind x.op.sync) with | none => none | some (s, o) => if o = x.op then some (s ++ [10]) else none) = none; rw [HST.out, HSS.out, if_neg hf])
          have HFT := Aside0.mk hf2
          clear hf hf2
          go_wp2_with (first | (go_at_call 21; refine (fits_calls x.op.blk _).mono ?_; rintro e w7 ⟨rfl, hbb⟩; rw [HFT.out]; have HB7 := Aside0.mk (HKB.out.step hbb); clear hbb))
          go_ret2
          unfold RLineEnd
          rw [HFF.out]
          exact ⟨_, rfl, (fun s' h => by cases h), HB7.out.below⟩
      · have HSS := Aside0.mk (show refTell x.op 112 s om = if fits x.op.policy then some (s ++ 32 :: dec x.op.policy.toNat, { om with policy := x.op.policy }) else none from rfl)
        have HGK := Aside0.mk (show GoodOp { om with policy := x.op.policy } from ⟨HOM.out.len, HOM.out.byte, HOM.out.id, HOM.out.blk, HG.out.op.policy, HOM.out.kind⟩)
        have y1 := HB.out.tail.tail.head.cell C36.out
        have z1 := HB.out.head.cell (i := 36) (v := .int .i64 om.policy) (op_policy om HOM.out.len)
        have z1f := HB.out.head.frozen 36
        have HKB := Aside0.mk (keeps4 HB.out (grown_set wr og 36 (.int .i64 x.op.policy)) HOG.out HON.out (by have := HB.out.head.set 36 (.int .i64 x.op.policy); rwa [set_policy om _ HOM.out.len] at this))
        by_cases hf : fits x.op.policy = true
        · obtain ⟨y0, y2⟩ := (fits_iff _).1 hf
          have HFT := Aside0.mk hf
          obtain ⟨n, hn⟩ : ∃ n : Nat, n = x.op.policy.toNat := ⟨_, rfl⟩
          have hyw : IntKind.u64.wrap x.op.policy = (n : Int) := by rw [IntWalk.u64_in _ (by omega)]; omega
          have HST2 := Aside0.mk (show refTells x.op ts nm (opKS x.op.kind x.op.sync) = refTells x.op (ts.drop (m + 1)) (s ++ 32 :: dec n) { om with policy := x.op.policy } by rw [HST.out, HSS.out, if_pos hf, ← hn])
          have HSP := Aside0.mk (spell_calls n (by omega))
          have hyz : (str (dec n)).size ≤ 64 := by rw [Lib.size_eq, str_data]; exact dec_len n (by omega)
          have HL2 := Aside0.mk (show (s ++ 32 :: dec n).length ≤ 300 + 70 * (m + 1) by have := HSL.out; have := dec_len n (by omega); simp; omega)
          obtain ⟨D, hD⟩ : ∃ D, D = str (dec n) := ⟨_, rfl⟩
          obtain ⟨S, hS⟩ : ∃ S, S = str s := ⟨_, rfl⟩
          rw [← hD] at HSP hyz
          rw [← hS] at hss ⊢
          have HCAT := Aside0.mk (show (S ++ ⟨#[32]⟩ ++ D : ByteArray) = str (s ++ 32 :: dec n) by rw [hS, hD, str_cat])
          clear hD hf hS hn
          go_wp2_with (first | (go_at_call 21; refine (fits_calls x.op.policy _).mono ?_; rintro e w7 ⟨rfl, hbb⟩; rw [HFT.out]; have HB7 := Aside0.mk (HKB.out.step hbb); clear hbb) | (go_at_call 22; (try rw [hyw]); refine (HSP.out _).mono ?_; rintro e w8 ⟨rfl, hbb⟩; have HB8 := Aside0.mk (HB7.out.step hbb); clear hbb))
          go_roundw
          case rel => exact ⟨m + 1, _, _, by omega, by go_num, by rw [HCAT.out], HGK, HST2, HL2, HB8⟩
          case measure => simp [intOf]; omega
        · have hf2 : fits x.op.policy = false := by simpa using hf
          have HFF := Aside0.mk (show refLine x = none by rw [HF.out]; show (match refTells x.op ts nm (opKS x.op.kind x.op.sync) with | none => none | some (s, o) => if o = x.op then some (s ++ [10]) else none) = none; rw [HST.out, HSS.out, if_neg hf])
          have HFT := Aside0.mk hf2
          clear hf hf2
          go_wp2_with (first | (go_at_call 21; refine (fits_calls x.op.policy _).mono ?_; rintro e w7 ⟨rfl, hbb⟩; rw [HFT.out]; have HB7 := Aside0.mk (HKB.out.step hbb); clear hbb))
          go_ret2
          unfold RLineEnd
          rw [HFF.out]
          exact ⟨_, rfl, (fun s' h => by cases h), HB7.out.below⟩
      · have HSS := Aside0.mk (show refTell x.op 100 s om = some (s ++ 32 :: hexD x.op.data, { om with data := x.op.data }) from rfl)
        have HST2 := Aside0.mk (show refTells x.op ts nm (opKS x.op.kind x.op.sync) = refTells x.op (ts.drop (m + 1)) (s ++ 32 :: hexD x.op.data) { om with data := x.op.data } by rw [HST.out, HSS.out])
        have HGK := Aside0.mk (show GoodOp { om with data := x.op.data } from ⟨HL.out, HG.out.op.byte, HOM.out.id, HOM.out.blk, HOM.out.policy, HOM.out.kind⟩)
        have HRX := Aside0.mk (fun W => rhex_calls W x.op.data HL.out HG.out.op.byte)
        have hyz : (str (hexD x.op.data)).size ≤ 64 := by rw [Lib.size_eq, str_data, hexD_length, HL.out]; omega
        have HL2 := Aside0.mk (show (s ++ 32 :: hexD x.op.data).length ≤ 300 + 70 * (m + 1) by have := HSL.out; have := hexD_length x.op.data; have := HL.out; simp; omega)
        obtain ⟨D, hD⟩ : ∃ D, D = str (hexD x.op.data) := ⟨_, rfl⟩
        obtain ⟨S, hS⟩ : ∃ S, S = str s := ⟨_, rfl⟩
        rw [show (⟨(hexD x.op.data).toArray⟩ : ByteArray) = D by rw [hD]; rfl] at HRX
        rw [← hD] at hyz
        rw [← hS] at hss ⊢
        have HCAT := Aside0.mk (show (S ++ ⟨#[32]⟩ ++ D : ByteArray) = str (s ++ 32 :: hexD x.op.data) by rw [hS, hD, str_cat])
        clear hD hS
        go_wp2_with (first | ((with_reducible refine gate_dst (N := 139) rfl ?_); refine wpl_load rfl 33 (.tmp 138) rfl ⟨g, 3, none⟩ rfl (encs (Value.int .u8) x.op.data) Tryd.underlying33 rfl (size33 _ HL.out) (fun j u hu => step_data HB.out.tail.tail.head j u hu) ?_) | (refine storeData rfl rfl (.tmp 140) (.tmp 139) rfl og rfl x.op.data HL.out rfl (m := om) HOM.out.len HB.out.head ?_; intro w8 h31 h32 h33; have HK8 := Aside0.mk (keeps4 HB.out h32 HOG.out HON.out h31); clear h31 h32 h33) | ((with_reducible refine gate_dst (N := 145) rfl ?_); refine wpl_load rfl 33 (.tmp 144) rfl ⟨g, 3, none⟩ rfl (encs (Value.int .u8) x.op.data) Tryd.underlying33 rfl (size33 _ HL.out) (fun j u hu => step_data HK8.out.tail.tail.head j u hu) ?_) | (go_at_call 24; refine (HRX.out _).mono ?_; rintro e w9 ⟨rfl, hbb⟩; have HB9 := Aside0.mk (HK8.out.step hbb); clear hbb))
        go_roundw
        case rel => exact ⟨m + 1, _, _, by omega, by go_num, by rw [HCAT.out], HGK, HST2, HL2, HB9⟩
        case measure => simp [intOf]; omega
    · obtain rfl : m = T.size := by omega
      have HFF := Aside0.mk (show refLine x = if om = x.op then some (s ++ [10]) else none by
        rw [HF.out]
        show (match refTells x.op ts nm (opKS x.op.kind x.op.sync) with | none => none | some (s, o) => if o = x.op then some (s ++ [10]) else none) = _
        rw [HS.out, HTs.out, List.drop_length]; rfl)
      obtain ⟨S, hS⟩ : ∃ S, S = str s := ⟨_, rfl⟩
      rw [← hS] at hss ⊢
      have HSE := Aside0.mk hS
      clear hS
      obtain ⟨b, hb⟩ : ∃ b, b = decide (om = x.op) := ⟨_, rfl⟩
      have HBB := Aside0.mk hb
      clear hb
      go_upto_region 42 with fail
      refine wp_region_held_drew (S := (fun w' => Blk w' og 35 (opC om) ∧ Blk w' g 41 (stepC x (.slice A x.keep.length c)))) (by kernel_rfl) (by exact ⟨HB.out.head.drew, HB.out.tail.tail.head.drew⟩) (fun hHeld => ?_)
      refine wpAnyH_tk (i := 0) (v := ?vz1) 184 rfl rfl (by kernel_rfl) (by kernel_rfl) (by kernel_rfl) (fun _ _ _ h => h) (Or.inl ⟨by rfl, ?yz1⟩) hHeld ?rz1
      case yz1 => (intro w hSw; go_simp; try (first | with_reducible rfl | (rw [if_neg (by omega)]; try with_reducible rfl)))
      (try simp only [Act.put, List.setIfInBounds_toArray, List.set_cons_zero, List.set_cons_succ])
      refine wpAnyH_tk (i := 1) (v := ?vz2) 185 rfl rfl (by kernel_rfl) (by kernel_rfl) (by kernel_rfl) (fun _ _ _ h => h) (Or.inl ⟨by rfl, ?yz2⟩) hHeld ?rz2
      case yz2 => (intro w hSw; go_simp; try (first | with_reducible rfl | (rw [if_neg (by omega)]; try with_reducible rfl)))
      (try simp only [Act.put, List.setIfInBounds_toArray, List.set_cons_zero, List.set_cons_succ])
      refine wpAnyH_tk (i := 2) (v := _) 186 rfl rfl (by kernel_rfl) (by kernel_rfl) (by kernel_rfl) (fun _ _ _ h => h) (show YieldsIf Tryd.prog _ _ _ (.agg (opC om).toArray) _ from Or.inl ⟨(by rfl), fun w h => run_opB (.tmp 9) rfl og rfl om HOM.out.len h.1⟩) hHeld ?_
      (try simp only [Act.put, List.setIfInBounds_toArray, List.set_cons_zero, List.set_cons_succ])
      refine wpAnyH_tk (i := 3) (v := ?vz3) 187 rfl rfl (by kernel_rfl) (by kernel_rfl) (by kernel_rfl) (fun _ _ _ h => h) (Or.inl ⟨by rfl, ?yz3⟩) hHeld ?rz3
      case yz3 => (intro w hSw; go_simp; try (first | with_reducible rfl | (rw [if_neg (by omega)]; try with_reducible rfl)))
      (try simp only [Act.put, List.setIfInBounds_toArray, List.set_cons_zero, List.set_cons_succ])
      refine wpAnyH_tk (i := 4) (v := _) 188 rfl rfl (by kernel_rfl) (by kernel_rfl) (by kernel_rfl) (fun _ _ _ h => h) (show YieldsIf Tryd.prog _ _ _ (.agg (opC x.op).toArray) _ from Or.inl ⟨(by rfl), fun w h => run_opS (.tmp 187) rfl g rfl x _ HL.out h.2⟩) hHeld ?_
      (try simp only [Act.put, List.setIfInBounds_toArray, List.set_cons_zero, List.set_cons_succ])
      refine wpAnyH_tk (i := 5) (v := _) 189 rfl rfl (by kernel_rfl) (by kernel_rfl) (by kernel_rfl) (fun _ _ _ h => h) (show YieldsIf Tryd.prog _ _ _ (.bool b) _ from Or.inl ⟨(by rfl), fun w h => run_eql35 (.tmp 186) (.tmp 188) rfl om x.op rfl rfl HOM.out HG.out.op b HBB.out.symm⟩) hHeld ?_
      (try simp only [Act.put, List.setIfInBounds_toArray, List.set_cons_zero, List.set_cons_succ])
      refine wpAnyH_tk (i := 6) (v := ?vz4) 2 rfl rfl (by kernel_rfl) (by kernel_rfl) (by kernel_rfl) (fun _ _ _ h => h) (Or.inl ⟨by rfl, ?yz4⟩) hHeld ?rz4
      case yz4 => (intro w hSw; go_simp; try (first | with_reducible rfl | (rw [if_neg (by omega)]; try with_reducible rfl)))
      (try simp only [Act.put, List.setIfInBounds_toArray, List.set_cons_zero, List.set_cons_succ])
      refine wpAnyH_tk (i := 7) (v := ?vz5) 3 rfl rfl (by kernel_rfl) (by kernel_rfl) (by kernel_rfl) (fun _ _ _ h => h) (Or.inl ⟨by rfl, ?yz5⟩) hHeld ?rz5
      case yz5 => (intro w hSw; go_simp; try (first | with_reducible rfl | (rw [if_neg (by omega)]; try with_reducible rfl)))
      (try simp only [Act.put, List.setIfInBounds_toArray, List.set_cons_zero, List.set_cons_succ])
      refine wpAnyH_done (by kernel_rfl) ?_ _
      skip
      have HBD := Aside0.mk HB.out.drew
      clear hHeld
      go_wp2_with fail
      go_ret2
      unfold RLineEnd
      rw [HFF.out, HSE.out]
      by_cases he : om = x.op
      · have hb : b = true := by rw [HBB.out]; exact decide_eq_true he
        rw [if_pos he, hb]
        exact ⟨_, rfl, (fun s' h => by
          obtain rfl := Option.some.inj h
          exact str_snoc10 s), HBD.out.below⟩
      · have hb : b = false := by rw [HBB.out]; exact decide_eq_false he
        rw [if_neg he, hb]
        exact ⟨_, rfl, (fun s' h => by cases h), HBD.out.below⟩
end
section
set_option linter.unusedSimpArgs false
set_option linter.unusedVariables false
open Go.RowKit Go.Proofs.YtagpldkgkchfcaaDoorW.PrintWords Go.Proofs.YtagpldkgkchfcaaDoorW.PrintLast Go.Proofs.YtagpldkgkchfcaaDoorW.PrintMore Arr PTextPrints

theorem rline_calls (w : World) (x : Step) (hG : Good x) (A : Option Addr) (c : Nat) (hC : (Kd.int .i64).C w A x.keep.length x.keep) (hc : x.keep.length ≤ c) (hl : x.keep.length ≤ 1000000) : Calls Tryd.prog 16 #[.agg (stepC x (.slice A x.keep.length c)).toArray] w (RLineEnd w x) := by
  by_cases hcr : x.crash = true
  · by_cases h0 : x.op = op0
    · by_cases h1 : x.arm = 0
      · by_cases h2 : fits x.tear = true
        · exact rline_c4 w x hG A c hC hc hl hcr h0 h1 h2
        · exact rline_c3 w x hG A c hC hc hl hcr h0 h1 (by simpa using h2)
      · exact rline_c2 w x hG A c hC hc hl hcr h0 h1
    · exact rline_c1 w x hG A c hC hc hl hcr h0
  · have hcr : x.crash = false := by simpa using hcr
    by_cases h0 : x.soft = 0
    · by_cases h1 : x.tear = 0
      · by_cases h2 : x.keep.length = 0
        · by_cases h3 : x.arm = 0
          · by_cases h4 : (nameOf x.op.kind x.op.sync).1 = []
            · exact rline_o1 w x hG A c hC hc hl hcr h0 h1 h2 h3 h4
            · exact rline_o2 w x hG A c hC hc hl hcr h0 h1 h2 h3 h4
          · by_cases h4 : x.op = op0
            · by_cases h5 : fits x.arm = true
              · exact rline_a3 w x hG A c hC hc hl hcr h0 h1 h2 h3 h4 h5
              · exact rline_a2 w x hG A c hC hc hl hcr h0 h1 h2 h3 h4 (by simpa using h5)
            · exact rline_a1 w x hG A c hC hc hl hcr h0 h1 h2 h3 h4
        · exact rline_w3 w x hG A c hC hc hl hcr h0 h1 h2
      · exact rline_w2 w x hG A c hC hc hl hcr h0 h1
    · exact rline_w1 w x hG A c hC hc hl hcr h0
/-- Steps in memory. -/
structure RSteps (w : World) (A : Option Addr) (l : List Step) : Prop where
  cells : k41.C w A l.length l
  good : ∀ x ∈ l, Good x
  few : l.length ≤ 1000000
  keep : ∀ x ∈ l, x.keep.length ≤ 1000000
theorem RSteps.below {w w1 : World} {A : Option Addr} {l : List Step} (h : RSteps w A l) (hb : Below w.heap.size w w1) : RSteps w1 A l := ⟨Kd.C_below h.cells hb, h.good, h.few, h.keep⟩
theorem Steps.rsteps {w : World} {A : Option Addr} {l : List Step} (h : Steps w A l) : RSteps w A l := ⟨h.cells, h.good, by have := h.few; omega, fun x hx => by have := h.keep x hx; omega⟩
theorem refLine_len {x : Step} (h : Good x) {s : Bs} (hs : refLine x = some s) : s.length ≤ 300 + 65 * x.keep.length := by
  obtain ⟨rfl, _, _⟩ := back x h.good.1 h.good.2 hs
  exact line_len h
theorem refPrint_step {l : List Step} {k : Nat} (hk : k < l.length) : refPrint (l.drop k) = match refLine (sg l k), refPrint (l.drop (k + 1)) with
    | some s, some r => some (s ++ r)
    | _, _ => none := by
  rw [List.drop_eq_getElem_cons hk]
  have : sg l k = l[k] := by unfold sg; rw [List.getD_eq_getElem?_getD, List.getElem?_eq_getElem hk]; rfl
  rw [this]
  rfl
def RPrintEnd (w : World) (l : List Step) (e : Ending) (w' : World) : Prop := ∃ s, e = .returned (.tuple #[.string s, .bool (refPrint l).isSome]) ∧ (∀ s', refPrint l = some s' → s = str s') ∧ Below w.heap.size w w'
set_option maxRecDepth 10000 in
set_option maxHeartbeats 1000000 in
theorem rprint_calls (w : World) (A : Option Addr) (c : Nat) (l : List Step) (hS : RSteps w A l) : Calls Tryd.prog 12 #[.slice A l.length c] w (RPrintEnd w l) := by
  have HS := Aside0.mk hS
  have hfew := hS.few
  have HK := Aside0.mk (Keeps.refl w)
  clear hS
  go_enter Tryd.func12, Tryd.ntmps12
  go_wp2_with fail
  go_loopw [4, 5, 6, 7] (fun v i _ _ wr => ∃ (k : Nat) (a : Bs), k ≤ l.length ∧ i = .int .i64 k ∧ v = .string (str a) ∧ Aside0 (refPrint l = (refPrint (l.drop k)).map fun r => a ++ r) ∧ Aside0 (a.length ≤ 65000300 * k) ∧ Aside0 (Keeps w [] wr)) (fun _ i _ _ _ => l.length - (intOf i).toNat)
  case atStart => exact ⟨0, [], by omega, rfl, rfl, ⟨by simp⟩, ⟨by simp⟩, HK⟩
  case round =>
    obtain ⟨k, a, hk, rfl, rfl, HP, HAL, HB⟩ := hrel
    rename World => wr
    have hss : (str a).size ≤ 65000300 * 1000000 := by rw [Lib.size_eq, str_data]; have := HAL.out; omega
    by_cases hlt : k < l.length
    · have hd : decide ((k : Int) < l.length) = true := by simp; omega
      obtain ⟨ad, Ak, ck, hA, hcx, hxl, hkc, hkC⟩ := at41 HS.out.cells k hlt
      subst hA
      have hG := HS.out.good _ (sg_mem l k hlt)
      have hK := HS.out.keep _ (sg_mem l k hlt)
      have HRS := Aside0.mk (refPrint_step hlt)
      obtain ⟨x, hx⟩ : ∃ x, x = sg l k := ⟨_, rfl⟩
      rw [← hx] at hcx hxl hkc hkC hG hK HRS
      have HCX := Aside0.mk (fun j' u (hu : (stepC x (.slice Ak x.keep.length ck))[j']? = some u) => pw_cell_below HB.out.below (hcx j' u hu))
      have HKC := Aside0.mk hkC
      have HG := Aside0.mk hG
      have HXL := Aside0.mk hxl
      clear hcx hkC hG hx hxl
      obtain ⟨S, hS⟩ : ∃ S, S = str a := ⟨_, rfl⟩
      rw [← hS] at hss ⊢
      have HSE := Aside0.mk hS
      clear hS
      rcases hrl : refLine x with _ | t
      · have HF := Aside0.mk (show refPrint l = none by rw [HP.out, HRS.out, hrl]; rfl)
        have HRL := Aside0.mk hrl
        clear hrl
        go_wp2_with (first | ((with_reducible refine gate_dst (N := 18) rfl ?_); refine load41 rfl (.tmp 17) rfl (ad.add (k * 42)) rfl x _ HXL.out HCX.out ?_) | (go_at_call 16; refine (rline_calls _ x HG.out Ak ck (Kd.C_below HKC.out HB.out.below) hkc hK).mono ?_; unfold RLineEnd; rw [HRL.out]; rintro e w6 ⟨s6, rfl, _, hb⟩; have HB6 := Aside0.mk (HB.out.step hb); clear hb))
        go_ret2
        unfold RPrintEnd
        rw [HF.out]
        exact ⟨_, rfl, (fun s' h => by cases h), HB6.out.below⟩
      · have HF := Aside0.mk (show refPrint l = (refPrint (l.drop (k + 1))).map fun r => (a ++ t) ++ r by
          rw [HP.out, HRS.out, hrl]
          cases refPrint (l.drop (k + 1)) <;> simp)
        have HRL := Aside0.mk hrl
        have htl := refLine_len HG.out hrl
        have HAL2 := Aside0.mk (show (a ++ t).length ≤ 65000300 * (k + 1) by rw [List.length_append]; have := HAL.out; omega)
        have hts : (str t).size ≤ 65000300 := by rw [Lib.size_eq, str_data]; omega
        obtain ⟨T, hT⟩ : ∃ T, T = str t := ⟨_, rfl⟩
        rw [← hT] at hts
        have HCAT := Aside0.mk (show (S ++ T : ByteArray) = str (a ++ t) by rw [HSE.out, hT, str_append])
        have HT := Aside0.mk hT
        clear hrl htl hT
        go_wp2_with (first | ((with_reducible refine gate_dst (N := 18) rfl ?_); refine load41 rfl (.tmp 17) rfl (ad.add (k * 42)) rfl x _ HXL.out HCX.out ?_) | (go_at_call 16; refine (rline_calls _ x HG.out Ak ck (Kd.C_below HKC.out HB.out.below) hkc hK).mono ?_; unfold RLineEnd; rw [HRL.out]; rintro e w6 ⟨s6, rfl, hs6, hb⟩; obtain rfl : s6 = T := (by rw [HT.out]; exact hs6 t rfl); have HB6 := Aside0.mk (HB.out.step hb); clear hb hs6))
        go_roundw
        case rel => exact ⟨k + 1, a ++ t, by omega, by go_num, by rw [HCAT.out], HF, HAL2, HB6⟩
        case measure => simp [intOf]; omega
    · obtain rfl : k = l.length := by omega
      have hd : decide ((l.length : Int) < l.length) = false := by simp
      have HF := Aside0.mk (show refPrint l = some a by rw [HP.out, List.drop_length]; simp [refPrint])
      go_wp2_with fail
      go_ret2
      unfold RPrintEnd
      rw [HF.out]
      exact ⟨_, rfl, (fun s' h => by injection h with h; rw [h]), HB.out.below⟩
end
section
set_option linter.unusedSimpArgs false
set_option linter.unusedVariables false
open Go.RowKit Go.Proofs.YtagpldkgkchfcaaDoorW.PrintWords Go.Proofs.YtagpldkgkchfcaaDoorW.PrintLast Go.Proofs.YtagpldkgkchfcaaDoorW.PrintMore Arr PTextPrints

theorem take_count (s : Bs) (k : Nat) (h : k < s.length) : (s.take (k + 1)).count 10 = (s.take k).count 10 + if s.getD k 0 = 10 then 1 else 0 := by
  rw [List.take_add_one, List.getElem?_eq_getElem h, List.getD_eq_getElem?_getD, List.getElem?_eq_getElem h, List.count_append]
  simp only [Option.toList_some, Option.getD_some]
  by_cases e : s[k] = 10
  · rw [if_pos e, e]; rfl
  · rw [if_neg e, List.count_cons_of_ne (by first | exact e | exact fun h => e h.symm)]; rfl
set_option maxRecDepth 10000 in
set_option maxHeartbeats 1000000 in
theorem lines_calls (w : World) (s : ByteArray) (hs : s.size ≤ 2147483648) : Calls Tryd.prog 13 #[.string s] w fun e w' => e = .returned (.int .i64 (s.data.toList.count 10 : Nat)) ∧ Below w.heap.size w w' := by
  have HK := Aside0.mk (Keeps.refl w)
  go_enter Tryd.func13, Tryd.ntmps13
  go_wp2_with fail
  go_loopw [3, 4] (fun v i wr => ∃ (k n : Nat), k ≤ s.size ∧ n ≤ k ∧ i = .int .i64 k ∧ v = .int .i64 n ∧ Aside0 ((s.data.toList.take k).count 10 = n) ∧ Aside0 (Keeps w [] wr)) (fun _ i _ => s.size - (intOf i).toNat)
  case atStart => exact ⟨0, 0, by omega, by omega, rfl, rfl, ⟨rfl⟩, HK⟩
  case round =>
    obtain ⟨k, n, hk, hn, rfl, rfl, HN, HB⟩ := hrel
    rename World => wr
    by_cases hlt : k < s.size
    · have hd : decide ((k : Int) < s.size) = true := by simp; omega
      obtain ⟨c, hc⟩ : ∃ c : UInt8, c = s.data.toList.getD k 0 := ⟨_, rfl⟩
      have hsk : ∀ h : k < s.size, s[k]'h = c := fun h => by
        rw [hc, List.getD_eq_getElem?_getD, List.getElem?_eq_getElem (by rw [← Lib.size_eq]; exact h)]; rfl
      have HT := Aside0.mk (take_count s.data.toList k (by rw [← Lib.size_eq]; exact hlt))
      rw [← hc, HN.out] at HT
      clear hc
      by_cases e : c = 10
      · have HT2 := Aside0.mk (show (s.data.toList.take (k + 1)).count 10 = n + 1 by rw [HT.out, if_pos e])
        subst e
        go_wp2_with fail
        go_roundw
        case rel => exact ⟨k + 1, n + 1, by omega, by omega, by go_num, by go_num, HT2, HB⟩
        case measure => simp [intOf]; omega
      · have HT2 := Aside0.mk (show (s.data.toList.take (k + 1)).count 10 = n by rw [HT.out, if_neg e]; rfl)
        have e1 : ((c.toNat : Int) == 10) = false := by
          rw [beq_eq_false_iff_ne]
          intro h
          exact e (UInt8.toNat_inj.1 (by show c.toNat = 10; omega))
        have e2 : ¬ (c.toNat : Int) = 10 := by simpa using e1
        clear e
        go_wp2_with fail
        go_roundw
        case rel => exact ⟨k + 1, n, by omega, by omega, by go_num, rfl, HT2, HB⟩
        case measure => simp [intOf]; omega
    · obtain rfl : k = s.size := by omega
      have hd : decide ((s.size : Int) < s.size) = false := by simp
      have HT2 := Aside0.mk (show s.data.toList.count 10 = n by rw [← HN.out, Lib.size_eq, List.take_length])
      go_wp2_with fail
      go_ret
      rw [HT2.out]
      exact ⟨rfl, HB.out.below⟩
/-! ### few -/
def keeps (l : List Step) : Nat := (l.map (·.keep.length)).sum
def fewB (l : List Step) : Bool := decide (l.length + keeps l ≤ 400)
theorem keeps_take (l : List Step) (k : Nat) (h : k < l.length) : keeps (l.take (k + 1)) = keeps (l.take k) + (sg l k).keep.length := by
  rw [take_sg l k h]; unfold keeps; simp
theorem keeps_take_le (l : List Step) (k : Nat) : keeps (l.take k) ≤ keeps l := by
  unfold keeps
  conv => rhs; rw [← List.take_append_drop k l, List.map_append, List.sum_append]
  omega
theorem keeps_mem : ∀ (l : List Step), ∀ x ∈ l, x.keep.length ≤ keeps l
  | [], x, h => by cases h
  | y :: l, x, h => by
    show _ ≤ (y.keep.length :: l.map (·.keep.length)).sum
    rw [List.sum_cons]
    rcases List.mem_cons.1 h with rfl | h
    · omega
    · have := keeps_mem l x h
      unfold keeps at this
      omega
theorem add_j (ad : Addr) (m j : Nat) (hj : 0 < j) : (ad.add m).add j = ⟨(ad.add m).block, (ad.add m).off + j, none⟩ := by
  generalize ad.add m = b
  unfold Addr.add
  rw [if_neg (by omega)]
theorem step_at39 {w : World} {ad : Addr} {x : Step} {v : Value} (hl : x.op.data.length = 32) (h : ∀ j u, (stepC x v)[j]? = some u → w.cell? (ad.add j) = some u) : w.cell? (ad.add 39) = some v := h 39 v (step_at x v hl).2.2.1
set_option maxRecDepth 10000 in
set_option maxHeartbeats 1000000 in
theorem few_calls (w : World) (A : Option Addr) (c : Nat) (l : List Step) (hC : k41.C w A l.length l) (hfw : l.length ≤ 281474976710656) (hkw : ∀ x ∈ l, x.keep.length ≤ 281474976710656) : Calls Tryd.prog 15 #[.slice A l.length c] w fun e w' => e = .returned (.bool (fewB l)) ∧ Below w.heap.size w w' := by
  have HK := Aside0.mk (Keeps.refl w)
  have HC := Aside0.mk hC
  have HKW := Aside0.mk hkw
  clear hC hkw
  go_enter Tryd.func15, Tryd.ntmps15
  go_wp2_with fail
  go_loopw [3, 4] (fun v i wr => ∃ (k n : Nat), k ≤ l.length ∧ n ≤ 9000000000000000000 ∧ i = .int .i64 k ∧ v = .int .i64 n ∧ Aside0 (l.length + keeps (l.take k) = n) ∧ Aside0 (Keeps w [] wr)) (fun _ i _ => l.length - (intOf i).toNat)
  case atStart => exact ⟨0, l.length, by omega, by omega, rfl, rfl, ⟨rfl⟩, HK⟩
  case round =>
    obtain ⟨k, n, hk, hn, rfl, rfl, HN, HB⟩ := hrel
    rename World => wr
    have HLE := Aside0.mk (keeps_take_le l k)
    by_cases hn4 : n ≤ 400
    · by_cases hlt : k < l.length
      · have hd : decide ((k : Int) < l.length) = true := by simp; omega
        have hd2 : decide ((n : Int) ≤ 400) = true := by simp; omega
        obtain ⟨ad, Ak, ck, hA, hcx, hxl, hkc, hkC⟩ := at41 HC.out k hlt
        subst hA
        have HKT := Aside0.mk (keeps_take l k hlt)
        obtain ⟨x, hx⟩ : ∃ x, x = sg l k := ⟨_, rfl⟩
        rw [← hx] at hcx hxl hkc hkC HKT
        have hq := pw_cell_below HB.out.below (step_at39 hxl hcx)
        rw [add_j _ _ _ (by decide)] at hq
        have hkm := HKW.out _ (sg_mem l k hlt)
        rw [← hx] at hkm
        have HNN := Aside0.mk (show l.length + keeps (l.take (k + 1)) = n + x.keep.length by rw [HKT.out, ← HN.out]; omega)
        clear hcx hkC hx hxl
        go_wp2_with fail
        go_roundw
        case rel => exact ⟨k + 1, n + x.keep.length, by omega, by omega, by go_num, by go_num, HNN, HB⟩
        case measure => simp [intOf]; omega
      · obtain rfl : k = l.length := by omega
        have hd : decide ((l.length : Int) < l.length) = false := by simp
        have hd2 : decide ((n : Int) ≤ 400) = true := by simp; omega
        have HF := Aside0.mk (show fewB l = true by unfold fewB; rw [decide_eq_true_eq]; have := HN.out; rw [List.take_length] at this; omega)
        go_wp2_with fail
        go_ret
        rw [HF.out]
        exact ⟨rfl, HB.out.below⟩
    · have hd2 : decide ((n : Int) ≤ 400) = false := by simp; omega
      have HF := Aside0.mk (show fewB l = false by unfold fewB; rw [decide_eq_false_iff_not]; have := HN.out; have := HLE.out; omega)
      by_cases hlt : k < l.length
      · have hd : decide ((k : Int) < l.length) = true := by simp; omega
        go_wp2_with fail
        go_ret
        rw [HF.out]
        exact ⟨rfl, HB.out.below⟩
      · have hd : decide ((k : Int) < l.length) = false := by simp; omega
        go_wp2_with fail
        go_ret
        rw [HF.out]
        exact ⟨rfl, HB.out.below⟩
theorem few_steps {w : World} {A : Option Addr} {l : List Step} (hC : k41.C w A l.length l) (hg : ∀ x ∈ l, Good x) (h : fewB l = true) : Steps w A l := by
  unfold fewB at h
  rw [decide_eq_true_eq] at h
  exact ⟨hC, hg, by omega, fun x hx => by have := keeps_mem l x hx; omega⟩
end
end Go.Proofs.YtagpldkgkchfcaaDoor.Txt
