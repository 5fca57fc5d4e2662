/- Masts and measures as values and in variables: the laws of the operations. -/
import Derived.Test.YtmkkkenpjealdaaMastPlain
import Derived.Test.YtmkkkenpjealdaaRecRead
namespace Go.Proofs.Ytmkkkenpjealdaa.MastWalks
set_option linter.unusedSimpArgs false
set_option linter.unusedVariables false
open Go.RowKit Go.Proofs.YtmkkkenpjealdaaW.PrintWords Go.Proofs.YtmkkkenpjealdaaW.PrintLast Go.Proofs.YtmkkkenpjealdaaW.PrintMore PlainWord CrcPlain PlainSec CrcMem CrcWalks CrcRef Arr SecWord SecMem SecRef LeafWalks RecWalks

def mastC (m : Mast) : List Value := [.bool m.foot, .int .i64 m.gen, .int .i64 m.epoch, .int .i64 m.seq, .int .i64 m.pages, .int .u32 m.sum]
def geomC (g : Geom) : List Value := [.int .i64 g.conv, .int .i64 g.soft, .int .i64 g.seq, .int .i64 g.size, .int .i64 g.opn]
theorem zero56 : (Try.prog.info? 56).map (·.zero) = some (some (.agg (mastC mast0).toArray)) := by kernel_rfl
theorem zero64 : (Try.prog.info? 64).map (·.zero) = some (some (.agg (geomC geom0).toArray)) := by kernel_rfl
theorem size56 (m : Mast) : (Try.prog.info? 56).map (·.size) = some (mastC m).length := by
  have : (Try.prog.info? 56).map (·.size) = some 6 := by kernel_rfl
  exact this
theorem size64 (g : Geom) : (Try.prog.info? 64).map (·.size) = some (geomC g).length := by
  have : (Try.prog.info? 64).map (·.size) = some 5 := by kernel_rfl
  exact this
theorem mastC_one (m : Mast) : ∀ v ∈ mastC m, v.oneCell' = true := by
  intro v hv
  simp only [mastC, List.mem_cons, List.not_mem_nil, or_false] at hv
  rcases hv with rfl | rfl | rfl | rfl | rfl | rfl <;> rfl
theorem geomC_one (g : Geom) : ∀ v ∈ geomC g, v.oneCell' = true := by
  intro v hv
  simp only [geomC, List.mem_cons, List.not_mem_nil, or_false] at hv
  rcases hv with rfl | rfl | rfl | rfl | rfl <;> rfl
abbrev MB (w : World) (a : Nat) (m : Mast) : Prop := Blk w a 56 (mastC m)
abbrev GB (w : World) (a : Nat) (g : Geom) : Prop := Blk w a 64 (geomC g)
section
variable {w : World} {a : Nat} {m : Mast} {g : Geom}
theorem MB.foot (h : MB w a m) : w.cell? ⟨a, 0, none⟩ = some (.bool m.foot) := h.cell rfl
theorem MB.gen (h : MB w a m) : w.cell? ⟨a, 1, none⟩ = some (.int .i64 m.gen) := h.cell rfl
theorem MB.epoch (h : MB w a m) : w.cell? ⟨a, 2, none⟩ = some (.int .i64 m.epoch) := h.cell rfl
theorem MB.seq (h : MB w a m) : w.cell? ⟨a, 3, none⟩ = some (.int .i64 m.seq) := h.cell rfl
theorem MB.pages (h : MB w a m) : w.cell? ⟨a, 4, none⟩ = some (.int .i64 m.pages) := h.cell rfl
theorem MB.sum (h : MB w a m) : w.cell? ⟨a, 5, none⟩ = some (.int .u32 m.sum) := h.cell rfl
theorem GB.conv (h : GB w a g) : w.cell? ⟨a, 0, none⟩ = some (.int .i64 g.conv) := h.cell rfl
theorem GB.soft (h : GB w a g) : w.cell? ⟨a, 1, none⟩ = some (.int .i64 g.soft) := h.cell rfl
theorem GB.seq (h : GB w a g) : w.cell? ⟨a, 2, none⟩ = some (.int .i64 g.seq) := h.cell rfl
theorem GB.size (h : GB w a g) : w.cell? ⟨a, 3, none⟩ = some (.int .i64 g.size) := h.cell rfl
theorem GB.opn (h : GB w a g) : w.cell? ⟨a, 4, none⟩ = some (.int .i64 g.opn) := h.cell rfl
end
section
variable {ops : Array Oper} {rest : List Oper} {o : Oper} {a : Act} {Q : Exit → Act → World → Prop} {W : World}
theorem box56 (hgd : o.guard = none) (x : Operand) (ho : o.op = .box 56 x) (m : Mast) (hx : a.eval x = .agg (mastC m).toArray) (h : ∀ w1 g, W.heap.size ≤ g → MB w1 g m → W.grownBy w1 none → wpList Try.prog ops Q rest (a.put o.dst (.pointer (some ⟨g, 0, none⟩))) w1) : wpList Try.prog ops Q (o :: rest) a W :=
  wpl_box hgd 56 x ho _ hx _ rfl h
theorem alloc56 (hgd : o.guard = none) (ho : o.op = .alloc 56) (h : ∀ w1 g, W.heap.size ≤ g → MB w1 g mast0 → W.grownBy w1 none → wpList Try.prog ops Q rest (a.put o.dst (.pointer (some ⟨g, 0, none⟩))) w1) : wpList Try.prog ops Q (o :: rest) a W :=
  wpl_alloc hgd 56 ho _ zero56 _ rfl h
theorem load56 (hgd : o.guard = none) (p : Operand) (ho : o.op = .load 56 p) (g : Nat) (hp : a.eval p = .pointer (some ⟨g, 0, none⟩)) {m : Mast} (hb : MB W g m)
    (h : wpList Try.prog ops Q rest (a.put o.dst (.agg (mastC m).toArray)) W) : wpList Try.prog ops Q (o :: rest) a W :=
  wpl_loadAll hgd 56 p ho g hp hb Try.underlying56 rfl (size56 m) h
theorem store56 (hgd : o.guard = none) (hN : o.dst = none) (p x : Operand) (ho : o.op = .store 56 p x) (g : Nat) (hp : a.eval p = .pointer (some ⟨g, 0, none⟩)) (m : Mast) (hx : a.eval x = .agg (mastC m).toArray) {n : Mast} (hb : MB W g n)
    (h : ∀ w1, MB w1 g m → W.grownBy w1 (some g) → w1.heap.size = W.heap.size → wpList Try.prog ops Q rest a w1) : wpList Try.prog ops Q (o :: rest) a W :=
  wpl_storeAll hgd hN 56 p x ho g hp _ hx (size56 m) (mastC_one m) hb rfl h
theorem build56z (hgd : o.guard = none) (ho : o.op = .build 56 #[]) (h : wpList Try.prog ops Q rest (a.put o.dst (.agg (mastC mast0).toArray)) W) : wpList Try.prog ops Q (o :: rest) a W :=
  Kd.event_run hgd (by simp only [execOp, ho, List.map_toArray, List.map_nil]; kernel_rfl) h
theorem yields_build56 {S : World → Prop} (hw : Region.wanted o (yielded ops a.tmps) = true) (x0 x1 x2 x3 x4 x5 : Operand) (ho : o.op = .build 56 #[(0, x0), (1, x1), (2, x2), (3, x3), (4, x4), (5, x5)]) (f : Bool) (k e s b c : Int) (h0 : a.eval x0 = .bool f) (h1 : a.eval x1 = .int .i64 k) (h2 : a.eval x2 = .int .i64 e) (h3 : a.eval x3 = .int .i64 s) (h4 : a.eval x4 = .int .i64 b) (h5 : a.eval x5 = .int .u32 c) :
    YieldsIf Try.prog ops S o (.agg (mastC ⟨f, k, e, s, b, c⟩).toArray) a :=
  Or.inl ⟨hw, fun w _ => by simp only [execOp, ho, List.map_toArray, List.map_cons, List.map_nil, h0, h1, h2, h3, h4, h5]; kernel_rfl⟩
theorem step_alloc56 {Kc : Act → World → Prop} (N : Tmp) (hd : o.dst = some N) (ho : o.op = .alloc 56) (h : ∀ w1 g, W.heap.size ≤ g → MB w1 g mast0 → W.grownBy w1 none → Kc (a.put (some N) (.pointer (some ⟨g, 0, none⟩))) w1) : Oper.wp Try.prog o a W Kc Q :=
  step_alloc N hd 56 ho _ zero56 _ rfl h
theorem step_store56 {Kc : Act → World → Prop} (hN : o.dst = none) (p x : Operand) (ho : o.op = .store 56 p x) (g : Nat) (hp : a.eval p = .pointer (some ⟨g, 0, none⟩)) (m : Mast) (hx : a.eval x = .agg (mastC m).toArray) {n : Mast} (hb : MB W g n)
    (h : ∀ w1, MB w1 g m → W.grownBy w1 (some g) → w1.heap.size = W.heap.size → Kc a w1) : Oper.wp Try.prog o a W Kc Q :=
  step_storeAll hN 56 p x ho g hp _ hx (size56 m) (mastC_one m) hb rfl h
theorem box64 (hgd : o.guard = none) (x : Operand) (ho : o.op = .box 64 x) (m : Geom) (hx : a.eval x = .agg (geomC m).toArray) (h : ∀ w1 g, W.heap.size ≤ g → GB w1 g m → W.grownBy w1 none → wpList Try.prog ops Q rest (a.put o.dst (.pointer (some ⟨g, 0, none⟩))) w1) : wpList Try.prog ops Q (o :: rest) a W :=
  wpl_box hgd 64 x ho _ hx _ rfl h
theorem alloc64 (hgd : o.guard = none) (ho : o.op = .alloc 64) (h : ∀ w1 g, W.heap.size ≤ g → GB w1 g geom0 → W.grownBy w1 none → wpList Try.prog ops Q rest (a.put o.dst (.pointer (some ⟨g, 0, none⟩))) w1) : wpList Try.prog ops Q (o :: rest) a W :=
  wpl_alloc hgd 64 ho _ zero64 _ rfl h
theorem load64 (hgd : o.guard = none) (p : Operand) (ho : o.op = .load 64 p) (g : Nat) (hp : a.eval p = .pointer (some ⟨g, 0, none⟩)) {m : Geom} (hb : GB W g m)
    (h : wpList Try.prog ops Q rest (a.put o.dst (.agg (geomC m).toArray)) W) : wpList Try.prog ops Q (o :: rest) a W :=
  wpl_loadAll hgd 64 p ho g hp hb Try.underlying64 rfl (size64 m) h
theorem store64 (hgd : o.guard = none) (hN : o.dst = none) (p x : Operand) (ho : o.op = .store 64 p x) (g : Nat) (hp : a.eval p = .pointer (some ⟨g, 0, none⟩)) (m : Geom) (hx : a.eval x = .agg (geomC m).toArray) {n : Geom} (hb : GB W g n)
    (h : ∀ w1, GB w1 g m → W.grownBy w1 (some g) → w1.heap.size = W.heap.size → wpList Try.prog ops Q rest a w1) : wpList Try.prog ops Q (o :: rest) a W :=
  wpl_storeAll hgd hN 64 p x ho g hp _ hx (size64 m) (geomC_one m) hb rfl h
theorem build64z (hgd : o.guard = none) (ho : o.op = .build 64 #[]) (h : wpList Try.prog ops Q rest (a.put o.dst (.agg (geomC geom0).toArray)) W) : wpList Try.prog ops Q (o :: rest) a W :=
  Kd.event_run hgd (by simp only [execOp, ho, List.map_toArray, List.map_nil]; kernel_rfl) h
theorem yields_build64 {S : World → Prop} (hw : Region.wanted o (yielded ops a.tmps) = true) (x0 x1 x2 x3 x4 : Operand) (ho : o.op = .build 64 #[(0, x0), (1, x1), (2, x2), (3, x3), (4, x4)]) (k e s b c : Int) (h0 : a.eval x0 = .int .i64 k) (h1 : a.eval x1 = .int .i64 e) (h2 : a.eval x2 = .int .i64 s) (h3 : a.eval x3 = .int .i64 b) (h4 : a.eval x4 = .int .i64 c) :
    YieldsIf Try.prog ops S o (.agg (geomC ⟨k, e, s, b, c⟩).toArray) a :=
  Or.inl ⟨hw, fun w _ => by simp only [execOp, ho, List.map_toArray, List.map_cons, List.map_nil, h0, h1, h2, h3, h4]; kernel_rfl⟩
theorem step_alloc64 {Kc : Act → World → Prop} (N : Tmp) (hd : o.dst = some N) (ho : o.op = .alloc 64) (h : ∀ w1 g, W.heap.size ≤ g → GB w1 g geom0 → W.grownBy w1 none → Kc (a.put (some N) (.pointer (some ⟨g, 0, none⟩))) w1) : Oper.wp Try.prog o a W Kc Q :=
  step_alloc N hd 64 ho _ zero64 _ rfl h
theorem step_store64 {Kc : Act → World → Prop} (hN : o.dst = none) (p x : Operand) (ho : o.op = .store 64 p x) (g : Nat) (hp : a.eval p = .pointer (some ⟨g, 0, none⟩)) (m : Geom) (hx : a.eval x = .agg (geomC m).toArray) {n : Geom} (hb : GB W g n)
    (h : ∀ w1, GB w1 g m → W.grownBy w1 (some g) → w1.heap.size = W.heap.size → Kc a w1) : Oper.wp Try.prog o a W Kc Q :=
  step_storeAll hN 64 p x ho g hp _ hx (size64 m) (geomC_one m) hb rfl h
end
theorem eqg56 : Try.prog.eqGuardType Try.prog.depth 56 = false := by kernel_rfl
theorem eqg64 : Try.prog.eqGuardType Try.prog.depth 64 = false := by kernel_rfl
structure mastWf (m : Mast) : Prop where
  gen : i64Ok m.gen
  epoch : i64Ok m.epoch
  seq : i64Ok m.seq
  pages : i64Ok m.pages
  sum : mastSum m
structure geomWf (g : Geom) : Prop where
  conv : i64Ok g.conv
  soft : i64Ok g.soft
  seq : i64Ok g.seq
  size : i64Ok g.size
  opn : i64Ok g.opn
theorem wf32 {x : Int} (h : 0 ≤ x ∧ x ≤ 4294967295) : (Lit.int .u32 x).wf = true := by
  simp [Lit.wf, IntKind.min, IntKind.max, IntKind.signed, IntKind.bits]
  omega
theorem lits56 (m : Mast) (hw : mastWf m) : Try.prog.keyLits 4 56 (mastC m) = some [Lit.bool m.foot, Lit.int .i64 m.gen, Lit.int .i64 m.epoch, Lit.int .i64 m.seq, Lit.int .i64 m.pages, Lit.int .u32 m.sum] := by
  have g : ∀ x, i64Ok x → Try.prog.keyLits 3 3 [Value.int .i64 x] = some [Lit.int .i64 x] := fun x h => lits_int (P := Try.prog) (D := 2) (e := 3) (k := .i64) Try.underlying3 (wf64 h)
  have h0 := lits_bool (P := Try.prog) (D := 2) (e := 4) Try.underlying4 m.foot
  have h5 := lits_int (P := Try.prog) (D := 2) (e := 54) (k := .u32) Try.underlying54 (wf32 hw.sum)
  have hlen : (mastC m).length = Try.prog.cellsOf 56 := by show 6 = _; kernel_rfl
  have c3 : Try.prog.cellsOf 3 = 1 := by kernel_rfl
  have c4 : Try.prog.cellsOf 4 = 1 := by kernel_rfl
  have c54 : Try.prog.cellsOf 54 = 1 := by kernel_rfl
  have e0 : ((mastC m).drop 0).take 1 = [Value.bool m.foot] := rfl
  have e1 : ((mastC m).drop 1).take 1 = [Value.int .i64 m.gen] := rfl
  have e2 : ((mastC m).drop 2).take 1 = [Value.int .i64 m.epoch] := rfl
  have e3 : ((mastC m).drop 3).take 1 = [Value.int .i64 m.seq] := rfl
  have e4 : ((mastC m).drop 4).take 1 = [Value.int .i64 m.pages] := rfl
  have e5 : ((mastC m).drop 5).take 1 = [Value.int .u32 m.sum] := rfl
  unfold Program.keyLits
  rw [Try.underlying56]
  show (if _ then _ else _) = _
  rw [if_pos ⟨hlen, by decide +kernel⟩]
  simp only [List.mapM_cons, List.mapM_nil, c3, c4, c54]
  rw [e0, e1, e2, e3, e4, e5, g _ hw.gen, g _ hw.epoch, g _ hw.seq, g _ hw.pages, h0, h5]
  simp
theorem eq56 {m n : Mast} (wl : mastWf m) (wm : mastWf n) {b : Bool} (hb : b = true ↔ m = n) (w : World) : (Op.equal 56 (.agg (mastC m).toArray) (.agg (mastC n).toArray)).run Try.prog w = .ok b w :=
  run_equal_cells (P := Try.prog) (T := 56) (m := 4) (by decide) (by kernel_rfl) Try.underlying56 rfl (by show 6 = _; kernel_rfl) (by show 6 = _; kernel_rfl) (lits56 m wl) (lits56 n wm) (by
    rw [hb]
    constructor
    · rintro rfl; rfl
    · intro h
      simp only [List.cons.injEq, and_true] at h
      obtain ⟨h0, h1, h2, h3, h4, h5⟩ := h
      have e0 := Lit.bool.inj h0
      have e1 := (Lit.int.inj h1).2
      have e2 := (Lit.int.inj h2).2
      have e3 := (Lit.int.inj h3).2
      have e4 := (Lit.int.inj h4).2
      have e5 := (Lit.int.inj h5).2
      cases m; cases n; simp_all) w
theorem lits64 (g : Geom) (hw : geomWf g) : Try.prog.keyLits 4 64 (geomC g) = some [Lit.int .i64 g.conv, Lit.int .i64 g.soft, Lit.int .i64 g.seq, Lit.int .i64 g.size, Lit.int .i64 g.opn] := by
  have h : ∀ x, i64Ok x → Try.prog.keyLits 3 3 [Value.int .i64 x] = some [Lit.int .i64 x] := fun x h => lits_int (P := Try.prog) (D := 2) (e := 3) (k := .i64) Try.underlying3 (wf64 h)
  have hlen : (geomC g).length = Try.prog.cellsOf 64 := by show 5 = _; kernel_rfl
  have c3 : Try.prog.cellsOf 3 = 1 := by kernel_rfl
  have e1 : ((geomC g).drop 0).take 1 = [Value.int .i64 g.conv] := rfl
  have e2 : ((geomC g).drop 1).take 1 = [Value.int .i64 g.soft] := rfl
  have e3 : ((geomC g).drop 2).take 1 = [Value.int .i64 g.seq] := rfl
  have e4 : ((geomC g).drop 3).take 1 = [Value.int .i64 g.size] := rfl
  have e5 : ((geomC g).drop 4).take 1 = [Value.int .i64 g.opn] := rfl
  unfold Program.keyLits
  rw [Try.underlying64]
  show (if _ then _ else _) = _
  rw [if_pos ⟨hlen, by decide +kernel⟩]
  simp only [List.mapM_cons, List.mapM_nil, c3]
  rw [e1, e2, e3, e4, e5, h _ hw.conv, h _ hw.soft, h _ hw.seq, h _ hw.size, h _ hw.opn]
  simp
theorem eq64 {g k : Geom} (wl : geomWf g) (wm : geomWf k) {b : Bool} (hb : b = true ↔ g = k) (w : World) : (Op.equal 64 (.agg (geomC g).toArray) (.agg (geomC k).toArray)).run Try.prog w = .ok b w :=
  run_equal_cells (P := Try.prog) (T := 64) (m := 4) (by decide) (by kernel_rfl) Try.underlying64 rfl (by show 5 = _; kernel_rfl) (by show 5 = _; kernel_rfl) (lits64 g wl) (lits64 k wm) (by
    rw [hb]
    constructor
    · rintro rfl; rfl
    · intro h
      simp only [List.cons.injEq, and_true] at h
      obtain ⟨h1, h2, h3, h4, h5⟩ := h
      have e1 := (Lit.int.inj h1).2
      have e2 := (Lit.int.inj h2).2
      have e3 := (Lit.int.inj h3).2
      have e4 := (Lit.int.inj h4).2
      have e5 := (Lit.int.inj h5).2
      cases g; cases k; simp_all) w
theorem mast0_wf : mastWf mast0 := ⟨i64_of (by decide) (by decide), i64_of (by decide) (by decide), i64_of (by decide) (by decide), i64_of (by decide) (by decide), ⟨by decide, by decide⟩⟩
theorem geom0_wf : geomWf geom0 := ⟨i64_of (by decide) (by decide), i64_of (by decide) (by decide), i64_of (by decide) (by decide), i64_of (by decide) (by decide), i64_of (by decide) (by decide)⟩
theorem mastOk_wf {m : Mast} (h : mastOk m = true) (hs : mastSum m) : mastWf m := by
  obtain ⟨⟨g0, g1, e0, e1, s0, s1, p0, p1⟩, _⟩ := of_decide_eq_true h
  exact ⟨i64_of (by omega) (by omega), i64_of (by omega) (by omega), i64_of (by omega) (by omega), i64_of (by omega) (by omega), hs⟩
theorem geomFits_wf {g : Geom} (h : geomFits g) : geomWf g := by
  obtain ⟨⟨a0, a1⟩, ⟨b0, b1⟩, ⟨c0, c1⟩, ⟨d0, d1⟩, ⟨e0, e1⟩⟩ := geomFits_small h
  exact ⟨i64_of (by omega) (by omega), i64_of (by omega) (by omega), i64_of (by omega) (by omega), i64_of (by omega) (by omega), i64_of (by omega) (by omega)⟩
theorem mastRead_wf {p : List Int} (hp : Bytes p) : mastWf (mastRead p).1 := by
  unfold mastRead
  split
  · split
    · rename_i h; exact mastOk_wf h.1 (mastOf_sum hp)
    · exact mast0_wf
  · exact mast0_wf
theorem geomRead_wf {p : List Int} (hp : Bytes p) : geomWf (geomRead p).1 := by
  unfold geomRead
  split
  · split
    · rename_i h; exact geomFits_wf (geomOf_fits hp h.1)
    · exact geom0_wf
  · exact geom0_wf
end Go.Proofs.Ytmkkkenpjealdaa.MastWalks
