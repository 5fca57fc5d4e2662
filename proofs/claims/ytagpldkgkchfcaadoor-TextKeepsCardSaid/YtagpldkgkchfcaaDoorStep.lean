/- Steps of regions, and of lists of operations, on cells, arrays, slices, and maps. Of whatever program. -/
import Derived.Test.YtagpldkgkchfcaaDoorSec
import Derived.Maps.OwnSet
import Derived.Maps.OwnOps
import Derived.Maps.RangeWalk
import Derived.KernelRfl
namespace Go.Proofs.YtagpldkgkchfcaaDoor.Arr
set_option linter.unusedSimpArgs false
set_option linter.unusedVariables false
open Go.RowKit Go.Proofs.YtagpldkgkchfcaaDoorW.PrintWords Go.Proofs.YtagpldkgkchfcaaDoorW.PrintLast Go.Proofs.YtagpldkgkchfcaaDoorW.PrintMore

theorem bounds_i64 {x : Int} (h : (Lit.int .i64 x).wf = true) : -9223372036854775808 ≤ x ∧ x ≤ 9223372036854775807 := by
  simp [Lit.wf, IntKind.min, IntKind.max, IntKind.signed, IntKind.bits] at h
  omega
theorem wf_i64 {x : Int} (h : -9223372036854775808 ≤ x ∧ x ≤ 9223372036854775807) : (Lit.int .i64 x).wf = true := by
  simp [Lit.wf, IntKind.min, IntKind.max, IntKind.signed, IntKind.bits]
  omega
theorem bounds_u8 {x : Int} (h : (Lit.int .u8 x).wf = true) : 0 ≤ x ∧ x ≤ 255 := by
  simp [Lit.wf, IntKind.min, IntKind.max, IntKind.signed, IntKind.bits] at h
  omega
theorem w64 {n : Int} (h0 : -9223372036854775808 ≤ n) (h : n ≤ 9223372036854775807) : wrap64 n = n := by unfold wrap64; omega
theorem grown_fresh {w w1 : World} (h : w.grownBy w1 none) : Below w.heap.size w w1 := below_new (Below.refl _ _) (Nat.le_refl _) h
theorem step_bel {W w w' : World} (h : Below W.heap.size W w) (hb : Below w.heap.size w w') : Below W.heap.size W w' := h.trans (hb.mono h.size)
/-- A row made, all of it: cells of one zero. -/
theorem made_all (z0 : Value) (k n : Nat) (hk : 0 < k) : madeCells (List.replicate k z0).toArray n = (List.replicate n z0).toArray := by
  unfold madeCells
  apply Array.ext (by simp)
  intro i h1 h2
  simp only [Array.size_map, Array.size_range] at h1
  simp only [Array.getElem_map, Array.getElem_range, List.size_toArray, List.length_replicate, List.getElem_toArray, List.getElem_replicate]
  have hlt : i % k < k := Nat.mod_lt _ hk
  rw [getElem!_pos (List.replicate k z0).toArray (i % k) (by simpa using hlt)]
  simp
section
variable {P : Program} {ops : Array Oper} {rest : List Oper} {o : Oper} {a : Act} {Q : Exit → Act → World → Prop} {W : World}
theorem make_run (T e : TypeId) (l c : Operand) (ho : o.op = .makeSlice T l c) (hu : P.underlying T = some (.slice e)) (k b : Nat) (z : Value) (z0 : Value) (hz : z.cells = (List.replicate k z0).toArray) (hk : 0 < k) (hi : (P.info? e).map (fun i => (i.zero, i.size, i.bytes)) = some (some z, k, b)) (n : Nat) (hl : a.eval l = .int .i64 n) (hc : a.eval c = .int .i64 n) (hn : b * n ≤ 281474976710656) (hn2 : n ≤ 1000000) :
    (execOp a.eval o).run P W = .ok (.value (.slice (some ⟨W.heap.size, 0, none⟩) n n)) (W.alloc (.cells (List.replicate (n * k) z0).toArray e)) := by
  obtain ⟨i, hi1, hi2⟩ := Option.map_eq_some_iff.1 hi
  simp only [Prod.mk.injEq] at hi2
  obtain ⟨hz1, hk1, hb1⟩ := hi2
  have hb' : (i.bytes : Int) * (n : Int) ≤ 281474976710656 := by
    have h : ((i.bytes * n : Nat) : Int) ≤ 281474976710656 := by rw [hb1]; omega
    rwa [Int.natCast_mul] at h
  have hr := run_make (P := P) W T e i z hu hi1 hz1 .i64 .i64 n n (by omega) (by omega) hb' (by omega)
  rw [hz, hk1, made_all z0 k _ hk, Int.toNat_natCast] at hr
  simp only [execOp, ho, hl, hc, Sem.run_bind, hr, Result.andThen_ok, Sem.run_pure]
theorem wpl_make (hgd : o.guard = none) (T e : TypeId) (l c : Operand) (ho : o.op = .makeSlice T l c) (hu : P.underlying T = some (.slice e)) (k b : Nat) (z : Value) (z0 : Value) (hz : z.cells = (List.replicate k z0).toArray) (hk : 0 < k) (hi : (P.info? e).map (fun i => (i.zero, i.size, i.bytes)) = some (some z, k, b)) (n : Nat) (hl : a.eval l = .int .i64 n) (hc : a.eval c = .int .i64 n) (hn : b * n ≤ 281474976710656) (hn2 : n ≤ 1000000)
    (h : ∀ w1 g, W.heap.size ≤ g → Blk w1 g e (List.replicate (n * k) z0) → W.grownBy w1 none → wpList P ops Q rest (a.put o.dst (.slice (some ⟨g, 0, none⟩) n n)) w1) : wpList P ops Q (o :: rest) a W :=
  Kd.event_run hgd (make_run T e l c ho hu k b z z0 hz hk hi n hl hc hn hn2) (h _ _ (Nat.le_refl _) (Blk.new W e _) (World.grownBy_alloc W _ none))
theorem step_make {Kc : Act → World → Prop} (N : Tmp) (hd : o.dst = some N) (T e : TypeId) (l c : Operand) (ho : o.op = .makeSlice T l c) (hu : P.underlying T = some (.slice e)) (k b : Nat) (z : Value) (z0 : Value) (hz : z.cells = (List.replicate k z0).toArray) (hk : 0 < k) (hi : (P.info? e).map (fun i => (i.zero, i.size, i.bytes)) = some (some z, k, b)) (n : Nat) (hl : a.eval l = .int .i64 n) (hc : a.eval c = .int .i64 n) (hn : b * n ≤ 281474976710656) (hn2 : n ≤ 1000000)
    (h : ∀ w1 g, W.heap.size ≤ g → Blk w1 g e (List.replicate (n * k) z0) → W.grownBy w1 none → Kc (a.put (some N) (.slice (some ⟨g, 0, none⟩) n n)) w1) : Oper.wp P o a W Kc Q := by
  have h1 := h _ _ (Nat.le_refl _) (Blk.new W e (List.replicate (n * k) z0)) (World.grownBy_alloc W _ none)
  rw [← hd] at h1
  unfold Oper.wp
  rw [make_run T e l c ho hu k b z z0 hz hk hi n hl hc hn hn2]
  exact h1
theorem step_box {Kc : Act → World → Prop} (N : Tmp) (hd : o.dst = some N) (T : TypeId) (x : Operand) (ho : o.op = .box T x) (v : Value) (hx : a.eval x = v) (zs : List Value) (hzs : v.cells = zs.toArray)
    (h : ∀ w1 g, W.heap.size ≤ g → Blk w1 g T zs → W.grownBy w1 none → Kc (a.put (some N) (.pointer (some ⟨g, 0, none⟩))) w1) : Oper.wp P o a W Kc Q := by
  have hrun : (execOp a.eval o).run P W = .ok (.value (.pointer (some ⟨W.heap.size, 0, none⟩))) (W.alloc (.cells zs.toArray T)) := by
    simp [execOp, ho, Instr.box, newVar, newRow, hx, hzs]
  have h1 := h _ _ (Nat.le_refl _) (Blk.new W T zs) (World.grownBy_alloc W _ none)
  rw [← hd] at h1
  unfold Oper.wp
  rw [hrun]
  exact h1
end
/-- A cell read, in a region that draws. -/
theorem yields_cell {P : Program} {ops : Array Oper} {S : World → Prop} {o : Oper} {a : Act} (hw : Region.wanted o (yielded ops a.tmps) = true) (T : TypeId) (p : Operand) (ho : o.op = .load T p) (ad : Addr) (hp : a.eval p = .pointer (some ad)) {v : Value} (hc : ∀ w, S w → w.cell? ad = some v) {d : TypeDesc} (hu : P.underlying T = some d) (hd : wideT d = false) : YieldsIf P ops S o v a :=
  Or.inl ⟨hw, fun w hS => by
    have h1 := hc w hS
    have h2 : (isAgg T).run P w = .ok false w := by rw [run_isAgg hu, hd]
    unfold execOp
    simp only [ho, hp, Instr.loadAt, Instr.sureAddr, Sem.run_bind, Sem.run_pure, Result.andThen_ok, loadVar, h2]
    simp [h1]⟩
section
variable {ops : Array Oper} {o : Oper} {a : Act} {Q : Exit → Act → World → Prop} {W : World}
/-- A cell read, in a region that draws, the world being known. -/
theorem step_read {P : Program} {Kc : Act → World → Prop} (N : Tmp) (hd : o.dst = some N) (T : TypeId) (p : Operand) (ho : o.op = .load T p) (ad : Addr) (hp : a.eval p = .pointer (some ad)) {v : Value} (hc : W.cell? ad = some v) {d : TypeDesc} (hu : P.underlying T = some d) (hwd : wideT d = false)
    (h : Kc (a.put (some N) v) W) : Oper.wp P o a W Kc Q := by
  have h2 : (isAgg T).run P W = .ok false W := by rw [run_isAgg hu, hwd]
  have hrun : (execOp a.eval o).run P W = .ok (.value v) W := by
    unfold execOp
    simp only [ho, hp, Instr.loadAt, Instr.sureAddr, Sem.run_bind, Sem.run_pure, Result.andThen_ok, loadVar, h2]
    simp [hc]
  unfold Oper.wp
  rw [hrun]
  show Kc (a.put o.dst v) _
  rw [hd]
  exact h
/-- A cell written, in a region that draws. -/
theorem step_cell {P : Program} {Kc : Act → World → Prop} (hN : o.dst = none) (T : TypeId) (p x : Operand) (ho : o.op = .store T p x) (g i : Nat) (hp : a.eval p = .pointer (some ⟨g, i, none⟩)) (v : Value) (hx : a.eval x = v) (h1 : v.oneCell' = true)
    (hi : (P.info? T).map (·.size) = some 1) {t : TypeId} {cs : List Value} (hb : Blk W g t cs) (hfit : i < cs.length)
    (h : Kc a (W.setCell ⟨g, i, none⟩ v)) : Oper.wp P o a W Kc Q := by
  obtain ⟨ii, hii, his⟩ := Option.map_eq_some_iff.1 hi
  have hc : v.cells = #[v] := by
    unfold Value.cells
    cases v <;> simp_all [Value.oneCell']
  have hst : (storeCells (⟨g, i, none⟩ : Addr) [v]).run P W = .ok () (W.setCell ⟨g, i, none⟩ v) := by
    have h2 : W.cell? ⟨g, i, none⟩ = some cs[i] := hb.cell (by rw [List.getElem?_eq_getElem hfit])
    have h3 := hb.frozen i
    have := run_storeCells_cells (P := P) g i [v] 0 W (fun j hj => by
      obtain rfl : j = 0 := by simp at hj; omega
      simp only [Nat.add_zero]
      rw [h2]; rfl) (fun j hj => by
      obtain rfl : j = 0 := by simp at hj; omega
      simpa using h3) (by simpa using h1)
    simpa [World.setCells] using this
  have hrun : (execOp a.eval o).run P W = .ok .skip (W.setCell ⟨g, i, none⟩ v) := by
    simp [execOp, ho, hp, hx, Instr.storeAt, Instr.sureAddr, storeVar, sizeOf, typeInfo, hii, his, hc, hst]
  unfold Oper.wp
  rw [hrun]
  have e2 : a.put o.dst undef = a := by rw [hN]; rfl
  show Kc (a.put o.dst undef) _
  rw [e2]
  exact h
end
end Go.Proofs.YtagpldkgkchfcaaDoor.Arr
