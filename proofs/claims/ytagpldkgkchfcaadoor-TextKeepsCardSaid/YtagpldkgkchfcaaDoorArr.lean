/- Blocks that are known whole (arrays, structs in memory): what the operations make of them. Of whatever program. -/
import Derived.Test.YtagpldkgkchfcaaDoorWMore
import Derived.Laws.CopyRow
import Derived.Laws.IdiomCopy
import Derived.Laws.Rows
import Derived.Laws.Tables
import Derived.WalkKit
import Derived.WalkSpells
import Derived.WalkLawsBesides
namespace Go.Proofs.YtagpldkgkchfcaaDoor.Arr
open Go.RowKit Go.Proofs.YtagpldkgkchfcaaDoorW.PrintWords Go.Proofs.YtagpldkgkchfcaaDoorW.PrintLast Go.Proofs.YtagpldkgkchfcaaDoorW.PrintMore

/-- Block g holds these cells, none frozen. -/
def Blk (w : World) (g : Nat) (t : TypeId) (cs : List Value) : Prop := w.heap[g]? = some (.cells cs.toArray t (0, 0))
section
variable {w w1 : World} {g : Nat} {t : TypeId} {cs : List Value}
theorem Blk.lt (h : Blk w g t cs) : g < w.heap.size := blk_lt h
theorem Blk.cell (h : Blk w g t cs) {i : Nat} {v : Value} (hv : cs[i]? = some v) : w.cell? ⟨g, i, none⟩ = some v := by
  rw [blk_cell h, List.getElem?_toArray]; exact hv
theorem Blk.frozen (h : Blk w g t cs) (i : Nat) : w.frozen? ⟨g, i, none⟩ = false := blk_frozen h i
theorem Blk.grown {row : Option Nat} (h : Blk w g t cs) (hg : w.grownBy w1 row) (hne : some g ≠ row) : Blk w1 g t cs := blk_grown h hg hne
theorem Blk.below {B : Nat} (h : Blk w g t cs) (hb : Below B w w1) (hlt : g < B) : Blk w1 g t cs := (hb.block g hlt).trans h
theorem Blk.below' (h : Blk w g t cs) (hb : Below w.heap.size w w1) : Blk w1 g t cs := h.below hb h.lt
theorem Blk.alloc (h : Blk w g t cs) (o : Obj) : Blk (w.alloc o) g t cs := blk_alloc h o
theorem Blk.drew (h : Blk w g t cs) : Blk w.drew g t cs := h
theorem Blk.drewN (h : Blk w g t cs) (n : Nat) : Blk (w.drewN n) g t cs := h
theorem Blk.set (h : Blk w g t cs) (i : Nat) (u : Value) : Blk (w.setCell ⟨g, i, none⟩ u) g t (cs.set i u) := by
  have := blk_set h i u
  unfold Blk; rw [this]; simp
theorem Blk.far (h : Blk w g t cs) {p : Addr} (hp : g ≠ p.block) (u : Value) : Blk (w.setCell p u) g t cs := blk_far h hp u
theorem Blk.new (w : World) (t : TypeId) (cs : List Value) : Blk (w.alloc (.cells cs.toArray t)) w.heap.size t cs := heap_alloc_new w _
theorem Blk.ne {t' : TypeId} {cs' : List Value} {g' : Nat} (h : Blk w g t cs) (h' : Blk w g' t' cs') (hne : t ≠ t') : g ≠ g' := blk_ne h h' hne
end
section
variable {α : Type} {enc : α → Value} {w : World} {g : Nat} {t : TypeId} {l : List α}
theorem encs_at (d : α) (l : List α) (i : Nat) (h : i < l.length) : (encs enc l)[i]? = some (enc (l.getD i d)) := encs_get l i h
theorem encs_set (l : List α) (i : Nat) (x : α) : (encs enc l).set i (enc x) = encs enc (l.set i x) := by simp [encs, List.map_set]
theorem Blk.encAt (h : Blk w g t (encs enc l)) (d : α) (i : Nat) (hi : i < l.length) : w.cell? ⟨g, i, none⟩ = some (enc (l.getD i d)) := h.cell (encs_at d l i hi)
theorem Blk.encSet (h : Blk w g t (encs enc l)) (i : Nat) (x : α) : Blk (w.setCell ⟨g, i, none⟩ (enc x)) g t (encs enc (l.set i x)) := by
  have := h.set i (enc x); rwa [encs_set] at this
end
theorem below_size' {B : Nat} {w w1 : World} (h : Below B w w1) : w.heap.size ≤ w1.heap.size := h.size
theorem grown_set (w : World) (g i : Nat) (u : Value) : w.grownBy (w.setCell ⟨g, i, none⟩ u) (some g) :=
  ⟨rfl, rfl, rfl, by simp [World.setCell], fun k hk hne => Below.heap_setCell w ⟨g, i, none⟩ u k (fun e => hne (by rw [e]))⟩
theorem grown_setRow (w : World) (g : Nat) (cs : Array Value) : w.grownBy (w.setRow g cs) (some g) := by
  refine ⟨rfl, rfl, rfl, by simp, fun k hk hne => ?_⟩
  simp only [World.setRow, Array.getElem?_modify]
  rw [if_neg (fun e => hne (by rw [e]))]
theorem below_grown {B : Nat} {w0 w w1 : World} (h : Below B w0 w) {g : Nat} (hB : B ≤ g) (hs : B ≤ w.heap.size) (hg : w.grownBy w1 (some g)) : Below B w0 w1 := h.grown hg hs (fun k hk => by cases hk; exact hB)
theorem below_new {B : Nat} {w0 w w1 : World} (h : Below B w0 w) (hs : B ≤ w.heap.size) (hg : w.grownBy w1 none) : Below B w0 w1 := h.grown hg hs (fun k hk => by cases hk)

section
variable {P : Program} {ops : Array Oper} {rest : List Oper} {o : Oper} {a : Act} {Q : Exit → Act → World → Prop} {W : World}
/-- A new variable of a type, zero. -/
theorem wpl_alloc (hgd : o.guard = none) (T : TypeId) (ho : o.op = .alloc T) (z : Value) (hz : (P.info? T).map (·.zero) = some (some z)) (zs : List Value) (hzs : z.cells = zs.toArray)
    (h : ∀ w1 g, W.heap.size ≤ g → Blk w1 g T zs → W.grownBy w1 none → wpList P ops Q rest (a.put o.dst (.pointer (some ⟨g, 0, none⟩))) w1) : wpList P ops Q (o :: rest) a W := by
  obtain ⟨i, hi, hiz⟩ := Option.map_eq_some_iff.1 hz
  refine Kd.event_run (w1 := W.alloc (.cells zs.toArray T)) hgd ?_ (h _ _ (Nat.le_refl _) (Blk.new W T zs) (World.grownBy_alloc W _ none))
  simp [execOp, ho, Instr.alloc, zeroValue, typeInfo, hi, hiz, newVar, newRow, hzs]
/-- A value laid in a new variable. -/
theorem wpl_box (hgd : o.guard = none) (T : TypeId) (x : Operand) (ho : o.op = .box T x) (v : Value) (hx : a.eval x = v) (zs : List Value) (hzs : v.cells = zs.toArray)
    (h : ∀ w1 g, W.heap.size ≤ g → Blk w1 g T zs → W.grownBy w1 none → wpList P ops Q rest (a.put o.dst (.pointer (some ⟨g, 0, none⟩))) w1) : wpList P ops Q (o :: rest) a W := by
  refine Kd.event_run (w1 := W.alloc (.cells zs.toArray T)) hgd ?_ (h _ _ (Nat.le_refl _) (Blk.new W T zs) (World.grownBy_alloc W _ none))
  simp [execOp, ho, Instr.box, newVar, newRow, hx, hzs]
/-- A struct or an array written into a block, from o' on. -/
theorem wpl_store (hgd : o.guard = none) (hN : o.dst = none) (T : TypeId) (p x : Operand) (ho : o.op = .store T p x) (g o' : Nat) (hp : a.eval p = .pointer (some ⟨g, o', none⟩)) (ds : List Value) (hx : a.eval x = .agg ds.toArray)
    (hi : (P.info? T).map (·.size) = some ds.length) (h1 : ∀ v ∈ ds, v.oneCell' = true) {t : TypeId} {cs : List Value} (hb : Blk W g t cs) (hfit : o' + ds.length ≤ cs.length)
    (h : ∀ w1, Blk w1 g t (cs.take o' ++ ds ++ cs.drop (o' + ds.length)) → W.grownBy w1 (some g) → w1.heap.size = W.heap.size → wpList P ops Q rest a w1) : wpList P ops Q (o :: rest) a W := by
  obtain ⟨i, hii, his⟩ := Option.map_eq_some_iff.1 hi
  have hst := run_storeCells_at P g o' t ds 0 cs.toArray W hb (by simpa using hfit) h1
  refine wpList_plain hgd fun K hK => ?_
  unfold Oper.wp
  have hrun : (execOp a.eval o).run P W = .ok .skip (W.setRow g (cs.take o' ++ ds ++ cs.drop (o' + ds.length)).toArray) := by
    simp only [Nat.add_zero] at hst
    simp [execOp, ho, hp, hx, Instr.storeAt, Instr.sureAddr, storeVar, sizeOf, typeInfo, hii, his, Value.cells, hst]
  rw [hrun]
  refine hK _ _ ?_
  have e : a.put o.dst undef = a := by rw [hN]; rfl
  rw [e]
  exact h _ (setRow_heap W g _ _ t _ hb) (grown_setRow _ _ _) (by simp)
/-- A struct or an array read out of a block, from o' on. -/
theorem wpl_load (hgd : o.guard = none) (T : TypeId) (p : Operand) (ho : o.op = .load T p) (ad : Addr) (hp : a.eval p = .pointer (some ad)) (ds : List Value) {d : TypeDesc} (hu : P.underlying T = some d) (hd : (match d with | .struct _ | .array _ _ => true | _ => false) = true)
    (hi : (P.info? T).map (·.size) = some ds.length) (hc : ∀ j v, ds[j]? = some v → W.cell? (ad.add j) = some v)
    (h : wpList P ops Q rest (a.put o.dst (.agg ds.toArray)) W) : wpList P ops Q (o :: rest) a W := by
  obtain ⟨i, hii, his⟩ := Option.map_eq_some_iff.1 hi
  have hl := run_loadCells_list (P := P) W ad ds hc
  refine Kd.event_run hgd ?_ h
  have hagg : (isAgg T).run P W = .ok true W := by
    unfold isAgg
    rw [Sem.run_bind, run_underlying hu W]
    cases d <;> simp_all
  simp [execOp, ho, hp, Instr.loadAt, Instr.sureAddr, loadVar, Sem.run_bind, hagg, sizeOf, typeInfo, hii, his, hl]
end
theorem addr_at (g o j : Nat) : (⟨g, o, none⟩ : Addr).add j = ⟨g, o + j, none⟩ := by unfold Addr.add; split <;> simp_all
end Go.Proofs.YtagpldkgkchfcaaDoor.Arr
