/- A table in memory: its blocks, and the laws of the operations on them. -/
import Derived.Test.YtkkmmbbnaafhlaaProg
import Derived.Test.YtkkmmbbnaafhlaaSec
import Derived.Test.YtkkmmbbnaafhlaaWN
import Derived.Test.YtkkmmbbnaafhlaaWRepsOne
import Derived.Test.YtkkmmbbnaafhlaaWGuard
import Derived.KernelRfl
namespace Go.Proofs.Ytkkmmbbnaafhlaa.Tab
set_option linter.unusedSimpArgs false
set_option linter.unusedVariables false
open Go.RowKit Go.Proofs.YtkkmmbbnaafhlaaW.PrintWords Go.Proofs.YtkkmmbbnaafhlaaW.PrintLast Go.Proofs.YtkkmmbbnaafhlaaW.PrintMore Arr

/-- Rows of whole numbers: of a call's own, and read. -/
abbrev RI (w : World) (B : Nat) (v : Value) (l : List Int) : Prop := Kd.R (Kd.int .i64) 3 w B (fun _ => True) v l
abbrev CI (w : World) (A : Option Addr) (n : Nat) (l : List Int) : Prop := Kd.C (Kd.int .i64) w A n l
theorem info3 : (Try.prog.info? 3).map (fun i => (i.zero, i.size, i.bytes)) = some (some (.int .i64 0), 1, 8) := by kernel_rfl
theorem size3 : (Try.prog.info? 3).map (·.size) = some 1 := by kernel_rfl
def zeros (n : Nat) : List Int := List.replicate n 0
theorem zeros_length (n : Nat) : (zeros n).length = n := by simp [zeros]
theorem zeros_getD (n j : Nat) : (zeros n).getD j 0 = 0 := by
  unfold zeros
  rw [List.getD_eq_getElem?_getD, List.getElem?_replicate]
  split <;> rfl
theorem encsLen {α : Type} (enc : α → Value) (l : List α) : (encs enc l).length = l.length := by simp [encs]
section
variable {ops : Array Oper} {rest : List Oper} {o : Oper} {a : Act} {Q : Exit → Act → World → Prop} {w0 W : World} {B : Nat}
theorem app_i64 (hgd : o.guard = none) (s x : Operand) (ho : o.op = .call { callee := .builtin .append, args := #[s, x], argTypes := #[22, 22] })
    (v : Value) (l : List Int) (y : Int) (hs : a.eval s = v) (hx : a.eval x = .slice (some ⟨W.heap.size, 0, none⟩) 1 1) (HO : RI W B v l) (HB : Below B w0 W) (hb : B ≤ W.heap.size) (hl : l.length < 17592186044415)
    (h : ∀ v1 w1, RI w1 B v1 (l ++ [y]) → Below B w0 w1 → B ≤ w1.heap.size → wpList Try.prog ops Q rest (a.put o.dst v1) w1) : wpList Try.prog ops Q (o :: rest) a (W.alloc (.cells #[.int .i64 y] 3)) :=
  Kd.R_append (Kd.int .i64) (w0 := w0) B hgd s x 22 3 (.int .i64 0) 8 ho Try.underlying22 info3 rfl (by decide) (by omega) v l y [.int .i64 y] (fun _ => True) (fun _ => False) hs hx rfl (fun _ hk => hk.elim) (fun _ _ => trivial) HO HB hb (by omega)
    fun v1 w1 h1 h2 h3 _ => h v1 w1 h1 h2 (Nat.le_trans hb h3.size)
end
theorem RI.reads {w : World} {B : Nat} {v : Value} {l : List Int} (h : RI w B v l) : ∃ A c, v = .slice A l.length c ∧ l.length ≤ c ∧ CI w A l.length l := by
  obtain ⟨A, c, rfl⟩ := Kd.R_slice h
  have := Kd.R_reads' h
  exact ⟨A, c, rfl, this.2.1, this.2.2⟩
/-- A block of whole numbers, as what is read. -/
theorem blk_reads {w : World} {g : Nat} {T : TypeId} {l : List Int} (h : Blk w g T (encs (Value.int .i64) l)) (hl : l.length ≤ 1000000) : CI w (some ⟨g, 0, none⟩) l.length l := by
  refine Kd.C_of_reads (enc := Value.int .i64) (d := (0 : Int)) (h1 := fun _ => rfl) ⟨rfl, by omega, fun _ => ⟨_, rfl, fun j hj => ?_⟩⟩
  rw [addr_at, Nat.zero_add, h.encAt (0 : Int) j hj]
/-- A row made, all of it: cells of one zero. -/
theorem made_all (z0 : Value) (k n : Nat) (hk : 0 < k) : madeCells (List.replicate k z0).toArray n = (List.replicate n z0).toArray := by
  unfold madeCells
  apply Array.ext (by simp)
  intro i h1 h2
  simp only [Array.size_map, Array.size_range] at h1
  simp only [Array.getElem_map, Array.getElem_range, List.size_toArray, List.length_replicate, List.getElem_toArray, List.getElem_replicate]
  have hlt : i % k < k := Nat.mod_lt _ hk
  rw [getElem!_pos (List.replicate k z0).toArray (i % k) (by simpa using hlt)]
  simp
section
variable {P : Program} {ops : Array Oper} {rest : List Oper} {o : Oper} {a : Act} {Q : Exit → Act → World → Prop} {W : World}
theorem make_run (T e : TypeId) (l c : Operand) (ho : o.op = .makeSlice T l c) (hu : P.underlying T = some (.slice e)) (k b : Nat) (z : Value) (z0 : Value) (hz : z.cells = (List.replicate k z0).toArray) (hk : 0 < k) (hi : (P.info? e).map (fun i => (i.zero, i.size, i.bytes)) = some (some z, k, b)) (n : Nat) (hl : a.eval l = .int .i64 n) (hc : a.eval c = .int .i64 n) (hn : b * n ≤ 281474976710656) (hn2 : n ≤ 1000000) :
    (execOp a.eval o).run P W = .ok (.value (.slice (some ⟨W.heap.size, 0, none⟩) n n)) (W.alloc (.cells (List.replicate (n * k) z0).toArray e)) := by
  obtain ⟨i, hi1, hi2⟩ := Option.map_eq_some_iff.1 hi
  simp only [Prod.mk.injEq] at hi2
  obtain ⟨hz1, hk1, hb1⟩ := hi2
  have hb' : (i.bytes : Int) * (n : Int) ≤ 281474976710656 := by
    have h : ((i.bytes * n : Nat) : Int) ≤ 281474976710656 := by rw [hb1]; omega
    rwa [Int.natCast_mul] at h
  have hr := run_make (P := P) W T e i z hu hi1 hz1 .i64 .i64 n n (by omega) (by omega) hb' (by omega)
  rw [hz, hk1, made_all z0 k _ hk, Int.toNat_natCast] at hr
  simp only [execOp, ho, hl, hc, Sem.run_bind, hr, Result.andThen_ok, Sem.run_pure]
theorem wpl_make (hgd : o.guard = none) (T e : TypeId) (l c : Operand) (ho : o.op = .makeSlice T l c) (hu : P.underlying T = some (.slice e)) (k b : Nat) (z : Value) (z0 : Value) (hz : z.cells = (List.replicate k z0).toArray) (hk : 0 < k) (hi : (P.info? e).map (fun i => (i.zero, i.size, i.bytes)) = some (some z, k, b)) (n : Nat) (hl : a.eval l = .int .i64 n) (hc : a.eval c = .int .i64 n) (hn : b * n ≤ 281474976710656) (hn2 : n ≤ 1000000)
    (h : ∀ w1 g, W.heap.size ≤ g → Blk w1 g e (List.replicate (n * k) z0) → W.grownBy w1 none → wpList P ops Q rest (a.put o.dst (.slice (some ⟨g, 0, none⟩) n n)) w1) : wpList P ops Q (o :: rest) a W :=
  Kd.event_run hgd (make_run T e l c ho hu k b z z0 hz hk hi n hl hc hn hn2) (h _ _ (Nat.le_refl _) (Blk.new W e _) (World.grownBy_alloc W _ none))
theorem step_make {Kc : Act → World → Prop} (N : Tmp) (hd : o.dst = some N) (T e : TypeId) (l c : Operand) (ho : o.op = .makeSlice T l c) (hu : P.underlying T = some (.slice e)) (k b : Nat) (z : Value) (z0 : Value) (hz : z.cells = (List.replicate k z0).toArray) (hk : 0 < k) (hi : (P.info? e).map (fun i => (i.zero, i.size, i.bytes)) = some (some z, k, b)) (n : Nat) (hl : a.eval l = .int .i64 n) (hc : a.eval c = .int .i64 n) (hn : b * n ≤ 281474976710656) (hn2 : n ≤ 1000000)
    (h : ∀ w1 g, W.heap.size ≤ g → Blk w1 g e (List.replicate (n * k) z0) → W.grownBy w1 none → Kc (a.put (some N) (.slice (some ⟨g, 0, none⟩) n n)) w1) : Oper.wp P o a W Kc Q := by
  have h1 := h _ _ (Nat.le_refl _) (Blk.new W e (List.replicate (n * k) z0)) (World.grownBy_alloc W _ none)
  rw [← hd] at h1
  unfold Oper.wp
  rw [make_run T e l c ho hu k b z z0 hz hk hi n hl hc hn hn2]
  exact h1
theorem step_box {Kc : Act → World → Prop} (N : Tmp) (hd : o.dst = some N) (T : TypeId) (x : Operand) (ho : o.op = .box T x) (v : Value) (hx : a.eval x = v) (zs : List Value) (hzs : v.cells = zs.toArray)
    (h : ∀ w1 g, W.heap.size ≤ g → Blk w1 g T zs → W.grownBy w1 none → Kc (a.put (some N) (.pointer (some ⟨g, 0, none⟩))) w1) : Oper.wp P o a W Kc Q := by
  have hrun : (execOp a.eval o).run P W = .ok (.value (.pointer (some ⟨W.heap.size, 0, none⟩))) (W.alloc (.cells zs.toArray T)) := by
    simp [execOp, ho, Instr.box, newVar, newRow, hx, hzs]
  have h1 := h _ _ (Nat.le_refl _) (Blk.new W T zs) (World.grownBy_alloc W _ none)
  rw [← hd] at h1
  unfold Oper.wp
  rw [hrun]
  exact h1
end
/-- A cell read, in a region that draws. -/
theorem yields_cell {P : Program} {ops : Array Oper} {S : World → Prop} {o : Oper} {a : Act} (hw : Region.wanted o (yielded ops a.tmps) = true) (T : TypeId) (p : Operand) (ho : o.op = .load T p) (ad : Addr) (hp : a.eval p = .pointer (some ad)) {v : Value} (hc : ∀ w, S w → w.cell? ad = some v) {d : TypeDesc} (hu : P.underlying T = some d) (hd : wideT d = false) : YieldsIf P ops S o v a :=
  Or.inl ⟨hw, fun w hS => by
    have h1 := hc w hS
    have h2 : (isAgg T).run P w = .ok false w := by rw [run_isAgg hu, hd]
    unfold execOp
    simp only [ho, hp, Instr.loadAt, Instr.sureAddr, Sem.run_bind, Sem.run_pure, Result.andThen_ok, loadVar, h2]
    simp [h1]⟩
section
variable {ops : Array Oper} {o : Oper} {a : Act} {Q : Exit → Act → World → Prop} {W : World}
/-- A cell read, in a region that draws, the world being known. -/
theorem step_read {P : Program} {Kc : Act → World → Prop} (N : Tmp) (hd : o.dst = some N) (T : TypeId) (p : Operand) (ho : o.op = .load T p) (ad : Addr) (hp : a.eval p = .pointer (some ad)) {v : Value} (hc : W.cell? ad = some v) {d : TypeDesc} (hu : P.underlying T = some d) (hwd : wideT d = false)
    (h : Kc (a.put (some N) v) W) : Oper.wp P o a W Kc Q := by
  have h2 : (isAgg T).run P W = .ok false W := by rw [run_isAgg hu, hwd]
  have hrun : (execOp a.eval o).run P W = .ok (.value v) W := by
    unfold execOp
    simp only [ho, hp, Instr.loadAt, Instr.sureAddr, Sem.run_bind, Sem.run_pure, Result.andThen_ok, loadVar, h2]
    simp [hc]
  unfold Oper.wp
  rw [hrun]
  show Kc (a.put o.dst v) _
  rw [hd]
  exact h
/-- A cell written, in a region that draws. -/
theorem step_cell {P : Program} {Kc : Act → World → Prop} (hN : o.dst = none) (T : TypeId) (p x : Operand) (ho : o.op = .store T p x) (g i : Nat) (hp : a.eval p = .pointer (some ⟨g, i, none⟩)) (v : Value) (hx : a.eval x = v) (h1 : v.oneCell' = true)
    (hi : (P.info? T).map (·.size) = some 1) {t : TypeId} {cs : List Value} (hb : Blk W g t cs) (hfit : i < cs.length)
    (h : Kc a (W.setCell ⟨g, i, none⟩ v)) : Oper.wp P o a W Kc Q := by
  obtain ⟨ii, hii, his⟩ := Option.map_eq_some_iff.1 hi
  have hc : v.cells = #[v] := by
    unfold Value.cells
    cases v <;> simp_all [Value.oneCell']
  have hst : (storeCells (⟨g, i, none⟩ : Addr) [v]).run P W = .ok () (W.setCell ⟨g, i, none⟩ v) := by
    have h2 : W.cell? ⟨g, i, none⟩ = some cs[i] := hb.cell (by rw [List.getElem?_eq_getElem hfit])
    have h3 := hb.frozen i
    have := run_storeCells_cells (P := P) g i [v] 0 W (fun j hj => by
      obtain rfl : j = 0 := by simp at hj; omega
      simp only [Nat.add_zero]
      rw [h2]; rfl) (fun j hj => by
      obtain rfl : j = 0 := by simp at hj; omega
      simpa using h3) (by simpa using h1)
    simpa [World.setCells] using this
  have hrun : (execOp a.eval o).run P W = .ok .skip (W.setCell ⟨g, i, none⟩ v) := by
    simp [execOp, ho, hp, hx, Instr.storeAt, Instr.sureAddr, storeVar, sizeOf, typeInfo, hii, his, hc, hst]
  unfold Oper.wp
  rw [hrun]
  have e2 : a.put o.dst undef = a := by rw [hN]; rfl
  show Kc (a.put o.dst undef) _
  rw [e2]
  exact h
end
/-! ### a table -/
/-- How many leaves. -/
def pg (n : Nat) : Nat := (n + 9) / 10
def tabC (n lb db : Nat) : List Value := [.int .i64 n, .slice (some ⟨lb, 0, none⟩) (pg n) (pg n), .slice (some ⟨db, 0, none⟩) (pg n) (pg n)]
/-- A table stands there: so many blocks, their places (noughts up to the last leaf's end, behind them), which leaves are dirty. -/
structure TabAt (w : World) (t lb db n : Nat) (ps : List Int) (ds : List Bool) : Prop where
  tab : Blk w t 82 (tabC n lb db)
  lv : Blk w lb 85 (encs (Value.int .i64) ps)
  dt : Blk w db 4 (encs Value.bool ds)
  hps : ps.length = 10 * pg n
  hds : ds.length = pg n
  hn : n ≤ 4096
section
variable {w w' : World} {t lb db n : Nat} {ps : List Int} {ds : List Bool}
theorem TabAt.below {B : Nat} (h : TabAt w t lb db n ps ds) (hb : Below B w w') (h1 : t < B) (h2 : lb < B) (h3 : db < B) : TabAt w' t lb db n ps ds := ⟨h.tab.below hb h1, h.lv.below hb h2, h.dt.below hb h3, h.hps, h.hds, h.hn⟩
theorem TabAt.below' (h : TabAt w t lb db n ps ds) (hb : Below w.heap.size w w') : TabAt w' t lb db n ps ds := h.below hb h.tab.lt h.lv.lt h.dt.lt
theorem TabAt.drew (h : TabAt w t lb db n ps ds) : TabAt w.drew t lb db n ps ds := ⟨h.tab.drew, h.lv.drew, h.dt.drew, h.hps, h.hds, h.hn⟩
theorem TabAt.grown {g : Nat} (h : TabAt w t lb db n ps ds) (hg : w.grownBy w' (some g)) (h1 : t ≠ g) (h2 : lb ≠ g) (h3 : db ≠ g) : TabAt w' t lb db n ps ds := ⟨h.tab.grown hg (by simpa using h1), h.lv.grown hg (by simpa using h2), h.dt.grown hg (by simpa using h3), h.hps, h.hds, h.hn⟩
theorem TabAt.fresh (h : TabAt w t lb db n ps ds) (hg : w.grownBy w' none) : TabAt w' t lb db n ps ds := ⟨h.tab.grown hg (by simp), h.lv.grown hg (by simp), h.dt.grown hg (by simp), h.hps, h.hds, h.hn⟩
theorem TabAt.n1 (h : TabAt w t lb db n ps ds) : t ≠ lb := h.tab.ne h.lv (by decide)
theorem TabAt.n2 (h : TabAt w t lb db n ps ds) : t ≠ db := h.tab.ne h.dt (by decide)
theorem TabAt.n3 (h : TabAt w t lb db n ps ds) : lb ≠ db := h.lv.ne h.dt (by decide)
theorem TabAt.c0 (h : TabAt w t lb db n ps ds) : w.cell? ⟨t, 0, none⟩ = some (.int .i64 n) := h.tab.cell rfl
theorem TabAt.c1 (h : TabAt w t lb db n ps ds) : w.cell? ⟨t, 1, none⟩ = some (.slice (some ⟨lb, 0, none⟩) (pg n) (pg n)) := h.tab.cell rfl
theorem TabAt.c2 (h : TabAt w t lb db n ps ds) : w.cell? ⟨t, 2, none⟩ = some (.slice (some ⟨db, 0, none⟩) (pg n) (pg n)) := h.tab.cell rfl
theorem TabAt.setP (h : TabAt w t lb db n ps ds) (i : Nat) (x : Int) : TabAt (w.setCell ⟨lb, i, none⟩ (.int .i64 x)) t lb db n (ps.set i x) ds :=
  ⟨h.tab.far h.n1 _, h.lv.encSet i x, h.dt.far h.n3.symm _, by rw [List.length_set]; exact h.hps, h.hds, h.hn⟩
theorem TabAt.setD (h : TabAt w t lb db n ps ds) (i : Nat) (x : Bool) : TabAt (w.setCell ⟨db, i, none⟩ (.bool x)) t lb db n ps (ds.set i x) :=
  ⟨h.tab.far h.n2 _, h.lv.far h.n3 _, h.dt.encSet i x, h.hps, by rw [List.length_set]; exact h.hds, h.hn⟩
end
theorem idx (k n : Nat) (hn : n ≤ 4096) (h : (k : Int) < n) : 0 ≤ wrap64 ((k : Int) / 10) ∧ wrap64 ((k : Int) / 10) < (pg n : Int) ∧ (wrap64 ((k : Int) / 10)).toNat * 10 + k % 10 = k := by
  unfold wrap64 pg
  omega
/-- A place read. -/
def getP (ps : List Int) (n : Nat) (b : Int) : Int := if 0 ≤ b ∧ b < n then ps.getD b.toNat 0 else 0
set_option maxHeartbeats 1000000 in
theorem there_calls (w : World) (t lb db n : Nat) (ps : List Int) (ds : List Bool) (h : TabAt w t lb db n ps ds) (b : Int) : Calls Try.prog 39 #[.pointer (some ⟨t, 0, none⟩), .int .i64 b] w fun e w' => e = .returned (.bool (decide (0 ≤ b ∧ b < n))) ∧ w = w' := by
  have h0 := h.c0
  obtain ⟨R, hR⟩ : ∃ R, R = decide (0 ≤ b ∧ b < (n : Int)) := ⟨_, rfl⟩
  have HI := Aside0.mk (show R = true ↔ 0 ≤ b ∧ b < n by rw [hR, decide_eq_true_eq])
  rw [← hR]
  clear hR h
  go_enter Try.func39, Try.ntmps39
  go_wp2_with fail
  all_goals (go_ret; exact ⟨congrArg (fun b => Ending.returned (Value.bool b)) (Bool.eq_iff_iff.2 (Iff.trans (by simp <;> omega) HI.out.symm)), rfl⟩)
set_option maxHeartbeats 1000000 in
theorem get_calls (w : World) (t lb db n : Nat) (ps : List Int) (ds : List Bool) (h : TabAt w t lb db n ps ds) (b : Int) (hb1 : -9223372036854775808 ≤ b) : Calls Try.prog 30 #[.pointer (some ⟨t, 0, none⟩), .int .i64 b] w fun e w' => e = .returned (.int .i64 (getP ps n b)) ∧ w = w' := by
  have HT := Aside0.mk h
  have hps := h.hps
  clear h
  go_enter Try.func30, Try.ntmps30
  go_wp2_with fail
  refine (there_calls w t lb db n ps ds HT.out b).mono ?_
  rintro e w1 ⟨rfl, rfl⟩
  by_cases hb : 0 ≤ b ∧ b < n
  · rw [decide_eq_true hb]
    have h1 := HT.out.c1
    obtain ⟨k, rfl⟩ : ∃ k : Nat, b = k := ⟨b.toNat, by omega⟩
    have hlt : k < ps.length := by rw [hps]; unfold pg; omega
    obtain ⟨hi0, hi1, hi2⟩ := idx k n HT.out.hn hb.2
    have hc : w.cell? ⟨lb, (wrap64 ((k : Int) / 10)).toNat * 10 + k % 10, none⟩ = some (.int .i64 (ps.getD k 0)) := by rw [hi2]; exact HT.out.lv.encAt (0 : Int) k hlt
    have HI := Aside0.mk hi2
    clear hi2
    go_wp2_with fail
    go_ret
    exact ⟨by unfold getP; rw [if_pos hb, Int.toNat_natCast]; rfl, rfl⟩
  · rw [decide_eq_false hb]
    go_wp2_with fail
    go_ret
    exact ⟨by unfold getP; rw [if_neg hb]; rfl, rfl⟩
end Go.Proofs.Ytkkmmbbnaafhlaa.Tab
