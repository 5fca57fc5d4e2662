/- Arrays and structs as values: an element, a comparison, a literal, a result. Of whatever program. -/
import Derived.Test.YtagpldkgkchfcaaDoorArr
import Derived.DeepKeys
import Derived.Deep.RegionHeld3
namespace Go.Proofs.YtagpldkgkchfcaaDoor.Arr
set_option linter.unusedSimpArgs false
open Go.RowKit Go.Proofs.YtagpldkgkchfcaaDoorW.PrintWords Go.Proofs.YtagpldkgkchfcaaDoorW.PrintLast Go.Proofs.YtagpldkgkchfcaaDoorW.PrintMore

/-- Is a type one of many cells? -/
def wideT : TypeDesc → Bool
  | .struct _ | .array _ _ => true
  | _ => false
section
variable {P : Program} {ops : Array Oper} {rest : List Oper} {o : Oper} {a : Act} {Q : Exit → Act → World → Prop} {W : World}
theorem run_isAgg {P : Program} {T : TypeId} {d : TypeDesc} (hu : P.underlying T = some d) (w : World) : (isAgg T).run P w = .ok (wideT d) w := by
  unfold isAgg
  rw [Sem.run_bind, run_underlying hu w]
  cases d <;> simp [wideT]
/-- A whole block read. -/
theorem wpl_loadAll (hgd : o.guard = none) (T : TypeId) (p : Operand) (ho : o.op = .load T p) (g : Nat) (hp : a.eval p = .pointer (some ⟨g, 0, none⟩)) {t : TypeId} {cs : List Value} (hb : Blk W g t cs) {d : TypeDesc} (hu : P.underlying T = some d) (hd : wideT d = true)
    (hi : (P.info? T).map (·.size) = some cs.length) (h : wpList P ops Q rest (a.put o.dst (.agg cs.toArray)) W) : wpList P ops Q (o :: rest) a W :=
  wpList_load_row hgd T p ho g hp t _ (0, 0) d hb hu (by cases d <;> simp_all [wideT]) (by rw [hi]; simp) h
/-- A whole block written. -/
theorem wpl_storeAll (hgd : o.guard = none) (hN : o.dst = none) (T : TypeId) (p x : Operand) (ho : o.op = .store T p x) (g : Nat) (hp : a.eval p = .pointer (some ⟨g, 0, none⟩)) (ds : List Value) (hx : a.eval x = .agg ds.toArray)
    (hi : (P.info? T).map (·.size) = some ds.length) (h1 : ∀ v ∈ ds, v.oneCell' = true) {t : TypeId} {cs : List Value} (hb : Blk W g t cs) (hl : cs.length = ds.length)
    (h : ∀ w1, Blk w1 g t ds → W.grownBy w1 (some g) → w1.heap.size = W.heap.size → wpList P ops Q rest a w1) : wpList P ops Q (o :: rest) a W :=
  wpl_store hgd hN T p x ho g 0 hp ds hx hi h1 hb (by omega) fun w1 h1 h2 h3 => h w1 (by
    rw [List.take_zero, List.nil_append, List.drop_of_length_le (by omega), List.append_nil] at h1
    exact h1) h2 h3
/-- An element of an array that is a value. -/
theorem wpl_index (hgd : o.guard = none) (T : TypeId) (x i : Operand) (ho : o.op = .index T x i) {α : Type} (enc : α → Value) (d : α) (l : List α) (hx : a.eval x = .agg (encs enc l).toArray) (k : Nat) (hi : a.eval i = .int .i64 k)
    {n : Nat} {e : TypeId} {de : TypeDesc} (hu : P.underlying T = some (.array n e)) (hn : n = l.length) (hk : k < l.length) (hue : P.underlying e = some de) (hde : wideT de = false) (hsz : (P.info? e).map (·.size) = some 1)
    (h : wpList P ops Q rest (a.put o.dst (enc (l.getD k d))) W) : wpList P ops Q (o :: rest) a W := by
  obtain ⟨ie, hie, his⟩ := Option.map_eq_some_iff.1 hsz
  refine Kd.event_run hgd ?_ h
  have h1 : (encs enc l).toArray[k]? = some (enc (l.getD k d)) := by rw [List.getElem?_toArray]; exact encs_at d l k hk
  have h2 : (0 : Int) ≤ k ∧ (k : Int) < n := by omega
  have hp : (part e (encs enc l).toArray (k * 1)).run P W = .ok (enc (l.getD k d)) W := by
    unfold part
    rw [Sem.run_bind, run_isAgg hue, hde]
    simp [h1]
  simp [execOp, ho, hx, hi, Instr.index, asIntOf, Sem.run_bind, run_underlying hu W, h2, sizeOf, typeInfo, hie, his] at hp ⊢
  simp [hp]
  intro hnk; omega
/-- Two values of many cells, as one another. -/
theorem run_equal_cells {T : TypeId} {m : Nat} (hm : m ≤ 10000) (hk : P.keyTypeAt m T = true) {xs ys : List Value} {D : Nat} {la lb : List Lit} {d : TypeDesc} (hu : P.underlying T = some d) (hd : wideT d = true)
    (hcx : xs.length = P.cellsOf T) (hcy : ys.length = P.cellsOf T) (hx : P.keyLits D T xs = some la) (hy : P.keyLits D T ys = some lb) {b : Bool} (hb : b = true ↔ la = lb) (w : World) :
    (Op.equal T (.agg xs.toArray) (.agg ys.toArray)).run P w = .ok b w := by
  have hf : ∀ zs : List Value, zs.length = P.cellsOf T → (Value.agg zs.toArray).formed P T = true := by
    intro zs hz
    unfold Value.formed
    rw [hu]
    cases d <;> simp_all [wideT]
  obtain ⟨r, hr, hiff⟩ := run_equalIn_deep (10000 - m) m T hk w D D (.agg xs.toArray) (.agg ys.toArray) la lb (hf _ hcx) (hf _ hcy) (by simpa [Value.cells] using hx) (by simpa [Value.cells] using hy)
  have e : 10000 - m + m = 10000 := by omega
  rw [e] at hr
  have : r = b := by rw [Bool.eq_iff_iff, hb]; exact hiff
  rw [← this]
  exact hr
theorem run_eqGuard {T : TypeId} {n : Nat} (hg : P.eqGuardType n T = false) (hn : P.depth = n) (op : BinOp) (x y : Operand) (xs ys : Array Value) (w : World) : (eqGuard op T x y (.agg xs) (.agg ys)).run P w = .ok () w := by
  subst hn
  unfold eqGuard
  cases op <;> simp [hg]
theorem wpl_eql (hgd : o.guard = none) (T T' : TypeId) (x y : Operand) (ho : o.op = .binOp .eql T x y T') (xs ys : List Value) (hx : a.eval x = .agg xs.toArray) (hy : a.eval y = .agg ys.toArray)
    (b : Bool) (hE : ∀ w, (Op.equal T (.agg xs.toArray) (.agg ys.toArray)).run P w = .ok b w) {n : Nat} (hg : P.eqGuardType n T = false) (hn : P.depth = n)
    (h : wpList P ops Q rest (a.put o.dst (.bool b)) W) : wpList P ops Q (o :: rest) a W := by
  refine Kd.event_run hgd ?_ h
  simp [execOp, ho, hx, hy, Sem.run_bind, run_eqGuard hg hn, binOp, hE]
theorem wpl_neq (hgd : o.guard = none) (T T' : TypeId) (x y : Operand) (ho : o.op = .binOp .neq T x y T') (xs ys : List Value) (hx : a.eval x = .agg xs.toArray) (hy : a.eval y = .agg ys.toArray)
    (b : Bool) (hE : ∀ w, (Op.equal T (.agg xs.toArray) (.agg ys.toArray)).run P w = .ok b w) {n : Nat} (hg : P.eqGuardType n T = false) (hn : P.depth = n)
    (h : wpList P ops Q rest (a.put o.dst (.bool (!b))) W) : wpList P ops Q (o :: rest) a W := by
  refine Kd.event_run hgd ?_ h
  simp [execOp, ho, hx, hy, Sem.run_bind, run_eqGuard hg hn, binOp, hE]
/-- An array in memory, as a slice: from the first element on, up to one. -/
theorem wpl_sliceTo (hgd : o.guard = none) (T : TypeId) (x hi : Operand) (ho : o.op = .slice T x none (some hi) none) (g : Nat) (hx : a.eval x = .pointer (some ⟨g, 0, none⟩)) {n : Nat} {e : TypeId} (hu : P.underlying T = some (.array n e)) (m : Nat) (hm : m ≤ n) (hhi : a.eval hi = .int .i64 m)
    (hsz : (P.info? e).map (·.size) = some 1) (h : wpList P ops Q rest (a.put o.dst (.slice (some ⟨g, 0, none⟩) m n)) W) : wpList P ops Q (o :: rest) a W := by
  obtain ⟨ie, hie, his⟩ := Option.map_eq_some_iff.1 hsz
  refine Kd.event_run hgd ?_ h
  have h0 : (0 : Int) ≤ m := by omega
  have h1 : (m : Int) ≤ n := by omega
  simp [execOp, ho, hx, hhi, Instr.sliceAt, Sem.run_bind, run_underlying hu W, Instr.sureAddr, Instr.sliceBounds, Instr.sliceBound, asIntOf, h0, h1, hm, sizeOf, typeInfo, hie, his]
  intro _; exact addr_at g 0 0
theorem wpl_sliceAll (hgd : o.guard = none) (T : TypeId) (x : Operand) (ho : o.op = .slice T x none none none) (g : Nat) (hx : a.eval x = .pointer (some ⟨g, 0, none⟩)) {n : Nat} {e : TypeId} (hu : P.underlying T = some (.array n e))
    (hsz : (P.info? e).map (·.size) = some 1) (h : wpList P ops Q rest (a.put o.dst (.slice (some ⟨g, 0, none⟩) n n)) W) : wpList P ops Q (o :: rest) a W := by
  obtain ⟨ie, hie, his⟩ := Option.map_eq_some_iff.1 hsz
  refine Kd.event_run hgd ?_ h
  simp [execOp, ho, hx, Instr.sliceAt, Sem.run_bind, run_underlying hu W, Instr.sureAddr, Instr.sliceBounds, asIntOf, sizeOf, typeInfo, hie, his]
  intro _; exact addr_at g 0 0
end
section
variable {P : Program}
/-- The cells of an array of whole numbers, as what is compared. -/
theorem mapM_some {α β : Type} (f : α → Option β) (g : α → β) : ∀ (l : List α), (∀ x ∈ l, f x = some (g x)) → l.mapM f = some (l.map g)
  | [], _ => rfl
  | x :: l, h => by
    rw [List.mapM_cons, h x (by simp), mapM_some f g l (fun y hy => h y (List.mem_cons_of_mem _ hy))]
    rfl
theorem lits_int {D : Nat} {e : TypeId} {k : IntKind} (hu : P.underlying e = some (.int k)) {x : Int} (hx : (Lit.int k x).wf = true) : P.keyLits (D + 1) e [.int k x] = some [.int k x] := by
  simp [Program.keyLits, hu, hx]
theorem lits_bool {D : Nat} {e : TypeId} (hu : P.underlying e = some .bool) (x : Bool) : P.keyLits (D + 1) e [.bool x] = some [.bool x] := by
  simp [Program.keyLits, hu]
theorem flatten_one {α : Type} (f : Nat → α) : ∀ l : List Nat, (l.map fun i => [f i]).flatten = l.map f
  | [] => rfl
  | x :: l => by simp [flatten_one f l]
theorem lits_ints {D : Nat} {T e : TypeId} {n : Nat} {k : IntKind} (hu : P.underlying T = some (.array n e)) (hue : P.underlying e = some (.int k)) (hce : P.cellsOf e = 1) (hcT : P.cellsOf T = n) {l : List Int} (hl : l.length = n)
    (hw : ∀ x ∈ l, (Lit.int k x).wf = true) : P.keyLits (D + 2) T (encs (Value.int k) l) = some (l.map (Lit.int k)) := by
  have hlen : (encs (Value.int k) l).length = P.cellsOf T := by rw [hcT, ← hl]; simp [encs]
  unfold Program.keyLits
  rw [hu]
  show (if _ then _ else _) = _
  rw [if_pos hlen]
  rw [mapM_some _ (fun i => [Lit.int k (l.getD i 0)]) (List.range n) (fun i hi => by
    have hin : i < l.length := by rw [hl]; exact List.mem_range.1 hi
    have e1 : ((encs (Value.int k) l).drop (i * P.cellsOf e)).take (P.cellsOf e) = [Value.int k (l.getD i 0)] := by
      rw [hce, Nat.mul_one]
      have hd : (encs (Value.int k) l).drop i = Value.int k (l.getD i 0) :: (encs (Value.int k) l).drop (i + 1) := by
        rw [List.drop_eq_getElem_cons (by simpa [encs] using hin)]
        congr 1
        have := encs_at (enc := Value.int k) (0 : Int) l i hin
        rw [List.getElem?_eq_getElem (by simpa [encs] using hin)] at this
        exact Option.some.inj this
      rw [hd]; rfl
    rw [e1]
    refine lits_int hue (hw _ ?_)
    rw [List.getD_eq_getElem?_getD, List.getElem?_eq_getElem hin]
    exact List.getElem_mem hin)]
  show some (((List.range n).map fun i => [Lit.int k (l.getD i 0)]).flatten) = _
  rw [flatten_one (fun i => Lit.int k (l.getD i 0))]
  congr 1
  apply List.ext_getElem (by simp [hl])
  intro i h1 h2
  simp at h1 h2
  simp [List.getD_eq_getElem?_getD, List.getElem?_eq_getElem h2]
theorem ints_lit_inj {k : IntKind} {l m : List Int} : l.map (Lit.int k) = m.map (Lit.int k) ↔ l = m := by
  constructor
  · intro h
    refine List.map_inj_right (fun a b e => ?_) |>.1 h
    exact (Lit.int.inj e).2
  · rintro rfl; rfl
end
/-! ### Blocks that stay -/
/-- What was there stays, and these blocks hold what they hold. -/
def Keeps (w0 : World) (bs : List (Nat × TypeId × List Value)) (w : World) : Prop := Below w0.heap.size w0 w ∧ ∀ b ∈ bs, Blk w b.1 b.2.1 b.2.2
section
variable {w0 w w' : World} {bs : List (Nat × TypeId × List Value)} {g : Nat} {t : TypeId} {cs : List Value}
theorem Keeps.refl (w : World) : Keeps w [] w := ⟨Below.refl _ _, fun _ h => by cases h⟩
theorem Keeps.below (h : Keeps w0 bs w) : Below w0.heap.size w0 w := h.1
theorem Keeps.size (h : Keeps w0 bs w) : w0.heap.size ≤ w.heap.size := h.1.size
theorem Keeps.step (h : Keeps w0 bs w) (hb : Below w.heap.size w w') : Keeps w0 bs w' := ⟨h.1.trans (hb.mono h.1.size), fun b hm => (h.2 b hm).below' hb⟩
theorem Keeps.drew (h : Keeps w0 bs w) : Keeps w0 bs w.drew := ⟨pw_below_drewN h.1 1, fun b hm => (h.2 b hm).drew⟩
theorem Keeps.drewN (h : Keeps w0 bs w) (n : Nat) : Keeps w0 bs (w.drewN n) := ⟨pw_below_drewN h.1 n, fun b hm => (h.2 b hm).drewN n⟩
theorem Keeps.fresh (h : Keeps w0 bs w) (hg : w.grownBy w' none) : Keeps w0 bs w' := ⟨below_new h.1 h.1.size hg, fun b hm => (h.2 b hm).grown hg (by simp)⟩
theorem Keeps.cons (h : Keeps w0 bs w) (hb : Blk w g t cs) : Keeps w0 ((g, t, cs) :: bs) w := ⟨h.1, fun b hm => by
  rcases List.mem_cons.1 hm with rfl | hm
  · exact hb
  · exact h.2 b hm⟩
/-- A new block. -/
theorem Keeps.new (h : Keeps w0 bs w) (hg : w.grownBy w' none) (hb : Blk w' g t cs) : Keeps w0 ((g, t, cs) :: bs) w' := (h.fresh hg).cons hb
theorem Keeps.head (h : Keeps w0 ((g, t, cs) :: bs) w) : Blk w g t cs := h.2 _ (List.mem_cons_self ..)
theorem Keeps.tail {b : Nat × TypeId × List Value} (h : Keeps w0 (b :: bs) w) : Keeps w0 bs w := ⟨h.1, fun b hm => h.2 b (List.mem_cons_of_mem _ hm)⟩
/-- A block of the call's own is written. -/
theorem Keeps.grown (h : Keeps w0 bs w) (hg : w.grownBy w' (some g)) (hB : w0.heap.size ≤ g) (hne : ∀ b ∈ bs, b.1 ≠ g) : Keeps w0 bs w' :=
  ⟨below_grown h.1 hB h.1.size hg, fun b hm => (h.2 b hm).grown hg (by simpa using hne b hm)⟩
theorem Keeps.put (h : Keeps w0 ((g, t, cs) :: bs) w) (hg : w.grownBy w' (some g)) (hB : w0.heap.size ≤ g) (hne : ∀ b ∈ bs, b.1 ≠ g) {ds : List Value} (hb : Blk w' g t ds) : Keeps w0 ((g, t, ds) :: bs) w' := (h.tail.grown hg hB hne).cons hb
theorem Keeps.put1 {b : Nat × TypeId × List Value} (h : Keeps w0 (b :: (g, t, cs) :: bs) w) (hg : w.grownBy w' (some g)) (hB : w0.heap.size ≤ g) (hn : b.1 ≠ g) (hne : ∀ b ∈ bs, b.1 ≠ g) {ds : List Value} (hb : Blk w' g t ds) : Keeps w0 (b :: (g, t, ds) :: bs) w' :=
  ⟨below_grown h.1 hB h.1.size hg, fun c hm => by
    rcases List.mem_cons.1 hm with rfl | hm
    · exact (h.2 _ (List.mem_cons_self ..)).grown hg (by simpa using hn)
    · rcases List.mem_cons.1 hm with rfl | hm
      · exact hb
      · exact (h.2 c (List.mem_cons_of_mem _ (List.mem_cons_of_mem _ hm))).grown hg (by simpa using hne c hm)⟩
theorem Keeps.lt {b : Nat × TypeId × List Value} (h : Keeps w0 bs w) (hm : b ∈ bs) : b.1 < w.heap.size := (h.2 b hm).lt
end
/-! ### Regions that draw their order -/
section
variable {P : Program} {ops : Array Oper} {S : World → Prop} {o : Oper} {a : Act}
theorem yields_load (hw : Region.wanted o (yielded ops a.tmps) = true) (T : TypeId) (p : Operand) (ho : o.op = .load T p) (g : Nat) (hp : a.eval p = .pointer (some ⟨g, 0, none⟩)) {t : TypeId} {cs : List Value} (hb : ∀ w, S w → Blk w g t cs) {d : TypeDesc} (hu : P.underlying T = some d) (hd : wideT d = true)
    (hi : (P.info? T).map (·.size) = some cs.length) : YieldsIf P ops S o (.agg cs.toArray) a := Or.inl ⟨hw, fun w hS => by
  have hl := run_loadVar_row w g t T cs.toArray (0, 0) d (hb w hS) hu (by cases d <;> simp_all [wideT]) (by rw [hi]; simp)
  unfold execOp
  simp only [ho, hp, Instr.loadAt, Instr.sureAddr, Sem.run_bind, Sem.run_pure, Result.andThen_ok, hl]⟩
theorem yields_eql (hw : Region.wanted o (yielded ops a.tmps) = true) (T T' : TypeId) (x y : Operand) (ho : o.op = .binOp .eql T x y T') (xs ys : List Value) (hx : a.eval x = .agg xs.toArray) (hy : a.eval y = .agg ys.toArray)
    (b : Bool) (hE : ∀ w, (Op.equal T (.agg xs.toArray) (.agg ys.toArray)).run P w = .ok b w) {n : Nat} (hg : P.eqGuardType n T = false) (hn : P.depth = n) : YieldsIf P ops S o (.bool b) a := Or.inl ⟨hw, fun w _ => by
  simp [execOp, ho, hx, hy, Sem.run_bind, run_eqGuard hg hn, binOp, hE]⟩
theorem yields_neq (hw : Region.wanted o (yielded ops a.tmps) = true) (T T' : TypeId) (x y : Operand) (ho : o.op = .binOp .neq T x y T') (xs ys : List Value) (hx : a.eval x = .agg xs.toArray) (hy : a.eval y = .agg ys.toArray)
    (b : Bool) (hE : ∀ w, (Op.equal T (.agg xs.toArray) (.agg ys.toArray)).run P w = .ok b w) {n : Nat} (hg : P.eqGuardType n T = false) (hn : P.depth = n) : YieldsIf P ops S o (.bool (!b)) a := Or.inl ⟨hw, fun w _ => by
  simp [execOp, ho, hx, hy, Sem.run_bind, run_eqGuard hg hn, binOp, hE]⟩
theorem yields_not (hw : Region.wanted o (yielded ops a.tmps) = false) : YieldsIf P ops S o undef a := Or.inr ⟨hw, rfl⟩
/-- An operation that may be taken first. -/
theorem wpAnyH_tk {Q : Exit → Act → World → Prop} {i : Nat} {v : Value} {fuel : Nat} {listed : Array Bool} {w : World} (N : Tmp) (hi : ops[i]? = some o) (hd : o.dst = some N)
    (hs : Region.noSelect ops = true) (hf : Region.free .any ops listed i = true) (hr : (Region.ready .any ops listed).contains i = true)
    (hQ : ∀ c a w, Q (.panic c) (a.put o.dst v) w → Q (.panic c) a w) (hy : YieldsIf P ops S o v a) (hS : S w)
    (h : wpAnyH P .any ops Q S fuel (listed.setIfInBounds i true) (a.put (some N) v) w) : wpAnyH P .any ops Q S (fuel + 1) listed a w :=
  wpAnyH_take hi hs hf hr hQ hy hS (by rw [hd]; exact h)
/-- An operation that comes up first. -/
theorem wpAnyH_one {Q : Exit → Act → World → Prop} {i : Nat} {fuel : Nat} {listed : Array Bool} {w : World} (hr : Region.ready .any ops listed = [i]) (hi : ops[i]? = some o) (h : ∀ K' : Act → World → Prop, Shut (∀ a w, S w → (S w → wpAnyH P .any ops Q S fuel (listed.setIfInBounds i true) a w) → K' a w) → if Region.wanted o (yielded ops a.tmps) = true then Oper.wp P o a w K' Q else K' (a.put o.dst undef) w) :
    wpAnyH P .any ops Q S (fuel + 1) listed a w := wpAnyH_ready hr (by simp) (AllReadyH.cons hi h AllReadyH.nil)
/-- A new variable, in a region that draws. -/
theorem step_alloc {Kc : Act → World → Prop} {Q : Exit → Act → World → Prop} {W : World} (N : Tmp) (hd : o.dst = some N) (T : TypeId) (ho : o.op = .alloc T) (z : Value) (hz : (P.info? T).map (·.zero) = some (some z)) (zs : List Value) (hzs : z.cells = zs.toArray)
    (h : ∀ w1 g, W.heap.size ≤ g → Blk w1 g T zs → W.grownBy w1 none → Kc (a.put (some N) (.pointer (some ⟨g, 0, none⟩))) w1) : Oper.wp P o a W Kc Q := by
  obtain ⟨i, hi, hiz⟩ := Option.map_eq_some_iff.1 hz
  have hrun : (execOp a.eval o).run P W = .ok (.value (.pointer (some ⟨W.heap.size, 0, none⟩))) (W.alloc (.cells zs.toArray T)) := by
    simp [execOp, ho, Instr.alloc, zeroValue, typeInfo, hi, hiz, newVar, newRow, hzs]
  have h1 := h _ _ (Nat.le_refl _) (Blk.new W T zs) (World.grownBy_alloc W _ none)
  rw [← hd] at h1
  unfold Oper.wp
  rw [hrun]
  exact h1
theorem step_storeAll {Kc : Act → World → Prop} {Q : Exit → Act → World → Prop} {W : World} (hN : o.dst = none) (T : TypeId) (p x : Operand) (ho : o.op = .store T p x) (g : Nat) (hp : a.eval p = .pointer (some ⟨g, 0, none⟩)) (ds : List Value) (hx : a.eval x = .agg ds.toArray)
    (hi : (P.info? T).map (·.size) = some ds.length) (h1 : ∀ v ∈ ds, v.oneCell' = true) {t : TypeId} {cs : List Value} (hb : Blk W g t cs) (hl : cs.length = ds.length)
    (h : ∀ w1, Blk w1 g t ds → W.grownBy w1 (some g) → w1.heap.size = W.heap.size → Kc a w1) : Oper.wp P o a W Kc Q := by
  obtain ⟨i, hii, his⟩ := Option.map_eq_some_iff.1 hi
  have hst := run_storeCells_at P g 0 t ds 0 cs.toArray W hb (by simp; omega) h1
  have hrun : (execOp a.eval o).run P W = .ok .skip (W.setRow g (cs.take 0 ++ ds ++ cs.drop (0 + ds.length)).toArray) := by
    simp only [Nat.add_zero] at hst
    simp [execOp, ho, hp, hx, Instr.storeAt, Instr.sureAddr, storeVar, sizeOf, typeInfo, hii, his, Value.cells, hst]
  have e : cs.take 0 ++ ds ++ cs.drop (0 + ds.length) = ds := by rw [List.take_zero, List.nil_append, List.drop_of_length_le (by omega), List.append_nil]
  rw [e] at hrun
  have h2 := h _ (setRow_heap W g _ _ t _ hb) (grown_setRow _ _ _) (by simp)
  unfold Oper.wp
  rw [hrun]
  have e2 : a.put o.dst undef = a := by rw [hN]; rfl
  show Kc (a.put o.dst undef) _
  rw [e2]
  exact h2
end
end Go.Proofs.YtagpldkgkchfcaaDoor.Arr
