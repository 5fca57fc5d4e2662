/- Layer 17: what blocks were, in memory: the operations on the maps. -/
import Derived.Test.YtipbgldfomejpaaSnapMem
namespace Go.Proofs.Ytipbgldfomejpaa.Snap
set_option linter.unusedSimpArgs false
set_option linter.unusedVariables false
open Go.RowKit Go.Proofs.YtipbgldfomejpaaW.PrintWords Go.Proofs.YtipbgldfomejpaaW.PrintLast Go.Proofs.YtipbgldfomejpaaW.PrintMore Arr

theorem zeroV29 (w : World) : (zeroValue 29).run Try.prog w = .ok (.agg (oldC old0).toArray) w := by
  obtain ⟨i, hi, hz⟩ := Option.map_eq_some_iff.1 zero29
  simp [zeroValue, typeInfo, hi, hz]
theorem zeroV3 (w : World) : (zeroValue 3).run Try.prog w = .ok (.int .i64 0) w := by
  obtain ⟨i, hi, hz⟩ := Option.map_eq_some_iff.1 info3
  simp only [Prod.mk.injEq] at hz
  simp [zeroValue, typeInfo, hi, hz.1]
def LastMap (w : World) (lb n : Nat) (f : Int → Int) : Prop := ∃ D, w.ownsMap Try.prog 3 (plainElem (H := Value) Try.prog 3) lb n D ∧ ∀ b, (Lit.int .i64 b).wf = true → D.atKey (.int .i64 b) (.lit (.int .i64 0)) = .lit (.int .i64 (f b))
section
variable {w w1 : World} {ob lb n : Nat} {L : Cont} {f : Int → Int}
theorem OldMap.lt (h : OldMap w ob n L) : ob < w.heap.size := by obtain ⟨es, h1, _⟩ := h; exact h1.lt
theorem LastMap.lt (h : LastMap w lb n f) : lb < w.heap.size := by obtain ⟨D, h1, _⟩ := h; exact h1.lt
theorem OldMap.kept {row : Option Nat} (h : OldMap w ob n L) (hg : w.grownBy w1 row) (hne : some ob ≠ row) : OldMap w1 ob n L := by
  obtain ⟨es, h1, h2⟩ := h; exact ⟨es, h1.kept hg hne, h2⟩
theorem LastMap.kept {row : Option Nat} (h : LastMap w lb n f) (hg : w.grownBy w1 row) (hne : some lb ≠ row) : LastMap w1 lb n f := by
  obtain ⟨D, h1, h2⟩ := h; exact ⟨D, h1.kept hg hne, h2⟩
theorem OldMap.mono (h : OldMap w ob n L) {m : Nat} (hm : n ≤ m) : OldMap w ob m L := by obtain ⟨es, h1, h2⟩ := h; exact ⟨es, h1.mono hm, h2⟩
theorem LastMap.mono (h : LastMap w lb n f) {m : Nat} (hm : n ≤ m) : LastMap w lb m f := by obtain ⟨es, h1, h2⟩ := h; exact ⟨es, h1.mono hm, h2⟩
theorem grown_of_heap {row : Option Nat} (hs : w.heap.size ≤ w1.heap.size) (h : w1.os = w.os) (h2 : w1.tape = w.tape) (h3 : w1.output = w.output) (hb : ∀ k, k < w.heap.size → some k ≠ row → w1.heap[k]? = w.heap[k]?) : w.grownBy w1 row := ⟨h, h2, h3, hs, hb⟩
theorem OldMap.heap (h : OldMap w ob n L) (he : w1.heap[ob]? = w.heap[ob]?) : OldMap w1 ob n L := by
  obtain ⟨es, ⟨a, c, hb, F, hs, hD⟩, h2⟩ := h
  exact ⟨es, ⟨a, c, he.trans hb, F, hs, hD⟩, h2⟩
theorem LastMap.heap (h : LastMap w lb n f) (he : w1.heap[lb]? = w.heap[lb]?) : LastMap w1 lb n f := by
  obtain ⟨D, ⟨a, c, hb, F, hs, hD⟩, h2⟩ := h
  exact ⟨D, ⟨a, c, he.trans hb, F, hs, hD⟩, h2⟩
theorem OldMap.obj (h : OldMap w ob n L) : ∃ es c, w.heap[ob]? = some (.map es c) := by obtain ⟨_, ⟨a, c, hb, _⟩, _⟩ := h; exact ⟨a, c, hb⟩
theorem LastMap.obj (h : LastMap w lb n f) : ∃ es c, w.heap[lb]? = some (.map es c) := by obtain ⟨_, ⟨a, c, hb, _⟩, _⟩ := h; exact ⟨a, c, hb⟩
theorem OldMap.ne_blk (h : OldMap w ob n L) {g : Nat} {t : TypeId} {cs : List Value} (hb : Blk w g t cs) : ob ≠ g := fun e => by
  obtain ⟨a, c, h1⟩ := h.obj
  subst e
  unfold Blk at hb
  rw [h1] at hb
  cases hb
theorem LastMap.ne_blk (h : LastMap w lb n f) {g : Nat} {t : TypeId} {cs : List Value} (hb : Blk w g t cs) : lb ≠ g := fun e => by
  obtain ⟨a, c, h1⟩ := h.obj
  subst e
  unfold Blk at hb
  rw [h1] at hb
  cases hb
def look (L : Cont) (b k : Int) : Value := .tuple #[.agg (oldC ((fnd L (b, k)).getD old0)).toArray, .bool (fnd L (b, k)).isSome]
theorem OldMap.look (h : OldMap w ob n L) {b k : Int} (hb : (Lit.int .i64 b).wf = true) (hk : (Lit.int .i64 k).wf = true) : (Instr.lookup 71 (.map (some ob)) (keyV b k) true).run Try.prog w = .ok (Snap.look L b k) w := by
  obtain ⟨es, h1, h2⟩ := h
  obtain ⟨v, ps, hrun, hv⟩ := h1.look_ok law76 Try.underlying71 (zeroV29 w) (zd := .held (.agg (oldC old0).toArray)) (zp := []) rfl (keyOf76 hb hk)
  rw [h2.at hb hk] at hv
  injection hv with hv
  injection hv with hv _
  injection hv with hv
  rw [hrun, h2.has hb hk, hv]
  rfl
theorem OldMap.good (h : OldMap w ob n L) {k : Key} {o : Old} (hk : fnd L k = some o) : o.data.length = 32 := by
  obtain ⟨es, _, h2⟩ := h
  exact (h2.good _ (fnd_mem hk)).2.2
theorem OldMap.len (h : OldMap w ob n L) (ty : TypeId) : (Builtin.len_ #[71] ty #[.map (some ob)]).run Try.prog w = .ok (.int .i64 L.length) w := by
  obtain ⟨es, h1, h2⟩ := h
  rw [h1.len Try.underlying71 ty, h2.size]
theorem OldMap.update (h : OldMap w ob n L) {b k : Int} {o : Old} (hb : (Lit.int .i64 b).wf = true) (hk : (Lit.int .i64 k).wf = true) (ho : o.data.length = 32) (hno : fnd L (b, k) = none) (hn : n < maxLen) :
    ∃ w', (Instr.mapUpdate 71 (.map (some ob)) (keyV b k) (.agg (oldC o).toArray)).run Try.prog w = .ok () w' ∧ OldMap w' ob (n + 1) (L ++ [((b, k), o)]) ∧ w.grownBy w' (some ob) := by
  obtain ⟨es, h1, h2⟩ := h
  obtain ⟨w', hrun, h3, hg⟩ := h1.update law76 Try.underlying71 hn (keyOf76 hb hk) (val := .agg (oldC o).toArray) (d := .held (.agg (oldC o).toArray)) (ps := []) rfl
  obtain ⟨es', e, h4⟩ := h2.put hb hk ho hno
  rw [e] at h3
  exact ⟨w', hrun, ⟨es', h3, h4⟩, hg⟩
theorem LastMap.look (h : LastMap w lb n f) {b : Int} (hb : (Lit.int .i64 b).wf = true) : (Instr.lookup 72 (.map (some lb)) (.int .i64 b) false).run Try.prog w = .ok (.int .i64 (f b)) w := by
  obtain ⟨D, h1, h2⟩ := h
  obtain ⟨c, hrun, hat, _⟩ := h1.lookup_int law3 Try.underlying72 Try.underlying3 (zeroV3 w) (keyOf3 hb)
  rw [h2 b hb] at hat
  injection hat with hat
  injection hat with _ hat
  rw [hrun, hat]
theorem LastMap.update (h : LastMap w lb n f) {b v : Int} (hb : (Lit.int .i64 b).wf = true) (hv : (Lit.int .i64 v).wf = true) (hn : n < maxLen) :
    ∃ w', (Instr.mapUpdate 72 (.map (some lb)) (.int .i64 b) (.int .i64 v)).run Try.prog w = .ok () w' ∧ LastMap w' lb (n + 1) (fun x => if x = b then v else f x) ∧ w.grownBy w' (some lb) := by
  obtain ⟨D, h1, h2⟩ := h
  obtain ⟨w', hrun, h3, hg⟩ := h1.update law3 Try.underlying72 hn (keyOf3 hb) (plainElem_int (H := Value) Try.underlying3 hv)
  refine ⟨w', hrun, ⟨_, h3, fun x hx => ?_⟩, hg⟩
  show _ = DataW.lit (.int .i64 (if x = b then v else f x))
  by_cases e : x = b
  · subst e
    rw [Maps.atKey_put_same h1.isMap (show WideAt.IsKeyLit (.int .i64 x) from trivial), if_pos rfl]
  · rw [Maps.atKey_put_other (fun e' => e (by injection e')), if_neg e]
    exact h2 x hx
end
theorem OldMap.made (w : World) : OldMap (w.alloc (.map #[] 0)) w.heap.size 0 [] :=
  ⟨[], World.ownsMap_made w Try.prog 76 RV, ⟨List.Perm.refl _, List.nodup_nil, fun _ h => by cases h⟩⟩
theorem LastMap.made (w : World) : LastMap (w.alloc (.map #[] 0)) w.heap.size 0 (fun _ => 0) :=
  ⟨_, World.ownsMap_made w Try.prog 3 _, fun b _ => rfl⟩
section
variable {ops : Array Oper} {rest : List Oper} {o : Oper} {a : Act} {Q : Exit → Act → World → Prop} {W : World} {ob lb n : Nat} {L : Cont} {f : Int → Int} {Kc : Act → World → Prop} {S : World → Prop}
abbrev lookV (ov : Old) (ok : Bool) : Value := .tuple #[.agg (oldC ov).toArray, .bool ok]
theorem yields_look71 (hw : Region.wanted o (yielded ops a.tmps) = true) (m x : Operand) (ho : o.op = .lookup 71 m x true) (b k : Int) (hm : a.eval m = .map (some ob)) (hx : a.eval x = keyV b k) (hb : (Lit.int .i64 b).wf = true) (hk : (Lit.int .i64 k).wf = true) (hS : ∀ w, S w → OldMap w ob n L) (ov : Old) (ok : Bool) (h1 : (fnd L (b, k)).getD old0 = ov) (h2 : (fnd L (b, k)).isSome = ok) : YieldsIf Try.prog ops S o (lookV ov ok) a :=
  Or.inl ⟨hw, fun w h => by
    have := (hS w h).look hb hk
    unfold look at this
    rw [h1, h2] at this
    simp [execOp, ho, hm, hx, this]⟩
theorem wpl_look71 (hgd : o.guard = none) (m x : Operand) (ho : o.op = .lookup 71 m x true) (b k : Int) (hm : a.eval m = .map (some ob)) (hx : a.eval x = keyV b k) (hb : (Lit.int .i64 b).wf = true) (hk : (Lit.int .i64 k).wf = true) (h : OldMap W ob n L) (ov : Old) (ok : Bool) (h1 : (fnd L (b, k)).getD old0 = ov) (h2 : (fnd L (b, k)).isSome = ok)
    (hK : wpList Try.prog ops Q rest (a.put o.dst (lookV ov ok)) W) : wpList Try.prog ops Q (o :: rest) a W :=
  Kd.event_run hgd (by have := h.look hb hk; unfold look at this; rw [h1, h2] at this; simp [execOp, ho, hm, hx, this]) hK
theorem wpl_look72 (hgd : o.guard = none) (m x : Operand) (ho : o.op = .lookup 72 m x false) (b : Int) (hm : a.eval m = .map (some lb)) (hx : a.eval x = .int .i64 b) (hb : (Lit.int .i64 b).wf = true) (h : LastMap W lb n f)
    (hK : wpList Try.prog ops Q rest (a.put o.dst (.int .i64 (f b))) W) : wpList Try.prog ops Q (o :: rest) a W :=
  Kd.event_run hgd (by have := h.look hb; simp [execOp, ho, hm, hx, this]) hK
theorem step_upd71 (hN : o.dst = none) (m x v : Operand) (ho : o.op = .mapUpdate 71 m x v) (b k : Int) (od : Old) (hm : a.eval m = .map (some ob)) (hx : a.eval x = keyV b k) (hv : a.eval v = .agg (oldC od).toArray) (hb : (Lit.int .i64 b).wf = true) (hk : (Lit.int .i64 k).wf = true) (hl : od.data.length = 32) (hno : fnd L (b, k) = none) (hn : n < maxLen) (h : OldMap W ob n L)
    (hK : ∀ w1, OldMap w1 ob (n + 1) (L ++ [((b, k), od)]) → W.grownBy w1 (some ob) → Kc a w1) : Oper.wp Try.prog o a W Kc Q := by
  obtain ⟨w1, hrun, h1, hg⟩ := h.update hb hk hl hno hn
  have hr : (execOp a.eval o).run Try.prog W = .ok .skip w1 := by simp [execOp, ho, hm, hx, hv, hrun]
  unfold Oper.wp
  rw [hr]
  have e : a.put o.dst undef = a := by rw [hN]; rfl
  show Kc (a.put o.dst undef) _
  rw [e]
  exact hK w1 h1 hg
theorem step_upd72 (hN : o.dst = none) (m x v : Operand) (ho : o.op = .mapUpdate 72 m x v) (b k : Int) (hm : a.eval m = .map (some lb)) (hx : a.eval x = .int .i64 b) (hv : a.eval v = .int .i64 k) (hb : (Lit.int .i64 b).wf = true) (hk : (Lit.int .i64 k).wf = true) (hn : n < maxLen) (h : LastMap W lb n f)
    (hK : ∀ w1, LastMap w1 lb (n + 1) (fun x => if x = b then k else f x) → W.grownBy w1 (some lb) → Kc a w1) : Oper.wp Try.prog o a W Kc Q := by
  obtain ⟨w1, hrun, h1, hg⟩ := h.update hb hk hn
  have hr : (execOp a.eval o).run Try.prog W = .ok .skip w1 := by simp [execOp, ho, hm, hx, hv, hrun]
  unfold Oper.wp
  rw [hr]
  have e : a.put o.dst undef = a := by rw [hN]; rfl
  show Kc (a.put o.dst undef) _
  rw [e]
  exact hK w1 h1 hg
end
end Go.Proofs.Ytipbgldfomejpaa.Snap
