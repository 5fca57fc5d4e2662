/- A slice of one, laid. Of whatever program. -/
import Derived.Test.YtagpldkgkchfcaaDoorStep
namespace Go.Proofs.YtagpldkgkchfcaaDoor.Arr
set_option linter.unusedSimpArgs false
set_option linter.unusedVariables false
open Go.RowKit Go.Proofs.YtagpldkgkchfcaaDoorW.PrintWords Go.Proofs.YtagpldkgkchfcaaDoorW.PrintLast Go.Proofs.YtagpldkgkchfcaaDoorW.PrintMore

theorem over_list : ∀ (l : List Value) (k : Nat) (z : Array Value), z.size = k + l.length → ((l.zipIdx k).foldl (fun cs (p : Value × Nat) => cs.setIfInBounds p.2 p.1) z).toList = z.toList.take k ++ l
  | [], k, z, h => by
    simp only [List.zipIdx_nil, List.foldl_nil, List.append_nil]
    rw [List.take_of_length_le (by rw [Array.length_toList]; simp at h; omega)]
  | x :: l, k, z, h => by
    rw [List.zipIdx_cons, List.foldl_cons, over_list l (k + 1) _ (by simp at h ⊢; omega)]
    simp only [Array.toList_setIfInBounds, List.length_cons] at h ⊢
    rw [List.take_set, List.take_add_one, List.getElem?_eq_getElem (by simp; omega)]
    simp only [Option.toList_some]
    rw [List.set_append_right _ _ (by rw [List.length_take]; omega), List.length_take]
    rw [show k - min k z.toList.length = 0 by rw [Array.length_toList]; omega]
    simp
theorem over_all (cs z : Array Value) (h : z.size = cs.size) : cs.zipIdx.foldl (fun a (p : Value × Nat) => a.setIfInBounds (0 + p.2) p.1) z = cs := by
  have h1 := over_list cs.toList 0 z (by simp [h])
  rw [List.take_zero, List.nil_append] at h1
  simp only [Nat.zero_add]
  rw [← Array.foldl_toList, Array.toList_zipIdx]
  exact Array.toList_inj.1 h1
section
variable {P : Program} {ops : Array Oper} {rest : List Oper} {o : Oper} {a : Act} {Q : Exit → Act → World → Prop} {W : World}
theorem lit_run (T e : TypeId) (x : Operand) (ho : o.op = .buildSlice T 1 #[(0, x)]) (hu : P.underlying T = some (.slice e)) (k b : Nat) (z : Value) (hi : (P.info? e).map (fun i => (i.zero, i.size, i.bytes)) = some (some z, k, b)) (hk0 : 0 < k) (hk : k ≤ 2 ^ 24) (cs : List Value) (hl : cs.length = k) (hx : a.eval x = .agg cs.toArray) :
    (execOp a.eval o).run P W = .ok (.value (.slice (some ⟨W.heap.size, 0, none⟩) 1 1)) (W.alloc (.cells cs.toArray e)) := by
  obtain ⟨i, hi1, hi2⟩ := Option.map_eq_some_iff.1 hi
  simp only [Prod.mk.injEq] at hi2
  obtain ⟨hz1, hk1, hb1⟩ := hi2
  have hu' : (underlying T).run P W = .ok (.slice e) W := by simp [underlying, Sem.run, hu]
  subst hk1
  have hfill : ∀ zz : Array Value, zz.size = i.size → Instr.fill (fun j => some (j * i.size, i.size)) zz [(0, .agg cs.toArray)] = some cs.toArray := fun zz hzz => by
    have h1 := over_all cs.toArray zz (by rw [hzz, List.size_toArray, hl])
    have e1 : (Value.agg cs.toArray).cells = cs.toArray := rfl
    have e2 : cs.toArray.size = i.size := by rw [List.size_toArray, hl]
    unfold Instr.fill
    simp only [e1, e2, Nat.zero_mul, Nat.zero_add, hzz, ne_eq, not_true, decide_false, Bool.false_or, gt_iff_lt, Nat.lt_irrefl]
    simp only [Nat.zero_add] at h1
    simp only [Bool.false_eq_true, if_false, h1, Instr.fill]
  have hk' : ¬ (16777216 < i.size) := by omega
  have hk0' : ¬ (i.size = 0) := by omega
  simp [execOp, ho, hx, Instr.buildSlice, run_underlying hu, sizeOf, typeInfo, hi1, hk', hk0', hz1, zeroValue, newRow, hfill]
theorem wpl_lit (hgd : o.guard = none) (T e : TypeId) (x : Operand) (ho : o.op = .buildSlice T 1 #[(0, x)]) (hu : P.underlying T = some (.slice e)) (k b : Nat) (z : Value) (hi : (P.info? e).map (fun i => (i.zero, i.size, i.bytes)) = some (some z, k, b)) (hk0 : 0 < k) (hk : k ≤ 2 ^ 24) (cs : List Value) (hl : cs.length = k) (hx : a.eval x = .agg cs.toArray)
    (h : wpList P ops Q rest (a.put o.dst (.slice (some ⟨W.heap.size, 0, none⟩) 1 1)) (W.alloc (.cells cs.toArray e))) : wpList P ops Q (o :: rest) a W :=
  Kd.event_run hgd (lit_run T e x ho hu k b z hi hk0 hk cs hl hx) h
theorem step_lit {Kc : Act → World → Prop} (N : Tmp) (hd : o.dst = some N) (T e : TypeId) (x : Operand) (ho : o.op = .buildSlice T 1 #[(0, x)]) (hu : P.underlying T = some (.slice e)) (k b : Nat) (z : Value) (hi : (P.info? e).map (fun i => (i.zero, i.size, i.bytes)) = some (some z, k, b)) (hk0 : 0 < k) (hk : k ≤ 2 ^ 24) (cs : List Value) (hl : cs.length = k) (hx : a.eval x = .agg cs.toArray)
    (h : Kc (a.put (some N) (.slice (some ⟨W.heap.size, 0, none⟩) 1 1)) (W.alloc (.cells cs.toArray e))) : Oper.wp P o a W Kc Q := by
  unfold Oper.wp
  rw [lit_run T e x ho hu k b z hi hk0 hk cs hl hx, ← hd] at *
  exact h
end
end Go.Proofs.YtagpldkgkchfcaaDoor.Arr
