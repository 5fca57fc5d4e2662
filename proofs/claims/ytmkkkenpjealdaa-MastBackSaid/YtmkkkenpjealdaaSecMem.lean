/- Rows of bytes of a call's own, some blocks being none of theirs; sectors as variables. -/
import Derived.Test.YtmkkkenpjealdaaSecWord
namespace Go.Proofs.Ytmkkkenpjealdaa.SecMem
open Go.RowKit Go.Proofs.YtmkkkenpjealdaaW.PrintWords Go.Proofs.YtmkkkenpjealdaaW.PrintLast Go.Proofs.YtmkkkenpjealdaaW.PrintMore PlainWord CrcPlain PlainSec CrcMem CrcWalks CrcRef Arr SecWord

theorem zero28 : (Try.prog.info? 28).map (·.zero) = some (some (.agg (encs (Value.int .u8) (zeros 64)).toArray)) := by kernel_rfl
theorem size28 : (Try.prog.info? 28).map (·.size) = some 64 := by kernel_rfl
theorem size5 : (Try.prog.info? 5).map (·.size) = some 1 := by kernel_rfl
theorem enc1 (l : List Int) : ∀ v ∈ encs (Value.int .u8) l, v.oneCell' = true := by
  intro v hv
  simp only [encs, List.mem_map] at hv
  obtain ⟨x, _, rfl⟩ := hv
  rfl
theorem encs_length {α : Type} (enc : α → Value) (l : List α) : (encs enc l).length = l.length := by simp [encs]
section
variable {ops : Array Oper} {rest : List Oper} {o : Oper} {a : Act} {Q : Exit → Act → World → Prop} {w0 W : World} {B : Nat}
/-- Append of a byte: what is no block of the row stays. -/
theorem app_u8o (hgd : o.guard = none) (s x : Operand) (ho : o.op = .call { callee := .builtin .append, args := #[s, x], argTypes := #[30, 30] })
    (v : Value) (l : List Int) (y : Int) (ok : Nat → Prop) (hs : a.eval s = v) (hx : a.eval x = .slice (some ⟨W.heap.size, 0, none⟩) 1 1) (HO : Kd.R (Kd.int .u8) 5 W B ok v l) (hf : ∀ k, W.heap.size ≤ k → ok k) (HB : Below B w0 W) (hb : B ≤ W.heap.size) (hl : l.length < 140737488355328)
    (h : ∀ v1 w1, Kd.R (Kd.int .u8) 5 w1 B ok v1 (l ++ [y]) → Below B w0 w1 → W.heap.size ≤ w1.heap.size → (∀ g, ¬ ok g → g < W.heap.size → w1.heap[g]? = W.heap[g]?) → wpList Try.prog ops Q rest (a.put o.dst v1) w1) : wpList Try.prog ops Q (o :: rest) a (W.alloc (.cells #[.int .u8 y] 5)) :=
  Kd.R_append (Kd.int .u8) (w0 := w0) B hgd s x 30 5 (.int .u8 0) 1 ho Try.underlying30 info5 rfl (by decide) (by omega) v l y [.int .u8 y] ok (fun _ => False) hs hx rfl (fun _ hk => hk.elim) hf HO HB hb (by omega)
    fun v1 w1 h1 h2 h3 _ => h v1 w1 h1 h2 h3.size (fun g hg hlt => h3.block g hlt (fun e => hg (HO.1 g e.symm)))
theorem apps_u8o (hgd : o.guard = none) (s x : Operand) (ho : o.op = .call { callee := .builtin .append, args := #[s, x], argTypes := #[30, 30] })
    (v : Value) (l : List Int) (A : Option Addr) (m : List Int) (c : Nat) (ok : Nat → Prop) (hs : a.eval s = v) (hx : a.eval x = .slice A m.length c) (HO : Kd.R (Kd.int .u8) 5 W B ok v l) (hf : ∀ k, W.heap.size ≤ k → ok k) (HR : CB W A m.length m) (HB : Below B w0 W) (hb : B ≤ W.heap.size) (hl : l.length + m.length < 140737488355328)
    (h : ∀ v1 w1, Kd.R (Kd.int .u8) 5 w1 B ok v1 (l ++ m) → Below B w0 w1 → W.heap.size ≤ w1.heap.size → (∀ g, ¬ ok g → g < W.heap.size → w1.heap[g]? = W.heap[g]?) → wpList Try.prog ops Q rest (a.put o.dst v1) w1) : wpList Try.prog ops Q (o :: rest) a W :=
  Kd.R_append_rows (Kd.int .u8) (w0 := w0) B hgd s x 30 5 (.int .u8 0) 1 ho Try.underlying30 info5 rfl (by decide) (by omega) v l m A m.length c ok (fun _ => False) hs hx HO HR (fun _ _ h => h) (fun _ hk => hk.elim) hf HB hb (by omega)
    fun v1 w1 h1 h2 h3 _ => h v1 w1 h1 h2 h3.size (fun g hg hlt => h3.block g hlt (fun e => hg (HO.1 g e.symm)))
theorem size_l {l : List Int} (hl : l.length = 64) : (Try.prog.info? 28).map (·.size) = some (encs (Value.int .u8) l).toArray.size := by rw [size28, List.size_toArray, encs_length, hl]
/-- A sector read out of a variable. -/
theorem load28 (hgd : o.guard = none) (p : Operand) (ho : o.op = .load 28 p) (g : Nat) (hp : a.eval p = .pointer (some ⟨g, 0, none⟩)) {T : TypeId} {l : List Int} (hb : BB W g T l) (hl : l.length = 64)
    (h : wpList Try.prog ops Q rest (a.put o.dst (.agg (encs (Value.int .u8) l).toArray)) W) : wpList Try.prog ops Q (o :: rest) a W :=
  wpList_load_row hgd 28 p ho g hp T _ (0, 0) _ hb Try.underlying28 rfl (size_l hl) h
/-- A sector laid in a variable. -/
theorem store28 (hgd : o.guard = none) (hN : o.dst = none) (p x : Operand) (ho : o.op = .store 28 p x) (g : Nat) (hp : a.eval p = .pointer (some ⟨g, 0, none⟩)) (l : List Int) (hx : a.eval x = .agg (encs (Value.int .u8) l).toArray) (hl : l.length = 64) {T : TypeId} {m : List Int} (hb : BB W g T m) (hm : m.length = 64)
    (h : ∀ w1, BB w1 g T l → W.grownBy w1 (some g) → w1.heap.size = W.heap.size → wpList Try.prog ops Q rest a w1) : wpList Try.prog ops Q (o :: rest) a W :=
  wpl_store hgd hN 28 p x ho g 0 hp (encs (Value.int .u8) l) hx (by rw [size28, encs_length, hl]) (enc1 l) hb (by rw [encs_length, encs_length]; omega)
    fun w1 h1 h2 h3 => h w1 (by
      have e : (encs (Value.int .u8) m).take 0 ++ encs (Value.int .u8) l ++ (encs (Value.int .u8) m).drop (0 + (encs (Value.int .u8) l).length) = encs (Value.int .u8) l := by
        rw [List.take_zero, List.nil_append, List.drop_of_length_le (by rw [encs_length, encs_length]; omega), List.append_nil]
      rw [e] at h1
      exact h1) h2 h3
/-- A new sector, noughts. -/
theorem alloc28 (hgd : o.guard = none) (ho : o.op = .alloc 28) (h : ∀ w1 g, W.heap.size ≤ g → BB w1 g 28 (zeros 64) → W.grownBy w1 none → wpList Try.prog ops Q rest (a.put o.dst (.pointer (some ⟨g, 0, none⟩))) w1) : wpList Try.prog ops Q (o :: rest) a W :=
  wpl_alloc hgd 28 ho _ zero28 _ rfl h
/-- A sector handed in, laid in a variable. -/
theorem box28 (hgd : o.guard = none) (x : Operand) (ho : o.op = .box 28 x) (l : List Int) (hx : a.eval x = .agg (encs (Value.int .u8) l).toArray) (h : ∀ w1 g, W.heap.size ≤ g → BB w1 g 28 l → W.grownBy w1 none → wpList Try.prog ops Q rest (a.put o.dst (.pointer (some ⟨g, 0, none⟩))) w1) : wpList Try.prog ops Q (o :: rest) a W :=
  wpl_box hgd 28 x ho _ hx _ rfl h
theorem sliceAll28 (hgd : o.guard = none) (x : Operand) (ho : o.op = .slice 28 x none none none) (g : Nat) (hx : a.eval x = .pointer (some ⟨g, 0, none⟩)) (h : wpList Try.prog ops Q rest (a.put o.dst (.slice (some ⟨g, 0, none⟩) 64 64)) W) : wpList Try.prog ops Q (o :: rest) a W :=
  wpl_sliceAll hgd 28 x ho g hx Try.underlying28 size5 h
theorem sliceTo28 (hgd : o.guard = none) (x hi : Operand) (ho : o.op = .slice 28 x none (some hi) none) (g : Nat) (hx : a.eval x = .pointer (some ⟨g, 0, none⟩)) (m : Nat) (hm : m ≤ 64) (hhi : a.eval hi = .int .i64 m) (h : wpList Try.prog ops Q rest (a.put o.dst (.slice (some ⟨g, 0, none⟩) m 64)) W) : wpList Try.prog ops Q (o :: rest) a W :=
  wpl_sliceTo hgd 28 x hi ho g hx Try.underlying28 m hm hhi size5 h
end
section
variable {fn : Func} {p u : Tmp} {tmps : Array Value} {w : World} {g : Nat} {T : TypeId} {l : List Int}
theorem ret28 (h : fn.results = #[.cell p 28]) (hp : tmps.getD p undef = .pointer (some ⟨g, 0, none⟩)) (hb : BB w g T l) (hl : l.length = 64) : (results fn tmps).run Try.prog w = .ok (.agg (encs (Value.int .u8) l).toArray) w :=
  results_cell_row h tmps w g T _ (0, 0) _ hp hb Try.underlying28 rfl (size_l hl)
end
end Go.Proofs.Ytmkkkenpjealdaa.SecMem
