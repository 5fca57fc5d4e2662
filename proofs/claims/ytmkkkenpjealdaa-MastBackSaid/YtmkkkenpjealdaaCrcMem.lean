/- Rows of bytes and of truths that a call makes: the laws of append and make at this seat's types. -/
import Derived.Test.YtmkkkenpjealdaaProg
import Derived.Test.YtmkkkenpjealdaaWMore
import Derived.Test.YtmkkkenpjealdaaWN
import Derived.WalkKit
import Derived.WalkSpells
import Derived.WalkLawsBesides
import Derived.KernelRfl
namespace Go.Proofs.Ytmkkkenpjealdaa.CrcMem
open Go.RowKit Go.Proofs.YtmkkkenpjealdaaW.PrintWords Go.Proofs.YtmkkkenpjealdaaW.PrintLast Go.Proofs.YtmkkkenpjealdaaW.PrintMore

theorem info5 : (Try.prog.info? 5).map (fun i => (i.zero, i.size, i.bytes)) = some (some (.int .u8 0), 1, 1) := by kernel_rfl
theorem info4 : (Try.prog.info? 4).map (fun i => (i.zero, i.size, i.bytes)) = some (some (.bool false), 1, 1) := by kernel_rfl

/-- A row of bytes of the call's own (blocks from B on). -/
abbrev RB (w : World) (B : Nat) (v : Value) (l : List Int) : Prop := Kd.R (Kd.int .u8) 5 w B (fun _ => True) v l
/-- A row of truths of the call's own. -/
abbrev RT (w : World) (B : Nat) (v : Value) (l : List Bool) : Prop := Kd.R Kd.bool 4 w B (fun _ => True) v l
/-- A row of bytes that is read. -/
abbrev CB (w : World) (A : Option Addr) (n : Nat) (l : List Int) : Prop := Kd.C (Kd.int .u8) w A n l

section
variable {ops : Array Oper} {rest : List Oper} {o : Oper} {a : Act} {Q : Exit → Act → World → Prop} {w0 W : World} {B : Nat}
theorem app_u8 (hgd : o.guard = none) (s x : Operand) (ho : o.op = .call { callee := .builtin .append, args := #[s, x], argTypes := #[30, 30] })
    (v : Value) (l : List Int) (y : Int) (hs : a.eval s = v) (hx : a.eval x = .slice (some ⟨W.heap.size, 0, none⟩) 1 1) (HO : RB W B v l) (HB : Below B w0 W) (hb : B ≤ W.heap.size) (hl : l.length < 140737488355328)
    (h : ∀ v1 w1, RB w1 B v1 (l ++ [y]) → Below B w0 w1 → B ≤ w1.heap.size → wpList Try.prog ops Q rest (a.put o.dst v1) w1) : wpList Try.prog ops Q (o :: rest) a (W.alloc (.cells #[.int .u8 y] 5)) :=
  Kd.R_append (Kd.int .u8) (w0 := w0) B hgd s x 30 5 (.int .u8 0) 1 ho Try.underlying30 info5 rfl (by decide) (by omega) v l y [.int .u8 y] (fun _ => True) (fun _ => False) hs hx rfl (fun _ hk => hk.elim) (fun _ _ => trivial) HO HB hb (by omega)
    fun v1 w1 h1 h2 h3 _ => h v1 w1 h1 h2 (Nat.le_trans hb h3.size)
theorem app_u8_step {Kc : Act → World → Prop} (hw : Region.wanted o (yielded ops a.tmps) = true) (s x : Operand) (ho : o.op = .call { callee := .builtin .append, args := #[s, x], argTypes := #[30, 30] })
    (v : Value) (l : List Int) (y : Int) (hs : a.eval s = v) (hx : a.eval x = .slice (some ⟨W.heap.size, 0, none⟩) 1 1) (HO : RB W B v l) (HB : Below B w0 W) (hb : B ≤ W.heap.size) (hl : l.length < 140737488355328)
    (h : ∀ v1 w1, RB w1 B v1 (l ++ [y]) → Below B w0 w1 → B ≤ w1.heap.size → Kc (a.put o.dst v1) w1) :
    if Region.wanted o (yielded ops a.tmps) = true then Oper.wp Try.prog o a (W.alloc (.cells #[.int .u8 y] 5)) Kc Q else Kc (a.put o.dst undef) (W.alloc (.cells #[.int .u8 y] 5)) :=
  Kd.R_append_step (Kd.int .u8) (w0 := w0) B hw s x 30 5 (.int .u8 0) 1 ho Try.underlying30 info5 rfl (by decide) (by omega) v l y [.int .u8 y] (fun _ => True) (fun _ => False) hs hx rfl (fun _ hk => hk.elim) (fun _ _ => trivial) HO HB hb (by omega)
    fun v1 w1 h1 h2 h3 _ => h v1 w1 h1 h2 (Nat.le_trans hb h3.size)
theorem app_bool (hgd : o.guard = none) (s x : Operand) (ho : o.op = .call { callee := .builtin .append, args := #[s, x], argTypes := #[96, 96] })
    (v : Value) (l : List Bool) (y : Bool) (hs : a.eval s = v) (hx : a.eval x = .slice (some ⟨W.heap.size, 0, none⟩) 1 1) (HO : RT W B v l) (HB : Below B w0 W) (hb : B ≤ W.heap.size) (hl : l.length < 140737488355328)
    (h : ∀ v1 w1, RT w1 B v1 (l ++ [y]) → Below B w0 w1 → B ≤ w1.heap.size → wpList Try.prog ops Q rest (a.put o.dst v1) w1) : wpList Try.prog ops Q (o :: rest) a (W.alloc (.cells #[.bool y] 4)) :=
  Kd.R_append Kd.bool (w0 := w0) B hgd s x 96 4 (.bool false) 1 ho Try.underlying96 info4 rfl (by decide) (by omega) v l y [.bool y] (fun _ => True) (fun _ => False) hs hx rfl (fun _ hk => hk.elim) (fun _ _ => trivial) HO HB hb (by omega)
    fun v1 w1 h1 h2 h3 _ => h v1 w1 h1 h2 (Nat.le_trans hb h3.size)
theorem apps_u8 (hgd : o.guard = none) (s x : Operand) (ho : o.op = .call { callee := .builtin .append, args := #[s, x], argTypes := #[30, 30] })
    (v : Value) (l : List Int) (A : Option Addr) (m : List Int) (c : Nat) (hs : a.eval s = v) (hx : a.eval x = .slice A m.length c) (HO : RB W B v l) (HR : CB W A m.length m) (HB : Below B w0 W) (hb : B ≤ W.heap.size) (hl : l.length + m.length < 140737488355328)
    (h : ∀ v1 w1, RB w1 B v1 (l ++ m) → Below B w0 w1 → B ≤ w1.heap.size → wpList Try.prog ops Q rest (a.put o.dst v1) w1) : wpList Try.prog ops Q (o :: rest) a W :=
  Kd.R_append_rows (Kd.int .u8) (w0 := w0) B hgd s x 30 5 (.int .u8 0) 1 ho Try.underlying30 info5 rfl (by decide) (by omega) v l m A m.length c (fun _ => True) (fun _ => False) hs hx HO HR (fun _ _ h => h) (fun _ hk => hk.elim) (fun _ _ => trivial) HB hb (by omega)
    fun v1 w1 h1 h2 h3 _ => h v1 w1 h1 h2 (Nat.le_trans hb h3.size)
theorem lit0_u8 (hgd : o.guard = none) (N : Tmp) (hd : o.dst = some N) (ho : o.op = .buildSlice 30 0 #[]) (HB : Below B w0 W) (hb : B ≤ W.heap.size)
    (h : ∀ v1 w1, RB w1 B v1 [] → Below B w0 w1 → B ≤ w1.heap.size → wpList Try.prog ops Q rest (a.put o.dst v1) w1) : wpList Try.prog ops Q (o :: rest) a W :=
  Kd.R_lit (Kd.int .u8) B 5 hgd hd (xs := ([] : List Int)) (inner := []) (ok := fun _ => True) (okp := fun _ => True) (by simp only [execOp, ho]; kernel_rfl) (Reps.none _ _) (fun _ h => h) trivial HB hb (by simp)
    fun v1 w1 h1 h2 h3 _ => h v1 w1 h1 h2 (Nat.le_trans hb h3.size)
theorem make_u8 (hgd : o.guard = none) (c : Operand) (ho : o.op = .makeSlice 30 (.const (.int .i64 0)) c) (C : Int) (n : Nat) (hc : a.eval c = .int .i64 C) (hC : C = n) (hn : n ≤ 140737488355328) (HB : Below B w0 W) (hb : B ≤ W.heap.size)
    (h : ∀ v1 w1, RB w1 B v1 [] → Below B w0 w1 → B ≤ w1.heap.size → wpList Try.prog ops Q rest (a.put o.dst v1) w1) : wpList Try.prog ops Q (o :: rest) a W := by
  obtain ⟨i0, hi, hzz⟩ := Option.map_eq_some_iff.1 info5
  simp only [Prod.mk.injEq] at hzz
  obtain ⟨hz0, hz1, hz2⟩ := hzz
  refine wpList_make_own W hgd (.const (.int .i64 0)) c 30 ho B 5 i0 (.int .u8 0) 1 Try.underlying30 hi hz0 hz1 .i64 .i64 C n rfl hc hC (by rw [hz2]; omega) (by unfold maxLen; omega) hb ?_
  intro w' hown hg
  refine h _ _ ?_ (HB.grown hg hb (fun _ hk => by cases hk)) (Nat.le_trans hb hg.size)
  exact Kd.R_of_own (enc := Value.int .u8) (h1 := fun _ => rfl) (xs := ([] : List Int)) (by simpa [encs] using hown) (fun _ _ => trivial)
end
theorem CB.take {w : World} {A : Option Addr} {n m : Nat} {l : List Int} (h : CB w A n l) (hm : m ≤ n) : CB w A m (l.take m) := by
  obtain rfl := Kd.C_len h
  have := Kd.C_take h hm
  rwa [List.length_take, Nat.min_eq_left hm] at this
/-- What is owned is read. -/
theorem RB.reads {w : World} {B : Nat} {v : Value} {l : List Int} (h : RB w B v l) : ∃ A c, v = .slice A l.length c ∧ l.length ≤ c ∧ CB w A l.length l := by
  obtain ⟨A, c, rfl⟩ := Kd.R_slice h
  have := Kd.R_reads' h
  exact ⟨A, c, rfl, this.2.1, this.2.2⟩
theorem RT.reads {w : World} {B : Nat} {v : Value} {l : List Bool} (h : RT w B v l) : ∃ A c, v = .slice A l.length c ∧ l.length ≤ c ∧ Kd.C Kd.bool w A l.length l := by
  obtain ⟨A, c, rfl⟩ := Kd.R_slice h
  have := Kd.R_reads' h
  exact ⟨A, c, rfl, this.2.1, this.2.2⟩
end Go.Proofs.Ytmkkkenpjealdaa.CrcMem
