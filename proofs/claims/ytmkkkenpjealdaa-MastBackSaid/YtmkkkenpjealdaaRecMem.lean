/- Records as values and in variables: the laws of the operations. -/
import Derived.Test.YtmkkkenpjealdaaRecPlain
import Derived.Test.YtmkkkenpjealdaaLeafRefRead
namespace Go.Proofs.Ytmkkkenpjealdaa.RecWalks
set_option linter.unusedSimpArgs false
set_option linter.unusedVariables false
open Go.RowKit Go.Proofs.YtmkkkenpjealdaaW.PrintWords Go.Proofs.YtmkkkenpjealdaaW.PrintLast Go.Proofs.YtmkkkenpjealdaaW.PrintMore PlainWord CrcPlain PlainSec CrcMem CrcWalks CrcRef Arr SecWord SecMem SecRef LeafWalks

/-- A record's cells. -/
def recC (r : Rec) : List Value := [.int .i64 r.kind, .int .i64 r.epoch, .int .i64 r.seq, .int .i64 r.blk, .int .i64 r.cnt] ++ encs (Value.int .u8) r.data
theorem recC_length (r : Rec) (h : r.data.length = 32) : (recC r).length = 37 := by simp [recC, encs, h]
theorem size43 : (Try.prog.info? 43).map (·.size) = some 37 := by kernel_rfl
theorem size41 : (Try.prog.info? 41).map (·.size) = some 32 := by kernel_rfl
theorem zero43 : (Try.prog.info? 43).map (·.zero) = some (some (.agg (recC rec0).toArray)) := by kernel_rfl
theorem size43' (r : Rec) (h : r.data.length = 32) : (Try.prog.info? 43).map (·.size) = some (recC r).length := by rw [size43, recC_length r h]
theorem recC_one (r : Rec) : ∀ v ∈ recC r, v.oneCell' = true := by
  intro v hv
  simp only [recC, encs, List.mem_append, List.mem_cons, List.not_mem_nil, or_false, List.mem_map] at hv
  rcases hv with (rfl | rfl | rfl | rfl | rfl) | ⟨x, _, rfl⟩ <;> rfl
/-- A variable that holds a record. -/
abbrev QB (w : World) (g : Nat) (r : Rec) : Prop := Blk w g 43 (recC r)
section
variable {w : World} {g : Nat} {r : Rec}
theorem QB.kind (h : QB w g r) : w.cell? ⟨g, 0, none⟩ = some (.int .i64 r.kind) := h.cell rfl
theorem QB.epoch (h : QB w g r) : w.cell? ⟨g, 1, none⟩ = some (.int .i64 r.epoch) := h.cell rfl
theorem QB.seq (h : QB w g r) : w.cell? ⟨g, 2, none⟩ = some (.int .i64 r.seq) := h.cell rfl
theorem QB.blk (h : QB w g r) : w.cell? ⟨g, 3, none⟩ = some (.int .i64 r.blk) := h.cell rfl
theorem QB.cnt (h : QB w g r) : w.cell? ⟨g, 4, none⟩ = some (.int .i64 r.cnt) := h.cell rfl
theorem QB.byte (h : QB w g r) (k : Nat) (hk : k < r.data.length) : w.cell? ⟨g, 5 + k, none⟩ = some (.int .u8 (r.data.getD k 0)) := by
  refine h.cell ?_
  unfold recC
  rw [List.getElem?_append_right (by simp)]
  have : 5 + k - [Value.int .i64 r.kind, Value.int .i64 r.epoch, Value.int .i64 r.seq, Value.int .i64 r.blk, Value.int .i64 r.cnt].length = k := by simp
  rw [this]
  exact encs_at (0 : Int) r.data k hk
theorem QB.setByte (h : QB w g r) (k : Nat) (x : Int) : QB (w.setCell ⟨g, 5 + k, none⟩ (.int .u8 x)) g ⟨r.kind, r.epoch, r.seq, r.blk, r.cnt, r.data.set k x⟩ := by
  have := h.set (5 + k) (.int .u8 x)
  have e : (recC r).set (5 + k) (.int .u8 x) = recC ⟨r.kind, r.epoch, r.seq, r.blk, r.cnt, r.data.set k x⟩ := by
    unfold recC
    rw [List.set_append_right _ _ (by simp)]
    simp only [List.length_cons, List.length_nil]
    rw [show 5 + k - (0 + 1 + 1 + 1 + 1 + 1) = k by omega, encs_set]
  rw [e] at this
  exact this
/-- The bytes of a record, from its fifth cell on. -/
theorem QB.reads (h : QB w g r) (j : Nat) (v : Value) (hv : (encs (Value.int .u8) r.data)[j]? = some v) : w.cell? ((⟨g, 5, none⟩ : Addr).add j) = some v := by
  rw [addr_at]
  have hj : j < r.data.length := by have := (List.getElem?_eq_some_iff.1 hv).1; simpa [encs] using this
  rw [h.byte j hj, ← encs_at (enc := Value.int .u8) (0 : Int) r.data j hj]
  exact hv
end
section
variable {ops : Array Oper} {rest : List Oper} {o : Oper} {a : Act} {Q : Exit → Act → World → Prop} {W : World}
theorem box43 (hgd : o.guard = none) (x : Operand) (ho : o.op = .box 43 x) (r : Rec) (hx : a.eval x = .agg (recC r).toArray) (h : ∀ w1 g, W.heap.size ≤ g → QB w1 g r → W.grownBy w1 none → wpList Try.prog ops Q rest (a.put o.dst (.pointer (some ⟨g, 0, none⟩))) w1) : wpList Try.prog ops Q (o :: rest) a W :=
  wpl_box hgd 43 x ho _ hx _ rfl h
theorem alloc43 (hgd : o.guard = none) (ho : o.op = .alloc 43) (h : ∀ w1 g, W.heap.size ≤ g → QB w1 g rec0 → W.grownBy w1 none → wpList Try.prog ops Q rest (a.put o.dst (.pointer (some ⟨g, 0, none⟩))) w1) : wpList Try.prog ops Q (o :: rest) a W :=
  wpl_alloc hgd 43 ho _ zero43 _ rfl h
theorem load43 (hgd : o.guard = none) (p : Operand) (ho : o.op = .load 43 p) (g : Nat) (hp : a.eval p = .pointer (some ⟨g, 0, none⟩)) {r : Rec} (hl : r.data.length = 32) (hb : QB W g r)
    (h : wpList Try.prog ops Q rest (a.put o.dst (.agg (recC r).toArray)) W) : wpList Try.prog ops Q (o :: rest) a W :=
  wpl_loadAll hgd 43 p ho g hp hb Try.underlying43 rfl (size43' r hl) h
theorem store43 (hgd : o.guard = none) (hN : o.dst = none) (p x : Operand) (ho : o.op = .store 43 p x) (g : Nat) (hp : a.eval p = .pointer (some ⟨g, 0, none⟩)) (r : Rec) (hx : a.eval x = .agg (recC r).toArray) (hl : r.data.length = 32) {s : Rec} (hb : QB W g s) (hm : s.data.length = 32)
    (h : ∀ w1, QB w1 g r → W.grownBy w1 (some g) → w1.heap.size = W.heap.size → wpList Try.prog ops Q rest a w1) : wpList Try.prog ops Q (o :: rest) a W :=
  wpl_storeAll hgd hN 43 p x ho g hp _ hx (size43' r hl) (recC_one r) hb (by rw [recC_length r hl, recC_length s hm]) h
/-- The data of a record, read. -/
theorem load41 (hgd : o.guard = none) (p : Operand) (ho : o.op = .load 41 p) (g : Nat) (hp : a.eval p = .pointer (some ⟨g, 5, none⟩)) {r : Rec} (hl : r.data.length = 32) (hb : QB W g r)
    (h : wpList Try.prog ops Q rest (a.put o.dst (.agg (encs (Value.int .u8) r.data).toArray)) W) : wpList Try.prog ops Q (o :: rest) a W :=
  wpl_load hgd 41 p ho ⟨g, 5, none⟩ hp (encs (Value.int .u8) r.data) Try.underlying41 rfl (by rw [show (encs (Value.int .u8) r.data).length = 32 by simp [encs, hl]]; exact size41) (fun j v hv => hb.reads j v hv) h
theorem build41z (hgd : o.guard = none) (ho : o.op = .build 41 #[]) (h : wpList Try.prog ops Q rest (a.put o.dst (.agg (encs (Value.int .u8) (zeros 32)).toArray)) W) : wpList Try.prog ops Q (o :: rest) a W :=
  Kd.event_run hgd (by simp only [execOp, ho, List.map_toArray, List.map_nil]; kernel_rfl) h
theorem build43z (hgd : o.guard = none) (ho : o.op = .build 43 #[]) (h : wpList Try.prog ops Q rest (a.put o.dst (.agg (recC rec0).toArray)) W) : wpList Try.prog ops Q (o :: rest) a W :=
  Kd.event_run hgd (by simp only [execOp, ho, List.map_toArray, List.map_nil]; kernel_rfl) h
theorem yields_build43 {S : World → Prop} (hw : Region.wanted o (yielded ops a.tmps) = true) (x0 x1 x2 x3 x4 : Operand) (ho : o.op = .build 43 #[(0, x0), (1, x1), (2, x2), (3, x3), (4, x4)]) (k e s b c : Int) (h0 : a.eval x0 = .int .i64 k) (h1 : a.eval x1 = .int .i64 e) (h2 : a.eval x2 = .int .i64 s) (h3 : a.eval x3 = .int .i64 b) (h4 : a.eval x4 = .int .i64 c) :
    YieldsIf Try.prog ops S o (.agg (recC ⟨k, e, s, b, c, zeros 32⟩).toArray) a :=
  Or.inl ⟨hw, fun w _ => by simp only [execOp, ho, List.map_toArray, List.map_cons, List.map_nil, h0, h1, h2, h3, h4]; kernel_rfl⟩
theorem step_alloc43 {Kc : Act → World → Prop} (N : Tmp) (hd : o.dst = some N) (ho : o.op = .alloc 43) (h : ∀ w1 g, W.heap.size ≤ g → QB w1 g rec0 → W.grownBy w1 none → Kc (a.put (some N) (.pointer (some ⟨g, 0, none⟩))) w1) : Oper.wp Try.prog o a W Kc Q :=
  step_alloc N hd 43 ho _ zero43 _ rfl h
theorem step_store43 {Kc : Act → World → Prop} (hN : o.dst = none) (p x : Operand) (ho : o.op = .store 43 p x) (g : Nat) (hp : a.eval p = .pointer (some ⟨g, 0, none⟩)) (r : Rec) (hx : a.eval x = .agg (recC r).toArray) (hl : r.data.length = 32) {s : Rec} (hb : QB W g s) (hm : s.data.length = 32)
    (h : ∀ w1, QB w1 g r → W.grownBy w1 (some g) → w1.heap.size = W.heap.size → Kc a w1) : Oper.wp Try.prog o a W Kc Q :=
  step_storeAll hN 43 p x ho g hp _ hx (size43' r hl) (recC_one r) hb (by rw [recC_length r hl, recC_length s hm]) h
/-- Bytes copied into a block that is known whole. -/
theorem step_copy {P : Program} {Kc : Act → World → Prop} (d x : Operand) (t e : TypeId) (ho : o.op = .call { callee := .builtin .copy, args := #[d, x], argTypes := #[t, t] }) (ht : P.underlying t = some (.slice e)) (hinfo : (P.info? e).map (·.size) = some 1)
    {g o' n c : Nat} (hd : a.eval d = .slice (some ⟨g, o', none⟩) n c) {A : Addr} {m c2 : Nat} (hx : a.eval x = .slice (some A) m c2) {T : TypeId} {cur : List Value} (hb : Blk W g T cur) (cs : List Value) (hn : cs.length = Nat.min m n)
    (hsrc : ∀ j v, cs[j]? = some v → W.cell? (A.add j) = some v) (hfit : o' + cs.length ≤ cur.length) (h1 : ∀ v ∈ cs, v.oneCell' = true)
    (h : ∀ w1, Blk w1 g T (cur.take o' ++ cs ++ cur.drop (o' + cs.length)) → W.grownBy w1 (some g) → w1.heap.size = W.heap.size → Kc (a.put o.dst (goInt cs.length)) w1) : Oper.wp P o a W Kc Q := by
  have hr := run_copy_row (P := P) W t t o.type e g o' n c A m c2 cur.toArray T cs ht hinfo hb hn hsrc (by simpa using hfit) h1
  have h2 := h _ (setRow_heap W g _ _ T _ hb) (grown_setRow _ _ _) (by simp)
  unfold Oper.wp execOp
  simp only [ho, resolve, invoke, builtin, Sem.run_bind, Sem.run_pure, Result.andThen_ok, List.map_toArray, List.map_cons, List.map_nil, hd, hx, hr]
  exact h2
end
theorem eqg43 : Try.prog.eqGuardType Try.prog.depth 43 = false := by kernel_rfl
theorem eqg41 : Try.prog.eqGuardType Try.prog.depth 41 = false := by kernel_rfl
theorem eq41 {l m : List Int} (hl : l.length = 32) (hm : m.length = 32) (bl : Bytes l) (bm : Bytes m) (w : World) : (Op.equal 41 (.agg (encs (Value.int .u8) l).toArray) (.agg (encs (Value.int .u8) m).toArray)).run Try.prog w = .ok (decide (l = m)) w :=
  run_equal_cells (P := Try.prog) (T := 41) (m := 3) (by decide) (by kernel_rfl) Try.underlying41 rfl (by rw [show (encs (Value.int .u8) l).length = 32 by simp [encs, hl]]; kernel_rfl) (by rw [show (encs (Value.int .u8) m).length = 32 by simp [encs, hm]]; kernel_rfl)
    (lits_ints (D := 0) Try.underlying41 Try.underlying5 (by kernel_rfl) (by kernel_rfl) hl (wf_u8 bl)) (lits_ints (D := 0) Try.underlying41 Try.underlying5 (by kernel_rfl) (by kernel_rfl) hm (wf_u8 bm)) (by rw [decide_eq_true_eq, ints_lit_inj]) w
/-- A record's numbers have their kind. -/
def i64Ok (x : Int) : Prop := -9223372036854775808 ≤ x ∧ x ≤ 9223372036854775807
structure recWf (r : Rec) : Prop where
  kind : i64Ok r.kind
  epoch : i64Ok r.epoch
  seq : i64Ok r.seq
  blk : i64Ok r.blk
  cnt : i64Ok r.cnt
  data : Bytes r.data
theorem wf64 {x : Int} (h : i64Ok x) : (Lit.int .i64 x).wf = true := by
  unfold i64Ok at h
  simp [Lit.wf, IntKind.min, IntKind.max, IntKind.signed, IntKind.bits]
  omega
theorem lits43 (r : Rec) (hl : r.data.length = 32) (hw : recWf r) : Try.prog.keyLits 4 43 (recC r) = some ([Lit.int .i64 r.kind, Lit.int .i64 r.epoch, Lit.int .i64 r.seq, Lit.int .i64 r.blk, Lit.int .i64 r.cnt] ++ r.data.map (Lit.int .u8)) := by
  have g : ∀ x, i64Ok x → Try.prog.keyLits 3 3 [Value.int .i64 x] = some [Lit.int .i64 x] := fun x h => lits_int (P := Try.prog) (D := 2) (e := 3) (k := .i64) Try.underlying3 (wf64 h)
  have h6 := lits_ints (P := Try.prog) (D := 1) (T := 41) (e := 5) (n := 32) (k := .u8) Try.underlying41 Try.underlying5 (by kernel_rfl) (by kernel_rfl) hl (wf_u8 hw.data)
  have hlen : (recC r).length = Try.prog.cellsOf 43 := by rw [recC_length r hl]; kernel_rfl
  have c3 : Try.prog.cellsOf 3 = 1 := by kernel_rfl
  have c41 : Try.prog.cellsOf 41 = 32 := by kernel_rfl
  have e1 : ((recC r).drop 0).take 1 = [Value.int .i64 r.kind] := rfl
  have e2 : ((recC r).drop 1).take 1 = [Value.int .i64 r.epoch] := rfl
  have e3 : ((recC r).drop 2).take 1 = [Value.int .i64 r.seq] := rfl
  have e4 : ((recC r).drop 3).take 1 = [Value.int .i64 r.blk] := rfl
  have e5 : ((recC r).drop 4).take 1 = [Value.int .i64 r.cnt] := rfl
  have e6 : ((recC r).drop 5).take 32 = encs (Value.int .u8) r.data := by
    show (encs (Value.int .u8) r.data).take 32 = _
    rw [List.take_of_length_le (by simp [encs, hl])]
  unfold Program.keyLits
  rw [Try.underlying43]
  show (if _ then _ else _) = _
  rw [if_pos ⟨hlen, by decide +kernel⟩]
  simp only [List.mapM_cons, List.mapM_nil, c3, c41]
  rw [e1, e2, e3, e4, e5, e6, g _ hw.kind, g _ hw.epoch, g _ hw.seq, g _ hw.blk, g _ hw.cnt, h6]
  simp
theorem eq43 {r s : Rec} (hl : r.data.length = 32) (hm : s.data.length = 32) (wl : recWf r) (wm : recWf s) {b : Bool} (hb : b = true ↔ r = s) (w : World) : (Op.equal 43 (.agg (recC r).toArray) (.agg (recC s).toArray)).run Try.prog w = .ok b w :=
  run_equal_cells (P := Try.prog) (T := 43) (m := 5) (by decide) (by kernel_rfl) Try.underlying43 rfl (by rw [recC_length r hl]; kernel_rfl) (by rw [recC_length s hm]; kernel_rfl) (lits43 r hl wl) (lits43 s hm wm) (by
    rw [hb]
    constructor
    · rintro rfl; rfl
    · intro h
      simp only [List.cons_append, List.nil_append, List.cons.injEq] at h
      obtain ⟨h1, h2, h3, h4, h5, h6⟩ := h
      have e1 := (Lit.int.inj h1).2
      have e2 := (Lit.int.inj h2).2
      have e3 := (Lit.int.inj h3).2
      have e4 := (Lit.int.inj h4).2
      have e5 := (Lit.int.inj h5).2
      have e6 := ints_lit_inj.1 h6
      cases r; cases s; simp_all) w
theorem i64_of {x : Int} (h0 : -9223372036854775808 ≤ x) (h1 : x ≤ 9223372036854775807) : i64Ok x := ⟨h0, h1⟩
theorem rec0_wf : recWf rec0 := ⟨i64_of (by decide) (by decide), i64_of (by decide) (by decide), i64_of (by decide) (by decide), i64_of (by decide) (by decide), i64_of (by decide) (by decide), zeros_bytes 32⟩
theorem recOk_wf {r : Rec} (h : recOk r = true) (hd : Bytes r.data) : recWf r := by
  obtain ⟨⟨k0, k1⟩, ⟨e0, e1⟩, ⟨s0, s1⟩, ⟨b0, b1⟩, ⟨c0, c1⟩⟩ := recOk_small h
  exact ⟨i64_of (by omega) (by omega), i64_of (by omega) (by omega), i64_of (by omega) (by omega), i64_of (by omega) (by omega), i64_of (by omega) (by omega), hd⟩
theorem recOf_bytes {p : List Int} (hp : Bytes p) : Bytes (recOf p).data := fun x hx => hp x (List.mem_of_mem_drop (List.mem_of_mem_take hx))
theorem recOf_wf {p : List Int} (hp : Bytes p) : recWf (recOf p) := by
  have h0 := hp.getD 0
  have h1 := numL_bounds p hp 1 8
  have h2 := numL_bounds p hp 9 8
  have h3 := numL_bounds p hp 17 4
  have h4 := numL_bounds p hp 21 4
  exact ⟨i64_of (by show _ ≤ p.getD 0 0; omega) (by show p.getD 0 0 ≤ _; omega), i64_of (by show _ ≤ numL p 1 8; omega) (by show numL p 1 8 ≤ _; omega), i64_of (by show _ ≤ numL p 9 8; omega) (by show numL p 9 8 ≤ _; omega), i64_of (by show _ ≤ numL p 17 4; omega) (by show numL p 17 4 ≤ _; omega), i64_of (by show _ ≤ numL p 21 4; omega) (by show numL p 21 4 ≤ _; omega), recOf_bytes hp⟩
theorem recRead_wf {p : List Int} (hp : Bytes p) (hl : p.length = 64) : recWf (recRead p).1 ∧ (recRead p).1.data.length = 32 := by
  unfold recRead
  split
  · split
    · exact ⟨recOf_wf hp, recOf_length p hl⟩
    · exact ⟨rec0_wf, rfl⟩
  · exact ⟨rec0_wf, rfl⟩
end Go.Proofs.Ytmkkkenpjealdaa.RecWalks
