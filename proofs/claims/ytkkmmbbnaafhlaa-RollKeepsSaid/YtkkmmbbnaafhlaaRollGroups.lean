/- The walk of layer 15: groups. -/
import Derived.Test.YtkkmmbbnaafhlaaRollPlain
namespace Go.Proofs.Ytkkmmbbnaafhlaa.Roll
set_option linter.unusedSimpArgs false
set_option linter.unusedVariables false
open Go.RowKit Go.Proofs.YtkkmmbbnaafhlaaW.PrintWords Go.Proofs.YtkkmmbbnaafhlaaW.PrintLast Go.Proofs.YtkkmmbbnaafhlaaW.PrintMore Arr PRollJoin

theorem size41 : (Try.prog.info? 41).map (·.size) = some 38 := by kernel_rfl
theorem zero41 : (Try.prog.info? 41).map (·.zero) = some (some (.agg (foundC found0).toArray)) := by kernel_rfl
theorem foundC_len (f : Found) (h : f.rc.data.length = 32) : (foundC f).length = 38 := by simp [foundC, recC, encs, h]
theorem foundC_one (f : Found) : ∀ v ∈ foundC f, v.oneCell' = true := by
  intro v hv
  unfold foundC recC encs at hv
  simp only [List.mem_append, List.mem_cons, List.not_mem_nil, or_false, List.mem_map] at hv
  rcases hv with rfl | (rfl | rfl | rfl | rfl | rfl) | ⟨x, _, rfl⟩ <;> rfl
theorem at41 {w : World} {A : Option Addr} {n : Nat} {l : List Found} (h : k41.C w A n l) (i : Nat) (h1 : i < n) : ∃ ad, A = some ad ∧ (∀ j u, (foundC (fd l i))[j]? = some u → w.cell? ((ad.add (i * 38)).add j) = some u) ∧ (fd l i).rc.data.length = 32 := by
  have h2 := Kd.C_get h found0 (i : Int) (by omega) (by omega)
  rw [k41_sz, Int.toNat_natCast] at h2
  obtain ⟨ad, c, e, _, hK, hc0⟩ := h2
  obtain ⟨h3, hl⟩ := k41_open hK
  rw [h3] at hc0
  refine ⟨ad, e, fun j u hu => ?_, hl⟩
  rw [add_add]
  exact hc0 j u hu
theorem RC_ok {w : World} {B : Nat} {v : Value} {l : List S44} (h : RC w B v l) {ok : Nat → Prop} (hok : ∀ k, v.ownBlock = some k → ok k) : Kd.R k44 44 w B ok v l :=
  ⟨hok, h.2.imp_ (fun p c hp => by obtain rfl := k44_openM hp; exact k44_mkM _ _ _ _)⟩
theorem zero44_one (n : Nat) : ∀ v ∈ (Builtin.zeroCells (Value.agg #[.int .i64 0, .int .i64 0]).cells n).toList, v.oneCell' = true := by
  intro v hv
  rw [show (Value.agg #[.int .i64 0, .int .i64 0]).cells = #[Value.int .i64 0, Value.int .i64 0] from rfl] at hv
  simp only [Builtin.zeroCells, Array.toList_map, List.mem_map] at hv
  obtain ⟨i, _, rfl⟩ := hv
  have : i % (#[Value.int .i64 0, Value.int .i64 0] : Array Value).size = 0 ∨ i % (#[Value.int .i64 0, Value.int .i64 0] : Array Value).size = 1 := by
    have h2 : (#[Value.int .i64 0, Value.int .i64 0] : Array Value).size = 2 := rfl
    rw [h2]
    omega
  rcases this with h | h <;> rw [h] <;> rfl
theorem zero44_len (n : Nat) : (Builtin.zeroCells (Value.agg #[.int .i64 0, .int .i64 0]).cells n).toList.length = n * 2 := by
  rw [show (Value.agg #[.int .i64 0, .int .i64 0]).cells = #[Value.int .i64 0, Value.int .i64 0] from rfl]
  simp [Builtin.zeroCells]
section
variable {ops : Array Oper} {rest : List Oper} {o : Oper} {a : Act} {Q : Exit → Act → World → Prop} {w0 W : World} {B : Nat}
theorem load41 (hgd : o.guard = none) (p : Operand) (ho : o.op = .load 41 p) (ad : Addr) (hp : a.eval p = .pointer (some ad)) (f : Found) (hl : f.rc.data.length = 32) (hc : ∀ j u, (foundC f)[j]? = some u → W.cell? (ad.add j) = some u)
    (h : wpList Try.prog ops Q rest (a.put o.dst (.agg (foundC f).toArray)) W) : wpList Try.prog ops Q (o :: rest) a W :=
  wpl_load hgd 41 p ho ad hp (foundC f) Try.underlying41 rfl (by rw [foundC_len f hl]; exact size41) hc h
theorem alloc41 (hgd : o.guard = none) (ho : o.op = .alloc 41)
    (h : ∀ w1 g, W.heap.size ≤ g → Blk w1 g 41 (foundC found0) → W.grownBy w1 none → wpList Try.prog ops Q rest (a.put o.dst (.pointer (some ⟨g, 0, none⟩))) w1) : wpList Try.prog ops Q (o :: rest) a W :=
  wpl_alloc hgd 41 ho _ zero41 _ rfl h
theorem store41 (hgd : o.guard = none) (hN : o.dst = none) (p x : Operand) (ho : o.op = .store 41 p x) (g : Nat) (hp : a.eval p = .pointer (some ⟨g, 0, none⟩)) (f : Found) (hl : f.rc.data.length = 32) (hx : a.eval x = .agg (foundC f).toArray) {M : Found} (hM : M.rc.data.length = 32) (hb : Blk W g 41 (foundC M))
    (h : ∀ w1, Blk w1 g 41 (foundC f) → W.grownBy w1 (some g) → w1.heap.size = W.heap.size → wpList Try.prog ops Q rest a w1) : wpList Try.prog ops Q (o :: rest) a W :=
  wpl_storeAll hgd hN 41 p x ho g hp (foundC f) hx (by rw [foundC_len f hl]; exact size41) (foundC_one f) hb (by rw [foundC_len f hl, foundC_len M hM]) h
theorem clear44 (hgd : o.guard = none) (hN : o.dst = none) (x : Operand) (ho : o.op = .call { callee := .builtin .clear, args := #[x], argTypes := #[26] }) (A : Option Addr) (n c : Nat) (hx : a.eval x = .slice A n c) (l : List S44) (hR : RC W B (.slice A n c) l)
    (h : ∀ w1, RC w1 B (.slice A 0 c) [] → W.grownBy w1 (Value.slice A n c).ownBlock → wpList Try.prog ops Q rest a w1) : wpList Try.prog ops Q (o :: rest) a W := by
  have ht : Try.prog.underlying 26 = some (.slice 44) := Try.underlying26
  obtain ⟨i, hi, hiz⟩ := Option.map_eq_some_iff.1 info44
  simp only [Prod.mk.injEq] at hiz
  have hz : ∀ w, (zeroValue 44).run Try.prog w = .ok (.agg #[.int .i64 0, .int .i64 0]) w := fun w => by simp [zeroValue, typeInfo, hi, hiz.1]
  have hput : ∀ v : Value, a.put o.dst v = a := fun v => by rw [hN]; rfl
  have hR0 : RC W B (.slice A 0 c) [] := Kd.R_take hR (Nat.zero_le _)
  rcases A with _ | ad
  · refine wpList_plain hgd fun K hK => ?_
    unfold Oper.wp execOp
    simp only [ho, resolve, invoke, builtin, Sem.run_bind, Sem.run_pure, Result.andThen_ok, List.map_toArray, List.map_cons, List.map_nil, hx]
    simp [Builtin.clear_, run_underlying ht]
    refine hK _ _ ?_
    rw [hput]
    exact h W hR0 (World.grownBy.refl W _)
  · rcases Nat.eq_zero_or_pos n with h0 | h0
    · subst h0
      refine wpList_plain hgd fun K hK => ?_
      unfold Oper.wp execOp
      simp only [ho, resolve, invoke, builtin, Sem.run_bind, Sem.run_pure, Result.andThen_ok, List.map_toArray, List.map_cons, List.map_nil, hx]
      simp [Builtin.clear_, run_underlying ht]
      refine hK _ _ ?_
      rw [hput]
      exact h W hR0 (World.grownBy.refl W _)
    · obtain ⟨_, inner, ⟨_, h2⟩, _⟩ := hR0
      rcases h2 with ⟨he, _⟩ | ⟨g, cap, cur, he, hbase, hh, _, hcm, hcs, _⟩
      · cases he
      · injection he with ha _ hc
        injection ha with ha
        subst ha; subst hc
        have hnc : n ≤ c := (Kd.R_reads' hR).2.1
        have hsz : (44 : Nat) = 44 := rfl
        have hcur : cur.size = c * 2 := hcs
        have hst := run_storeCells_at Try.prog g 0 44 _ 0 cur W hh (by rw [zero44_len n]; omega) (zero44_one n)
        obtain ⟨m, rfl⟩ : ∃ m, n = m + 1 := ⟨n - 1, by omega⟩
        refine wpList_plain hgd fun K hK => ?_
        unfold Oper.wp execOp
        simp only [ho, resolve, invoke, builtin, Sem.run_bind, Sem.run_pure, Result.andThen_ok, List.map_toArray, List.map_cons, List.map_nil, hx]
        simp only [Builtin.clear_, List.getElem?_toArray, List.getElem?_cons_zero, Sem.run_bind, run_underlying ht, Result.andThen_ok, hz, hst, Sem.run_pure]
        refine hK _ _ ?_
        rw [hput]
        refine h _ ⟨fun _ _ => trivial, [], ⟨rfl, .inr ⟨g, c, _, rfl, hbase, setRow_heap W g _ _ 44 _ hh, Nat.zero_le _, hcm, ?_, by simp⟩⟩, Reps.none _ _⟩ (grown_setRow _ _ _)
        have := zero44_len (m + 1)
        rw [Array.length_toList] at this
        simp only [List.size_toArray, List.length_append, List.length_take, List.length_drop, Array.length_toList]
        show _ = c * 2
        omega
end
/-- A cell read, in a region that draws. -/
theorem yields_cell {P : Program} {ops : Array Oper} {S : World → Prop} {o : Oper} {a : Act} (hw : Region.wanted o (yielded ops a.tmps) = true) (T : TypeId) (p : Operand) (ho : o.op = .load T p) (ad : Addr) (hp : a.eval p = .pointer (some ad)) {v : Value} (hc : ∀ w, S w → w.cell? ad = some v) {d : TypeDesc} (hu : P.underlying T = some d) (hd : wideT d = false) : YieldsIf P ops S o v a :=
  Or.inl ⟨hw, fun w hS => by
    have h1 := hc w hS
    have h2 : (isAgg T).run P w = .ok false w := by rw [run_isAgg hu, hd]
    unfold execOp
    simp only [ho, hp, Instr.loadAt, Instr.sureAddr, Sem.run_bind, Sem.run_pure, Result.andThen_ok, loadVar, h2]
    simp [h1]⟩
/-- A group laid in a slice of its own. -/
theorem step_lit28 {o : Oper} {a : Act} {Q : Exit → Act → World → Prop} {Kc : Act → World → Prop} {W : World} (N : Tmp) (hd : o.dst = some N) (x : Operand) (ho : o.op = .buildSlice 23 1 #[(0, x)]) (b : Bool) (s : Int) (A : Option Addr) (n c : Nat) (hx : a.eval x = .agg #[.bool b, .int .i64 s, .slice A n c])
    (h : Kc (a.put (some N) (.slice (some ⟨W.heap.size, 0, none⟩) 1 1)) (W.alloc (.cells [.bool b, .int .i64 s, .slice A n c].toArray 28))) : Oper.wp Try.prog o a W Kc Q := by
  have hrun : (execOp a.eval o).run Try.prog W = .ok (.value (.slice (some ⟨W.heap.size, 0, none⟩) 1 1)) (W.alloc (.cells [.bool b, .int .i64 s, .slice A n c].toArray 28)) := by
    simp only [execOp, ho, List.map_toArray, List.map_cons, List.map_nil, hx]
    kernel_rfl
  unfold Oper.wp
  rw [hrun]
  show Kc (a.put o.dst _) _
  rw [hd]
  exact h
abbrev RG (w : World) (B : Nat) (ok : Nat → Prop) (v : Value) (gs : List (S28 × Nat)) : Prop := Kd.R (tag k28) 28 w B ok v gs
structure Tags (w : World) (gs : List (S28 × Nat)) : Prop where
  rise : gs.Pairwise (fun x y => x.1.f2 ≠ [] → x.2 < y.2)
  lt : ∀ x ∈ gs, x.1.f2 ≠ [] → x.2 < w.heap.size
theorem Tags.mono {w w' : World} {gs : List (S28 × Nat)} (h : Tags w gs) (hs : w.heap.size ≤ w'.heap.size) : Tags w' gs := ⟨h.rise, fun x hx hn => Nat.lt_of_lt_of_le (h.lt x hx hn) hs⟩
theorem Tags.snoc {w w' : World} {gs : List (S28 × Nat)} (h : Tags w gs) (hs : w.heap.size ≤ w'.heap.size) {x : S28 × Nat} (h1 : w.heap.size ≤ x.2) (h2 : x.1.f2 ≠ [] → x.2 < w'.heap.size) : Tags w' (gs ++ [x]) := by
  refine ⟨List.pairwise_append.2 ⟨h.rise, List.pairwise_singleton .., fun a ha b hb hn => ?_⟩, fun y hy hn => ?_⟩
  · obtain rfl := List.mem_singleton.1 hb
    exact Nat.lt_of_lt_of_le (h.lt a ha hn) h1
  · rcases List.mem_append.1 hy with hy | hy
    · exact Nat.lt_of_lt_of_le (h.lt y hy hn) hs
    · obtain rfl := List.mem_singleton.1 hy
      exact h2 hn
/-- The block of a row of changes, if it has any. -/
theorem RC_block {w : World} {B : Nat} {v : Value} {l : List S44} (h : RC w B v l) (hB : B ≤ w.heap.size) : ∃ t, B ≤ t ∧ (l ≠ [] → t < w.heap.size) ∧ ∀ k, v.ownBlock = some k → k = t := by
  rcases hv : v.ownBlock with _ | b
  · refine ⟨B, Nat.le_refl _, fun hl => ?_, fun k hk => by cases hk⟩
    obtain ⟨g, cap, rfl, h2, h3, _⟩ := Kd.R_form h (List.length_pos_iff.2 hl)
    omega
  · exact ⟨b, Kd.R_base h b hv, fun _ => Kd.R_lt h b hv, fun k hk => by injection hk with hk; exact hk.symm⟩
section
variable {ops : Array Oper} {o : Oper} {a : Act} {Q : Exit → Act → World → Prop} {w0 W : World} {B : Nat} {Kc : Act → World → Prop}
/-- A group appended. -/
theorem step_app28 (N : Tmp) (hd : o.dst = some N) (s x : Operand) (ho : o.op = .call { callee := .builtin .append, args := #[s, x], argTypes := #[23, 23] }) (hg : o.guard = none)
    (v : Value) (gs : List (S28 × Nat)) (b : Bool) (q : Int) (l : List S44) (vc : Value) (t : Nat) (ok : Nat → Prop) (hs : a.eval s = v) (hx : a.eval x = .slice (some ⟨W.heap.size, 0, none⟩) 1 1) (HO : RG W B ok v gs) (HC : RC W B vc l)
    (ht : ∀ k, vc.ownBlock = some k → k = t) (hok : ∀ k, vc.ownBlock = some k → ok k ∧ some k ≠ v.ownBlock) (hfresh : ∀ k, W.heap.size ≤ k → ok k) (HB : Below B w0 W) (hb : B ≤ W.heap.size) (hl : gs.length ≤ 100000)
    (h : ∀ v1 w1, RG w1 B ok v1 (gs ++ [(⟨b, q, l⟩, t)]) → Below B w0 w1 → W.grownBy w1 v.ownBlock → (v1.ownBlock = v.ownBlock ∨ ∃ b, v1.ownBlock = some b ∧ W.heap.size ≤ b) → Kc (a.put (some N) v1) w1) : Oper.wp Try.prog o a (W.alloc (.cells [.bool b, .int .i64 q, vc].toArray 28)) Kc Q := by
  have hw : Region.wanted o (yielded #[] a.tmps) = true := by simp [Region.wanted, hg]
  have := Kd.R_append_step (P := Try.prog) (ops := #[]) (o := o) (a := a) (Q := Q) (Kc := Kc) (tag k28) (w0 := w0) B hw s x 23 28 (.agg #[.bool false, .int .i64 0, .slice none 0 0]) 40 ho Try.underlying23 info28 rfl (by decide) (by omega) v gs (⟨b, q, l⟩, t) [.bool b, .int .i64 q, vc] ok (fun k => vc.ownBlock = some k) hs hx
    (k28_mkM W B _ ⟨b, q, l⟩ (RC_ok HC (fun k hk => ⟨hk, ht k hk⟩))) hok hfresh HO HB hb (by omega)
    (fun v1 w1 h1 h2 h3 h4 => by rw [hd]; exact h v1 w1 h1 h2 h3 h4)
  rwa [if_pos hw] at this
end
end Go.Proofs.Ytkkmmbbnaafhlaa.Roll
