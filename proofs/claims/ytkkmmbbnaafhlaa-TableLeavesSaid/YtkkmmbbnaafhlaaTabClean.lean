/- The walk of layer 9: nothing is dirty. -/
import Derived.Test.YtkkmmbbnaafhlaaTabDo
namespace Go.Proofs.Ytkkmmbbnaafhlaa.Tab
set_option linter.unusedSimpArgs false
set_option linter.unusedVariables false
open Go.RowKit Go.Proofs.YtkkmmbbnaafhlaaW.PrintWords Go.Proofs.YtkkmmbbnaafhlaaW.PrintLast Go.Proofs.YtkkmmbbnaafhlaaW.PrintMore Arr

theorem zero_cells (n : Nat) : (Builtin.zeroCells (Value.bool false).cells n).toList = List.replicate n (Value.bool false) := by
  rw [show (Value.bool false).cells = #[Value.bool false] from rfl]
  simp [Builtin.zeroCells]
  apply List.ext_getElem
  · simp
  · intro i h1 h2
    simp [Nat.mod_one]
section
variable {ops : Array Oper} {rest : List Oper} {o : Oper} {a : Act} {Q : Exit → Act → World → Prop} {W : World}
theorem clear80 (hgd : o.guard = none) (hN : o.dst = none) (x : Operand) (ho : o.op = .call { callee := .builtin .clear, args := #[x], argTypes := #[80] }) (g n : Nat) (hx : a.eval x = .slice (some ⟨g, 0, none⟩) n n) (cs : List Value) (hb : Blk W g 4 cs) (hl : cs.length = n)
    (h : ∀ w1, Blk w1 g 4 (List.replicate n (Value.bool false)) → W.grownBy w1 (some g) → w1.heap.size = W.heap.size → wpList Try.prog ops Q rest a w1) : wpList Try.prog ops Q (o :: rest) a W := by
  have ht : Try.prog.underlying 80 = some (.slice 4) := Try.underlying80
  obtain ⟨i, hi, hiz⟩ := Option.map_eq_some_iff.1 info4
  simp only [Prod.mk.injEq] at hiz
  have hz : ∀ w, (zeroValue 4).run Try.prog w = .ok (.bool false) w := fun w => by simp [zeroValue, typeInfo, hi, hiz.1]
  have hput : ∀ v : Value, a.put o.dst v = a := fun v => by rw [hN]; rfl
  rcases Nat.eq_zero_or_pos n with h0 | h0
  · subst h0
    obtain rfl : cs = [] := List.eq_nil_of_length_eq_zero hl
    refine wpList_plain hgd fun K hK => ?_
    unfold Oper.wp execOp
    simp only [ho, resolve, invoke, builtin, Sem.run_bind, Sem.run_pure, Result.andThen_ok, List.map_toArray, List.map_cons, List.map_nil, hx]
    simp [Builtin.clear_, run_underlying ht]
    refine hK _ _ ?_
    rw [hput]
    exact h W hb (World.grownBy.refl W _) rfl
  · have hst := run_storeCells_at Try.prog g 0 4 (List.replicate n (Value.bool false)) 0 cs.toArray W hb (by simp; omega) (fun v hv => by rw [List.eq_of_mem_replicate hv]; rfl)
    obtain ⟨m, rfl⟩ : ∃ m, n = m + 1 := ⟨n - 1, by omega⟩
    refine wpList_plain hgd fun K hK => ?_
    unfold Oper.wp execOp
    simp only [ho, resolve, invoke, builtin, Sem.run_bind, Sem.run_pure, Result.andThen_ok, List.map_toArray, List.map_cons, List.map_nil, hx]
    simp only [Nat.add_zero] at hst
    have hdr : List.drop (m + 1) cs = [] := List.drop_of_length_le (by omega)
    simp [Builtin.clear_, run_underlying ht, hz, zero_cells, hst, hdr]
    refine hK _ _ ?_
    rw [hput]
    exact h _ (setRow_heap W g _ _ 4 _ hb) (grown_setRow _ _ _) (by simp)
end
set_option maxHeartbeats 2000000 in
theorem clean_calls (w : World) (t lb db n : Nat) (ps : List Int) (ds : List Bool) (h : TabAt w t lb db n ps ds) : Calls Try.prog 28 #[.pointer (some ⟨t, 0, none⟩)] w fun e w' => e = .returned (.tuple #[]) ∧ TabAt w' t lb db n ps (List.replicate (pg n) false) ∧ Moves w w' lb db := by
  have HT := Aside0.mk h
  have h2 := h.c2
  have hds := h.hds
  clear h
  go_enter Try.func28, Try.ntmps28
  go_wp2_with (first | (refine clear80 rfl rfl (.tmp 5) rfl db (pg n) rfl _ HT.out.dt (by rw [encsLen]; exact hds) ?_; intro w1 h4 h5 h6; have H4 := Aside0.mk h4; have H5 := Aside0.mk h5; have H6 := Aside0.mk h6; clear h4 h5 h6))
  go_end0
  have hT' : TabAt w1 t lb db n ps (List.replicate (pg n) false) := ⟨HT.out.tab.grown H5.out (by have := HT.out.n2; simpa using this), HT.out.lv.grown H5.out (by have := HT.out.n3; simpa using this), by have := H4.out; rwa [show encs Value.bool (List.replicate (pg n) false) = List.replicate (pg n) (Value.bool false) by simp [encs]], HT.out.hps, by simp, HT.out.hn⟩
  exact ⟨rfl, hT', ⟨H6.out, fun k h1 h2 => by
    by_cases hk : k < w.heap.size
    · exact H5.out.block k hk (by simp; omega)
    · rw [Array.getElem?_eq_none (show w1.heap.size ≤ k by rw [H6.out]; omega), Array.getElem?_eq_none (show w.heap.size ≤ k by omega)], fun B w0 hB h1 h2 h3 => below_grown hB h2 h3 H5.out⟩⟩
theorem RI.moves {w w' : World} {B t lb db n : Nat} {ps : List Int} {ds : List Bool} {v : Value} {l : List Int} (h : RI w B v l) (hT : TabAt w t lb db n ps ds) (hM : Moves w w' lb db) : RI w' B v l := by
  have h1 := Kd.R_types h hT.lv (fun q hq => by rcases List.mem_cons.1 hq with rfl | h; decide; cases h)
  have h2 := Kd.R_types h1 hT.dt (fun q hq => by rcases List.mem_cons.1 hq with rfl | h; decide; cases h)
  exact Kd.R_mono (Kd.R_step h2 (fun k ho _ => hM.heap k ho.1.2 ho.2)) (fun _ _ => trivial)
theorem make_i64 {ops : Array Oper} {rest : List Oper} {o : Oper} {a : Act} {Q : Exit → Act → World → Prop} {w0 W : World} {B : Nat} (hgd : o.guard = none) {N : Tmp} (hd : o.dst = some N) (x y : Operand) (ho : o.op = .makeSlice 22 x y) (n : Nat) (hx : a.eval x = .int .i64 n) (hy : a.eval y = .int .i64 n) (hn : n ≤ 100000) (HB : Below B w0 W) (hb : B ≤ W.heap.size)
    (h : ∀ v1 w1, RI w1 B v1 (zeros n) → Below B w0 w1 → W.grownBy w1 none → wpList Try.prog ops Q rest (a.put o.dst v1) w1) : wpList Try.prog ops Q (o :: rest) a W :=
  Kd.R_make (Kd.int .i64) (w0 := w0) B 3 hgd hd 22 x y ho (n : Int) hx hy Try.underlying22 (.int .i64 0) 8 info3 rfl (by decide) (by decide) (0 : Int) (ok := fun _ => True) (okp := fun _ => False) rfl (fun _ hk => hk.elim) trivial (by omega) (by omega) HB hb
    fun v1 w1 h1 h2 h3 _ => h v1 w1 h1 h2 h3
/-! ### one Put, both ways -/
theorem take_len {n : Nat} {ps : List Int} (hps : ps.length = 10 * pg n) : (ps.take n).length = n := by
  rw [List.length_take, hps]
  unfold pg
  omega
theorem do_place {n : Nat} {ps : List Int} (hps : ps.length = 10 * pg n) (x : Put) : doP (ps.take n) x = (setP ps n x.blk x.place).take n := by
  unfold doP setP
  rw [take_len hps]
  split
  · rw [List.take_set]
  · rfl
theorem do_was {n : Nat} {ps : List Int} (hps : ps.length = 10 * pg n) (b : Int) : getP (ps.take n) (ps.take n).length b = getP ps n b := by
  unfold getP
  rw [take_len hps]
  split
  · rw [getD_take (by omega)]
  · rfl
theorem do_dirty {n : Nat} {ps : List Int} {ds : List Bool} (hps : ps.length = 10 * pg n) (hds : ds.length = pg n) (dl : List Int) (x : Put) (h : (if x.clean then [] else dl) = trues ds) : doD (ps.take n) dl x = trues (setD ps ds n x.blk x.place) := by
  unfold doD setD
  rw [take_len hps, h]
  by_cases hr : 0 ≤ x.blk ∧ x.blk < n
  · rw [if_pos hr, getD_take (by omega)]
    have hq : x.blk.toNat / 10 < ds.length := by rw [hds]; unfold pg; omega
    by_cases e : ps.getD x.blk.toNat 0 = x.place
    · rw [if_neg (fun h => h.2.2 e), show (ps.getD x.blk.toNat 0 != x.place) = false by rw [e]; simp, Bool.or_false]
      congr 1
      rw [List.getD_eq_getElem?_getD, List.getElem?_eq_getElem hq]
      simp
    · rw [if_pos ⟨hr.1, hr.2, e⟩, show (ps.getD x.blk.toNat 0 != x.place) = true by rw [bne_iff_ne]; exact e, Bool.or_true, ← ins_trues ds _ hq]
      congr 1
      omega
  · rw [if_neg hr, if_neg (fun h => hr ⟨h.1, h.2.1⟩)]
theorem trues_none (m : Nat) : trues (List.replicate m false) = [] := by
  unfold trues trueTo
  rw [List.map_eq_nil_iff, List.filter_eq_nil_iff]
  intro i _
  rw [List.getD_eq_getElem?_getD, List.getElem?_replicate]
  split <;> simp
end Go.Proofs.Ytkkmmbbnaafhlaa.Tab
