/- Leaves in whatever order: in plain Lean, and the operations on their rows. -/
import Derived.Test.YtkkmmbbnaafhlaaTabOfs
namespace Go.Proofs.Ytkkmmbbnaafhlaa.Tab
set_option linter.unusedSimpArgs false
set_option linter.unusedVariables false
open Go.RowKit Go.Proofs.YtkkmmbbnaafhlaaW.PrintWords Go.Proofs.YtkkmmbbnaafhlaaW.PrintLast Go.Proofs.YtkkmmbbnaafhlaaW.PrintMore Arr

/-! ### in plain Lean -/
theorem ids_free {ls : List Leaf} (hin : ∀ i : Nat, i < ls.length → (i : Int) ∈ ids ls) : (∀ a, a < ls.length → 0 ≤ (lf ls a).idx ∧ (lf ls a).idx < (ls.length : Int)) ∧ ∀ a b, a < b → b < ls.length → (lf ls a).idx ≠ (lf ls b).idx := by
  have e2 := cin_many hin
  have e3 := cin_le ls.length (ids ls)
  rw [ids_length] at e3
  have hall := cin_full (p := ls.length) (l := ids ls) (by rw [ids_length]; omega)
  refine ⟨fun a ha => hall _ ((ids_mem ls _).2 ⟨a, ha, rfl⟩), fun a b hab hb e => ?_⟩
  have hb' : b < (ids ls).length := by rw [ids_length]; exact hb
  have h3 := count_two (l := ids ls) hab hb' (by rw [ids_at ls a (by omega), ids_at ls b hb]; exact e)
  rw [ids_at ls b hb] at h3
  have h4 := hall (lf ls b).idx ((ids_mem ls _).2 ⟨b, hb, rfl⟩)
  obtain ⟨q, hq⟩ : ∃ q : Nat, (lf ls b).idx = (q : Int) := ⟨(lf ls b).idx.toNat, by omega⟩
  rw [hq] at h3 h4
  have := cin_more hin (i0 := q) (by omega) h3
  omega
/-- Leaves of a table, in whatever order. -/
structure Mix (gen : Int) (ps : List Int) (p : Nat) (m : List Leaf) : Prop where
  len : m.length = p
  all : ∀ i, i < p → ∃ a, a < p ∧ lf m a = leafAt gen ps i
  ten : ∀ L ∈ m, L.ps.length = 10
theorem lf_mem {m : List Leaf} {a : Nat} (h : a < m.length) : lf m a ∈ m := by
  unfold lf
  rw [List.getD_eq_getElem?_getD, List.getElem?_eq_getElem h]
  exact List.getElem_mem h
theorem lf_set (m : List Leaf) (a c : Nat) (L : Leaf) (ha : a < m.length) : lf (m.set a L) c = if a = c then L else lf m c := by
  unfold lf
  rw [List.getD_eq_getElem?_getD, List.getD_eq_getElem?_getD, List.getElem?_set]
  by_cases e : a = c
  · subst e; simp [ha]
  · simp [e]
theorem Mix.zero (gen : Int) (ps : List Int) (p : Nat) (h : 10 * p ≤ ps.length) : Mix gen ps p (leavesTo gen ps p) :=
  ⟨leavesTo_length _ _ _, fun i hi => ⟨i, hi, leavesTo_getD _ _ _ _ hi⟩, fun L hL => by
    unfold leavesTo at hL
    obtain ⟨i, hi, rfl⟩ := List.mem_map.1 hL
    have := List.mem_range.1 hi
    exact leafAt_len gen ps i (by omega)⟩
theorem Mix.swap {gen : Int} {ps : List Int} {p : Nat} {m : List Leaf} (h : Mix gen ps p m) {a b : Nat} (ha : a < p) (hb : b < p) : Mix gen ps p ((m.set a (lf m b)).set b (lf m a)) := by
  have hl := h.len
  refine ⟨by rw [List.length_set, List.length_set]; exact hl, fun i hi => ?_, fun L hL => ?_⟩
  · obtain ⟨c, hc, e⟩ := h.all i hi
    by_cases e1 : c = a
    · exact ⟨b, hb, by rw [lf_set _ _ _ _ (by rw [List.length_set]; omega), if_pos rfl, ← e1]; exact e⟩
    · by_cases e2 : c = b
      · by_cases e3 : a = b
        · exact absurd (e2.trans e3.symm) e1
        · exact ⟨a, ha, by rw [lf_set _ _ _ _ (by rw [List.length_set]; omega), if_neg (by omega), lf_set _ _ _ _ (by omega), if_pos rfl, ← e2]; exact e⟩
      · exact ⟨c, hc, by rw [lf_set _ _ _ _ (by rw [List.length_set]; omega), if_neg (by omega), lf_set _ _ _ _ (by omega), if_neg (by omega)]; exact e⟩
  · rcases List.mem_or_eq_of_mem_set hL with h1 | h1
    · rcases List.mem_or_eq_of_mem_set h1 with h2 | h2
      · exact h.ten L h2
      · rw [h2]; exact h.ten _ (lf_mem (by omega))
    · rw [h1]; exact h.ten _ (lf_mem (by omega))
theorem Mix.last {gen : Int} {ps : List Int} {p : Nat} {m : List Leaf} (h : Mix gen ps p m) {i : Nat} (hi : i < p) : lastL m (i : Int) = some (leafAt gen ps i) := by
  have hl := h.len
  have hin : ∀ j : Nat, j < m.length → (j : Int) ∈ ids m := fun j hj => by
    obtain ⟨a, ha, e⟩ := h.all j (by omega)
    exact (ids_mem m _).2 ⟨a, by omega, by rw [e]; rfl⟩
  obtain ⟨_, hdis⟩ := ids_free hin
  obtain ⟨a, ha, e⟩ := h.all i hi
  obtain ⟨f, hf⟩ := fnd_all m (i : Int) m.length (Nat.le_refl _)
  rw [Fnd, List.take_length] at hf
  rcases hf with ⟨_, _, h5⟩ | ⟨b, hb, _, h5, h6⟩
  · exact absurd (by rw [e]; rfl) (h5 a (by omega))
  · have hba : b = a := by
      rcases Nat.lt_trichotomy b a with h' | h' | h'
      · exact absurd (by rw [h6, e]; rfl) (hdis b a h' (by omega))
      · exact h'
      · exact absurd (by rw [h6, e]; rfl) (hdis a b h' hb)
    rw [h5, hba, e]
theorem Mix.ok {gen : Int} {ps : List Int} {n : Nat} {m : List Leaf} (h : Mix gen ps (pg n) m) (hps : ps.length = 10 * pg n) (hpd : Pad n ps) (h0 : ∀ j, 0 ≤ ps.getD j 0) : Ok31 n m :=
  (ok_both n m).2 ⟨h.len, fun i hi => ⟨_, h.last hi, fun k hk => by
    unfold leafAt
    show 0 ≤ ((ps.drop (10 * i)).take 10).getD k 0 ∧ (0 < ((ps.drop (10 * i)).take 10).getD k 0 → _)
    rw [getD_take hk, getD_drop]
    refine ⟨h0 _, fun hp => ?_⟩
    apply Classical.byContradiction
    intro hn
    rw [hpd (10 * i + k) (by omega)] at hp
    omega⟩⟩
theorem Mix.places {gen : Int} {ps : List Int} {p : Nat} {m : List Leaf} (h : Mix gen ps p m) (hps : ps.length = 10 * p) : psOf m p = ps := by
  apply ext_getD (by rw [psOf_length, hps])
  intro j hj
  rw [psOf_length] at hj
  rw [psOf_getD _ _ _ hj]
  unfold plc
  rw [h.last (show j / 10 < p by omega)]
  show ((ps.drop (10 * (j / 10))).take 10).getD (j % 10) 0 = _
  rw [getD_take (by omega), getD_drop]
  congr 1
  omega
theorem not_ok {n : Nat} {m : List Leaf} (h : m.length ≠ pg n) : ¬ Ok31 n m := fun h2 => h ((ok_both n m).1 h2).1
theorem setP_pos {n : Nat} {ps : List Int} (h : ∀ j, 0 ≤ ps.getD j 0) (b x : Int) (hx : 0 ≤ x) : ∀ j, 0 ≤ (setP ps n b x).getD j 0 := by
  intro j
  unfold setP
  split
  · by_cases hlt : b.toNat < ps.length
    · rw [getD_set _ _ _ _ hlt]
      split
      · exact hx
      · exact h j
    · rw [List.set_eq_of_length_le (by omega)]; exact h j
  · exact h j
/-! ### rows of leaves -/
theorem RL.reads {w : World} {B : Nat} {v : Value} {l : List Leaf} (h : RL w B v l) : ∃ A c, v = .slice A l.length c ∧ l.length ≤ c ∧ CL w A l.length l := by
  obtain ⟨A, c, rfl⟩ := Kd.R_slice h
  have := Kd.R_reads' h
  exact ⟨A, c, rfl, this.2.1, this.2.2⟩
theorem RL.len {w : World} {B : Nat} {v : Value} {l : List Leaf} (h : RL w B v l) : ∀ L ∈ l, L.ps.length = 10 := by
  obtain ⟨A, c, _, _, hC⟩ := RL.reads h
  intro L hL
  obtain ⟨i, hi, rfl⟩ := List.getElem_of_mem hL
  obtain ⟨_, _, _, h2⟩ := CL.at hC i hi
  unfold lf at h2
  rw [List.getD_eq_getElem?_getD, List.getElem?_eq_getElem hi] at h2
  exact h2
/-- A leaf of a row written whole. -/
theorem RL.store {w : World} {B g cap n : Nat} {l : List Leaf} (h : RL w B (.slice (some ⟨g, 0, none⟩) n cap) l) (i : Nat) (hi : i < n) (L : Leaf) (hL : L.ps.length = 10) :
    RL (w.setCells g (i * 12) (leafC L)) B (.slice (some ⟨g, 0, none⟩) n cap) (l.set i L) ∧ w.grownBy (w.setCells g (i * 12) (leafC L)) (some g) := by
  have hn := (Kd.R_reads' h).1
  have hl0 : (lf l i).ps.length = 10 := RL.len h _ (lf_mem (by omega))
  have hat : ∀ j u, (leafC (lf l i))[j]? = some u → w.cell? ⟨g, ((i : Nat) : Int).toNat * k58.sz + j, none⟩ = some u := fun j u hu => by
    rw [k58_sz, Int.toNat_natCast]
    exact (RL.at h i hi j u hu).1
  have h2 := Kd.R_seg (d := k58) (okp := fun _ => False) h (i : Int) (by omega) (by omega) (c := leafC (lf l i)) (seg := leafC L) (j := 0) (by rw [leafC_len _ hl0, k58_sz]) hat (by rw [k58_sz, leafC_len L hL]; omega) (x' := L) (by
    rw [List.take_zero, List.nil_append, List.drop_of_length_le (by rw [leafC_len L hL, leafC_len _ hl0]; omega), List.append_nil]
    exact k58_mkM _ _ _ _ hL) (fun _ hk => hk.elim)
  rw [k58_sz, Int.toNat_natCast, Nat.add_zero] at h2
  exact h2
section
variable {ops : Array Oper} {o : Oper} {a : Act} {Q : Exit → Act → World → Prop} {w0 W : World} {B : Nat} {Kc : Act → World → Prop}
theorem step_load58 (N : Tmp) (hd : o.dst = some N) (p : Operand) (ho : o.op = .load 58 p) (ad : Addr) (hp : a.eval p = .pointer (some ad)) (L : Leaf) (hl : L.ps.length = 10) (hc : ∀ j u, (leafC L)[j]? = some u → W.cell? (ad.add j) = some u)
    (h : Kc (a.put (some N) (.agg (leafC L).toArray)) W) : Oper.wp Try.prog o a W Kc Q := by
  obtain ⟨i, hii, his⟩ := Option.map_eq_some_iff.1 size58
  have hcl := run_loadCells_list (P := Try.prog) W ad (leafC L) hc
  have hagg : (isAgg 58).run Try.prog W = .ok true W := by rw [run_isAgg Try.underlying58 W]; rfl
  rw [leafC_len L hl] at hcl
  have hrun : (execOp a.eval o).run Try.prog W = .ok (.value (.agg (leafC L).toArray)) W := by
    simp [execOp, ho, hp, Instr.loadAt, Instr.sureAddr, loadVar, Sem.run_bind, hagg, sizeOf, typeInfo, hii, his, hcl]
  unfold Oper.wp
  rw [hrun]
  show Kc (a.put o.dst _) _
  rw [hd]
  exact h
theorem step_store58 (hN : o.dst = none) (p x : Operand) (ho : o.op = .store 58 p x) (g i cap n : Nat) (hp : a.eval p = .pointer (some ⟨g, i * 12, none⟩)) (L : Leaf) (hL : L.ps.length = 10) (hx : a.eval x = .agg (leafC L).toArray) {l : List Leaf} (hR : RL W B (.slice (some ⟨g, 0, none⟩) n cap) l) (hi : i < n)
    (h : ∀ w1, RL w1 B (.slice (some ⟨g, 0, none⟩) n cap) (l.set i L) → W.grownBy w1 (some g) → Kc a w1) : Oper.wp Try.prog o a W Kc Q := by
  obtain ⟨h1, h2⟩ := RL.store hR i hi L hL
  have hn := (Kd.R_reads' hR).1
  obtain ⟨cs, hcb, hcl⟩ := RL.blk hR (by omega)
  have hl0 : (lf l i).ps.length = 10 := RL.len hR _ (lf_mem (by omega))
  have hfit := hcl _ _ (RL.at hR i hi 11 (.int .i64 ((lf l i).ps.getD 9 0)) (leafC_ps _ hl0 9 (by decide))).1
  have hrun : (execOp a.eval o).run Try.prog W = .ok .skip (W.setCells g (i * 12) (leafC L)) := by
    have := run_store_run (P := Try.prog) (o := i * 12) 58 (.agg (leafC L).toArray) (leafC L) hcb (by simp [Value.cells]) (by rw [leafC_len L hL]; exact size58) (by rw [leafC_len L hL, List.size_toArray]; omega) (leafC_one L)
    unfold execOp
    simp only [ho, hp, hx, Sem.run_bind, Sem.run_pure, Result.andThen_ok, this]
  unfold Oper.wp
  rw [hrun]
  have e2 : a.put o.dst undef = a := by rw [hN]; rfl
  show Kc (a.put o.dst undef) _
  rw [e2]
  exact h _ h1 h2
theorem lit0_leaf (N : Tmp) (hd : o.dst = some N) (ho : o.op = .buildSlice 54 0 #[]) (hg : o.guard = none) (HB : Below B w0 W) (hb : B ≤ W.heap.size)
    (h : ∀ v1 w1, RL w1 B v1 [] → Below B w0 w1 → W.grownBy w1 none → Kc (a.put (some N) v1) w1) : Oper.wp Try.prog o a W Kc Q := by
  have hw : Region.wanted o (yielded #[] a.tmps) = true := by simp [Region.wanted, hg]
  have := Kd.R_lit_step (P := Try.prog) (ops := #[]) (o := o) (a := a) (Q := Q) (Kc := Kc) k58 (w0 := w0) B 58 hw (N := N) hd (xs := ([] : List Leaf)) (inner := []) (ok := fun _ => True) (okp := fun _ => True) (by simp only [execOp, ho]; kernel_rfl) (Reps.none _ _) (fun _ h => h) trivial HB hb (by simp)
    (fun v1 w1 h1 h2 h3 _ => by rw [hd]; exact h v1 w1 h1 h2 h3)
  rwa [if_pos hw] at this
theorem lit1_run (x : Operand) (ho : o.op = .buildSlice 54 1 #[(0, x)]) (L : Leaf) (hL : L.ps.length = 10) (hx : a.eval x = .agg (leafC L).toArray) : (execOp a.eval o).run Try.prog W = .ok (.value (.slice (some ⟨W.heap.size, 0, none⟩) [L].length [L].length)) (W.alloc (.cells (leafC L).toArray 58)) := by
  obtain ⟨lg, li, lp⟩ := L
  obtain ⟨a0, a1, a2, a3, a4, a5, a6, a7, a8, a9, rfl⟩ := ten lp hL
  simp only [execOp, ho, List.map_toArray, List.map_cons, List.map_nil, hx]
  kernel_rfl
theorem lit1_leaf (N : Tmp) (hd : o.dst = some N) (x : Operand) (ho : o.op = .buildSlice 54 1 #[(0, x)]) (hg : o.guard = none) (L : Leaf) (hL : L.ps.length = 10) (hx : a.eval x = .agg (leafC L).toArray) (HB : Below B w0 W) (hb : B ≤ W.heap.size)
    (h : ∀ v1 w1, RL w1 B v1 [L] → Below B w0 w1 → W.grownBy w1 none → Kc (a.put (some N) v1) w1) : Oper.wp Try.prog o a W Kc Q := by
  have hw : Region.wanted o (yielded #[] a.tmps) = true := by simp [Region.wanted, hg]
  have := Kd.R_lit_step (P := Try.prog) (ops := #[]) (o := o) (a := a) (Q := Q) (Kc := Kc) k58 (w0 := w0) B 58 hw (N := N) hd (xs := [L]) (inner := leafC L) (ok := fun _ => True) (okp := fun _ => False) (lit1_run x ho L hL hx) (by
      refine ⟨by rw [leafC_len L hL, k58_sz]; rfl, fun i L' hL' => ?_⟩
      have hi : i = 0 := by have := (List.getElem?_eq_some_iff.1 hL').1; simp at this; omega
      subst hi
      have e : L = L' := by simpa using hL'
      subst e
      rw [k58_sz, Nat.zero_mul, List.drop_zero, List.take_of_length_le (by rw [leafC_len L hL]; omega)]
      exact k58_mkM _ _ _ _ hL) (fun _ h => h.elim) trivial HB hb (by simp)
    (fun v1 w1 h1 h2 h3 _ => by rw [hd]; exact h v1 w1 h1 h2 h3)
  rwa [if_pos hw] at this
theorem apps_leaf (N : Tmp) (hd : o.dst = some N) (s x : Operand) (ho : o.op = .call { callee := .builtin .append, args := #[s, x], argTypes := #[54, 54] }) (hg : o.guard = none)
    (v : Value) (l ys : List Leaf) (A : Option Addr) (m c : Nat) (hs : a.eval s = v) (hx : a.eval x = .slice A m c) (HO : RL W B v l) (HR : CL W A m ys) (HB : Below B w0 W) (hb : B ≤ W.heap.size) (hl : l.length + m ≤ 10000)
    (h : ∀ v1 w1, RL w1 B v1 (l ++ ys) → Below B w0 w1 → W.grownBy w1 v.ownBlock → Kc (a.put (some N) v1) w1) : Oper.wp Try.prog o a W Kc Q := by
  have hw : Region.wanted o (yielded #[] a.tmps) = true := by simp [Region.wanted, hg]
  have := Kd.R_append_rows_step (P := Try.prog) (ops := #[]) (o := o) (a := a) (Q := Q) (Kc := Kc) k58 (w0 := w0) B hw s x 54 58 (.agg (leafC leaf0).toArray) 96 ho Try.underlying54 info58 rfl (by decide) (by omega) v l ys A m c (fun _ => True) (fun _ => False) hs hx HO HR (fun L cs h => by
      obtain ⟨rfl, h10⟩ := k58_open h
      exact k58_mkM _ _ _ _ h10) (fun _ hk => hk.elim) (fun _ _ => trivial) HB hb (by omega)
    (fun v1 w1 h1 h2 h3 _ => by rw [hd]; exact h v1 w1 h1 h2 h3)
  rwa [if_pos hw] at this
end
end Go.Proofs.Ytkkmmbbnaafhlaa.Tab
