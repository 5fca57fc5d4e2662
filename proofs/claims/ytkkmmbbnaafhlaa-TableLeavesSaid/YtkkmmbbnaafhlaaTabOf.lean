/- The walks of layer 9: a table made of leaves. -/
import Derived.Test.YtkkmmbbnaafhlaaOfPlain
namespace Go.Proofs.Ytkkmmbbnaafhlaa.Tab
set_option linter.unusedSimpArgs false
set_option linter.unusedVariables false
open Go.RowKit Go.Proofs.YtkkmmbbnaafhlaaW.PrintWords Go.Proofs.YtkkmmbbnaafhlaaW.PrintLast Go.Proofs.YtkkmmbbnaafhlaaW.PrintMore Arr

theorem add_j (ad : Addr) (m j : Nat) (hj : 0 < j) : (ad.add m).add j = ⟨(ad.add m).block, (ad.add m).off + j, none⟩ := by
  generalize ad.add m = b
  unfold Addr.add
  rw [if_neg (by omega)]
theorem add_add (ad : Addr) (m j : Nat) : (ad.add m).add j = ad.add (m + j) := by
  by_cases h : j = 0
  · subst h; rfl
  · rw [add_j ad m j (by omega), add_field ad m j (by omega)]
def firstF (ds : List Bool) (k : Nat) : Prop := ∀ j, j < k → ds.getD j false = true
set_option maxHeartbeats 2000000 in
theorem index_calls (w : World) (sb : Nat) (ds : List Bool) (m : Nat) (hm : m = ds.length) (hml : m ≤ 100000) (h : Blk w sb 4 (encs Value.bool ds)) : Calls Try.prog 41 #[.slice (some ⟨sb, 0, none⟩) m m, .bool false] w fun e w' => w = w' ∧ ∃ r : Int, e = .returned (.int .i64 r) ∧ -1 ≤ r ∧ r < 100000 ∧ (0 ≤ r ↔ false ∈ ds) := by
  have HB := Aside0.mk h
  clear h
  go_enter Try.func41, Try.ntmps41
  go_wp2_with fail
  go_loop [8] (fun i => ∃ k : Nat, k ≤ m ∧ i = .int .i64 k ∧ Aside0 (firstF ds k)) (fun i => m - (intOf i).toNat)
  case atStart => exact ⟨0, by omega, rfl, ⟨fun j h => by omega⟩⟩
  case round =>
    obtain ⟨k, hk, rfl, HF⟩ := hrel
    by_cases hlt : k < m
    · have hd : decide ((k : Int) < m) = true := by simp; omega
      have hc := Blk.encAt HB.out false k (by omega)
      obtain ⟨b, hb⟩ : ∃ b, b = ds.getD k false := ⟨_, rfl⟩
      rw [← hb] at hc
      have HBB := Aside0.mk hb
      clear hb
      cases b
      · go_wp2_with fail
        go_ret
        refine ⟨rfl, _, rfl, by omega, by omega, ?_⟩
        refine ⟨fun _ => ?_, fun _ => by omega⟩
        have h1 := HBB.out
        rw [List.getD_eq_getElem?_getD, List.getElem?_eq_getElem (by omega)] at h1
        rw [show false = ds[k]'(by omega) from h1]
        exact List.getElem_mem _
      · go_wp2_with fail
        go_round
        case rel => exact ⟨k + 1, by omega, by go_num, ⟨fun j h => by
          by_cases e : j = k
          · rw [e]; exact HBB.out.symm
          · exact HF.out j (by omega)⟩⟩
        case measure => simp [intOf]; omega
    · obtain rfl : k = m := by omega
      have hd : decide ((k : Int) < k) = false := by simp
      go_wp2_with fail
      go_ret
      refine ⟨rfl, _, rfl, by omega, by omega, ?_⟩
      refine ⟨fun h => by omega, fun h => ?_⟩
      obtain ⟨j, hj, hjf⟩ := List.getElem_of_mem h
      have := HF.out j (by omega)
      rw [List.getD_eq_getElem?_getD, List.getElem?_eq_getElem hj] at this
      simp [hjf] at this
set_option maxHeartbeats 2000000 in
theorem contains_calls (w : World) (sb : Nat) (ds : List Bool) (m : Nat) (hm : m = ds.length) (hml : m ≤ 100000) (h : Blk w sb 4 (encs Value.bool ds)) : Calls Try.prog 40 #[.slice (some ⟨sb, 0, none⟩) m m, .bool false] w fun e w' => w = w' ∧ ∃ b : Bool, e = .returned (.bool b) ∧ (b = true ↔ false ∈ ds) := by
  have HB := Aside0.mk h
  have HM := Aside0.mk hm
  clear h hm
  go_enter Try.func40, Try.ntmps40
  go_wp2_with fail
  refine (index_calls w sb ds m HM.out hml HB.out).mono ?_
  rintro e w1 ⟨rfl, r, rfl, h0, h1, hr⟩
  have HR := Aside0.mk hr
  clear hr
  go_wp2_with fail
  go_ret
  exact ⟨rfl, _, rfl, by rw [decide_eq_true_eq]; exact HR.out⟩
/-! ### a leaf in memory -/
theorem k58_open {w : World} {L : Leaf} {cs : List Value} (h : k58.K w L cs) : cs = leafC L ∧ L.ps.length = 10 := by
  obtain ⟨c1, c2, h1, h2, c3, c4, h3, h4, h5, h6⟩ := h
  refine ⟨?_, h5⟩
  rw [h1, h2, h3, h4, h6]
  rfl
theorem k58_sz : k58.sz = 12 := by kernel_rfl
abbrev CL (w : World) (A : Option Addr) (n : Nat) (ls : List Leaf) : Prop := k58.C w A n ls
theorem CL.at {w : World} {A : Option Addr} {n : Nat} {ls : List Leaf} (h : CL w A n ls) (i : Nat) (h1 : i < n) : ∃ ad, A = some ad ∧ (∀ j u, (leafC (lf ls i))[j]? = some u → w.cell? ((ad.add (i * 12)).add j) = some u) ∧ (lf ls i).ps.length = 10 := by
  have h2 := Kd.C_get h leaf0 (i : Int) (by omega) (by omega)
  rw [k58_sz, Int.toNat_natCast] at h2
  obtain ⟨ad, c, e, _, hK, hc0⟩ := h2
  obtain ⟨h3, hl⟩ := k58_open hK
  unfold lf
  rw [h3] at hc0
  refine ⟨ad, e, fun j u hu => ?_, hl⟩
  rw [add_add]
  exact hc0 j u hu
theorem leafC_len (L : Leaf) (h : L.ps.length = 10) : (leafC L).length = 12 := by simp [leafC, encs, h]
theorem leafC_one (L : Leaf) : ∀ v ∈ leafC L, v.oneCell' = true := by
  intro v hv
  unfold leafC encs at hv
  rcases List.mem_append.1 hv with hv | hv
  · simp only [List.mem_cons, List.not_mem_nil, or_false] at hv
    rcases hv with rfl | rfl <;> rfl
  · obtain ⟨x, _, rfl⟩ := List.mem_map.1 hv
    rfl
theorem leafC_ps (L : Leaf) (hl : L.ps.length = 10) (j : Nat) (hj : j < 10) : (leafC L)[2 + j]? = some (.int .i64 (L.ps.getD j 0)) := by
  unfold leafC
  rw [List.getElem?_append_right (by simp)]
  have : 2 + j - [Value.int .i64 L.gen, Value.int .i64 L.idx].length = j := by simp
  rw [this]
  exact encs_at (enc := Value.int .i64) (0 : Int) _ j (by omega)
theorem size58 : (Try.prog.info? 58).map (·.size) = some 12 := by kernel_rfl
theorem zero58 : (Try.prog.info? 58).map (·.zero) = some (some (.agg (leafC leaf0).toArray)) := by kernel_rfl
theorem size56 : (Try.prog.info? 56).map (·.size) = some 10 := by kernel_rfl
section
variable {ops : Array Oper} {rest : List Oper} {o : Oper} {a : Act} {Q : Exit → Act → World → Prop} {W : World}
theorem load58 (hgd : o.guard = none) (p : Operand) (ho : o.op = .load 58 p) (ad : Addr) (hp : a.eval p = .pointer (some ad)) (L : Leaf) (hl : L.ps.length = 10) (hc : ∀ j u, (leafC L)[j]? = some u → W.cell? (ad.add j) = some u)
    (h : wpList Try.prog ops Q rest (a.put o.dst (.agg (leafC L).toArray)) W) : wpList Try.prog ops Q (o :: rest) a W :=
  wpl_load hgd 58 p ho ad hp (leafC L) Try.underlying58 rfl (by rw [leafC_len L hl]; exact size58) hc h
theorem alloc58 (hgd : o.guard = none) (ho : o.op = .alloc 58)
    (h : ∀ w1 g, W.heap.size ≤ g → Blk w1 g 58 (leafC leaf0) → W.grownBy w1 none → wpList Try.prog ops Q rest (a.put o.dst (.pointer (some ⟨g, 0, none⟩))) w1) : wpList Try.prog ops Q (o :: rest) a W :=
  wpl_alloc hgd 58 ho _ zero58 _ rfl h
theorem store58 (hgd : o.guard = none) (hN : o.dst = none) (p x : Operand) (ho : o.op = .store 58 p x) (g : Nat) (hp : a.eval p = .pointer (some ⟨g, 0, none⟩)) (L : Leaf) (hl : L.ps.length = 10) (hx : a.eval x = .agg (leafC L).toArray) {M : Leaf} (hM : M.ps.length = 10) (hb : Blk W g 58 (leafC M))
    (h : ∀ w1, Blk w1 g 58 (leafC L) → W.grownBy w1 (some g) → w1.heap.size = W.heap.size → wpList Try.prog ops Q rest a w1) : wpList Try.prog ops Q (o :: rest) a W :=
  wpl_storeAll hgd hN 58 p x ho g hp (leafC L) hx (by rw [leafC_len L hl]; exact size58) (leafC_one L) hb (by rw [leafC_len L hl, leafC_len M hM]) h
/-- The places of a leaf, read. -/
theorem load56 (hgd : o.guard = none) (p : Operand) (ho : o.op = .load 56 p) (g : Nat) (hp : a.eval p = .pointer (some ⟨g, 2, none⟩)) (L : Leaf) (hl : L.ps.length = 10) (hb : Blk W g 58 (leafC L))
    (h : wpList Try.prog ops Q rest (a.put o.dst (.agg (encs (Value.int .i64) L.ps).toArray)) W) : wpList Try.prog ops Q (o :: rest) a W := by
  refine wpl_load hgd 56 p ho ⟨g, 2, none⟩ hp (encs (Value.int .i64) L.ps) Try.underlying56 rfl (by rw [encsLen, hl]; exact size56) (fun j v hv => ?_) h
  have hj : j < L.ps.length := by have := (List.getElem?_eq_some_iff.1 hv).1; simpa [encs] using this
  rw [addr_at]
  rw [encs_at (enc := Value.int .i64) (0 : Int) _ j hj] at hv
  rw [← hv]
  exact hb.cell (leafC_ps L hl j (by omega))
theorem index56 (hgd : o.guard = none) (x i : Operand) (ho : o.op = .index 56 x i) (l : List Int) (hl : l.length = 10) (hx : a.eval x = .agg (encs (Value.int .i64) l).toArray) (k : Nat) (hi : a.eval i = .int .i64 k) (hk : k < 10)
    (h : wpList Try.prog ops Q rest (a.put o.dst (.int .i64 (l.getD k 0))) W) : wpList Try.prog ops Q (o :: rest) a W :=
  wpl_index hgd 56 x i ho (Value.int .i64) (0 : Int) l hx k hi Try.underlying56 (by rw [hl]) (by omega) Try.underlying3 rfl size3 h
/-- Places read, in a region that draws. -/
theorem step_load56 {Kc : Act → World → Prop} (N : Tmp) (hd : o.dst = some N) (p : Operand) (ho : o.op = .load 56 p) (g : Nat) (hp : a.eval p = .pointer (some ⟨g, 2, none⟩)) (L : Leaf) (hl : L.ps.length = 10) (hb : Blk W g 58 (leafC L))
    (h : Kc (a.put (some N) (.agg (encs (Value.int .i64) L.ps).toArray)) W) : Oper.wp Try.prog o a W Kc Q := by
  obtain ⟨i, hii, his⟩ := Option.map_eq_some_iff.1 size56
  have hle : (encs (Value.int .i64) L.ps).length = 10 := by rw [encsLen, hl]
  have hcl := run_loadCells_list (P := Try.prog) W ⟨g, 2, none⟩ (encs (Value.int .i64) L.ps) (fun j v hv => by
    have hj : j < L.ps.length := by have := (List.getElem?_eq_some_iff.1 hv).1; simpa [encs] using this
    rw [addr_at]
    rw [encs_at (enc := Value.int .i64) (0 : Int) _ j hj] at hv
    rw [← hv]
    exact hb.cell (leafC_ps L hl j (by omega)))
  have hagg : (isAgg 56).run Try.prog W = .ok true W := by rw [run_isAgg Try.underlying56 W]; rfl
  rw [hle] at hcl
  have hrun : (execOp a.eval o).run Try.prog W = .ok (.value (.agg (encs (Value.int .i64) L.ps).toArray)) W := by
    simp [execOp, ho, hp, Instr.loadAt, Instr.sureAddr, loadVar, Sem.run_bind, hagg, sizeOf, typeInfo, hii, his, hcl]
  unfold Oper.wp
  rw [hrun]
  show Kc (a.put o.dst _) _
  rw [hd]
  exact h
/-- Places written into a table, in a region that draws. -/
theorem step_store85 {Kc : Act → World → Prop} (hN : o.dst = none) (p x : Operand) (ho : o.op = .store 85 p x) (g o' : Nat) (hp : a.eval p = .pointer (some ⟨g, o', none⟩)) (l : List Int) (hl : l.length = 10) (hx : a.eval x = .agg (encs (Value.int .i64) l).toArray) {t : TypeId} {ps : List Int} (hb : Blk W g t (encs (Value.int .i64) ps)) (hfit : o' + 10 ≤ ps.length)
    (h : ∀ w1, Blk w1 g t (encs (Value.int .i64) (ps.take o' ++ l ++ ps.drop (o' + 10))) → W.grownBy w1 (some g) → w1.heap.size = W.heap.size → Kc a w1) : Oper.wp Try.prog o a W Kc Q := by
  obtain ⟨i, hii, his⟩ := Option.map_eq_some_iff.1 size85
  have hle : (encs (Value.int .i64) l).length = 10 := by rw [encsLen, hl]
  have hst := run_storeCells_at Try.prog g o' t (encs (Value.int .i64) l) 0 (encs (Value.int .i64) ps).toArray W hb (by simp [hle]; rw [encsLen]; omega) (fun v hv => by
    obtain ⟨x, _, rfl⟩ := List.mem_map.1 hv
    rfl)
  have e : (encs (Value.int .i64) ps).take o' ++ encs (Value.int .i64) l ++ (encs (Value.int .i64) ps).drop (o' + 10) = encs (Value.int .i64) (ps.take o' ++ l ++ ps.drop (o' + 10)) := by simp [encs, List.map_take, List.map_drop]
  have hrun : (execOp a.eval o).run Try.prog W = .ok .skip (W.setRow g (encs (Value.int .i64) (ps.take o' ++ l ++ ps.drop (o' + 10))).toArray) := by
    simp only [Nat.add_zero, hle] at hst
    rw [e] at hst
    simp [execOp, ho, hp, hx, Instr.storeAt, Instr.sureAddr, storeVar, sizeOf, typeInfo, hii, his, Value.cells, hst, hle]
  have h2 := h _ (setRow_heap W g _ _ t _ hb) (grown_setRow _ _ _) (by simp)
  unfold Oper.wp
  rw [hrun]
  have e2 : a.put o.dst undef = a := by rw [hN]; rfl
  show Kc (a.put o.dst undef) _
  rw [e2]
  exact h2
end
end Go.Proofs.Ytkkmmbbnaafhlaa.Tab
