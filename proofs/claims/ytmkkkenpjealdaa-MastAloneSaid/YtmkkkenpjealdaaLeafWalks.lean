/- The walks of layer 7: which leaves are right. -/
import Derived.Test.YtmkkkenpjealdaaLeafPlain
import Derived.Test.YtmkkkenpjealdaaSecNum
namespace Go.Proofs.Ytmkkkenpjealdaa.LeafWalks
open Go.RowKit Go.Proofs.YtmkkkenpjealdaaW.PrintWords Go.Proofs.YtmkkkenpjealdaaW.PrintLast Go.Proofs.YtmkkkenpjealdaaW.PrintMore PlainWord CrcPlain PlainSec CrcMem CrcWalks CrcRef Arr SecWord SecMem SecRef

/-- A leaf's cells. -/
def leafC (L : Leaf) : List Value := [.int .i64 L.gen, .int .i64 L.idx] ++ encs (Value.int .i64) L.ps
theorem leafC_length (L : Leaf) (h : L.ps.length = 10) : (leafC L).length = 12 := by simp [leafC, encs, h]
theorem size24 : (Try.prog.info? 24).map (·.size) = some 12 := by kernel_rfl
theorem size3 : (Try.prog.info? 3).map (·.size) = some 1 := by kernel_rfl
theorem zero24 : (Try.prog.info? 24).map (·.zero) = some (some (.agg (leafC leaf0).toArray)) := by kernel_rfl
theorem size24' (L : Leaf) (h : L.ps.length = 10) : (Try.prog.info? 24).map (·.size) = some (leafC L).length := by rw [size24, leafC_length L h]
theorem leafC_one (L : Leaf) : ∀ v ∈ leafC L, v.oneCell' = true := by
  intro v hv
  simp only [leafC, encs, List.mem_append, List.mem_cons, List.not_mem_nil, or_false, List.mem_map] at hv
  rcases hv with (rfl | rfl) | ⟨x, _, rfl⟩ <;> rfl
/-- A variable that holds a leaf. -/
abbrev LB (w : World) (g : Nat) (L : Leaf) : Prop := Blk w g 24 (leafC L)
section
variable {w : World} {g : Nat} {L : Leaf}
theorem LB.gen (h : LB w g L) : w.cell? ⟨g, 0, none⟩ = some (.int .i64 L.gen) := h.cell rfl
theorem LB.idx (h : LB w g L) : w.cell? ⟨g, 1, none⟩ = some (.int .i64 L.idx) := h.cell rfl
theorem LB.place (h : LB w g L) (k : Nat) (hk : k < L.ps.length) : w.cell? ⟨g, 2 + k, none⟩ = some (.int .i64 (L.ps.getD k 0)) := by
  refine h.cell ?_
  unfold leafC
  rw [List.getElem?_append_right (by simp)]
  have : 2 + k - [Value.int .i64 L.gen, Value.int .i64 L.idx].length = k := by simp
  rw [this]
  exact encs_at (0 : Int) L.ps k hk
end
section
variable {ops : Array Oper} {rest : List Oper} {o : Oper} {a : Act} {Q : Exit → Act → World → Prop} {W : World}
theorem box24 (hgd : o.guard = none) (x : Operand) (ho : o.op = .box 24 x) (L : Leaf) (hx : a.eval x = .agg (leafC L).toArray) (h : ∀ w1 g, W.heap.size ≤ g → LB w1 g L → W.grownBy w1 none → wpList Try.prog ops Q rest (a.put o.dst (.pointer (some ⟨g, 0, none⟩))) w1) : wpList Try.prog ops Q (o :: rest) a W :=
  wpl_box hgd 24 x ho _ hx _ rfl h
theorem alloc24 (hgd : o.guard = none) (ho : o.op = .alloc 24) (h : ∀ w1 g, W.heap.size ≤ g → LB w1 g leaf0 → W.grownBy w1 none → wpList Try.prog ops Q rest (a.put o.dst (.pointer (some ⟨g, 0, none⟩))) w1) : wpList Try.prog ops Q (o :: rest) a W :=
  wpl_alloc hgd 24 ho _ zero24 _ rfl h
theorem load24 (hgd : o.guard = none) (p : Operand) (ho : o.op = .load 24 p) (g : Nat) (hp : a.eval p = .pointer (some ⟨g, 0, none⟩)) {L : Leaf} (hl : L.ps.length = 10) (hb : LB W g L)
    (h : wpList Try.prog ops Q rest (a.put o.dst (.agg (leafC L).toArray)) W) : wpList Try.prog ops Q (o :: rest) a W :=
  wpl_loadAll hgd 24 p ho g hp hb Try.underlying24 rfl (size24' L hl) h
theorem store24 (hgd : o.guard = none) (hN : o.dst = none) (p x : Operand) (ho : o.op = .store 24 p x) (g : Nat) (hp : a.eval p = .pointer (some ⟨g, 0, none⟩)) (L : Leaf) (hx : a.eval x = .agg (leafC L).toArray) (hl : L.ps.length = 10) {M : Leaf} (hb : LB W g M) (hm : M.ps.length = 10)
    (h : ∀ w1, LB w1 g L → W.grownBy w1 (some g) → w1.heap.size = W.heap.size → wpList Try.prog ops Q rest a w1) : wpList Try.prog ops Q (o :: rest) a W :=
  wpl_storeAll hgd hN 24 p x ho g hp _ hx (size24' L hl) (leafC_one L) hb (by rw [leafC_length L hl, leafC_length M hm]) h
/-- The places of a leaf, read. -/
theorem loadPlaces (hgd : o.guard = none) (p : Operand) (ho : o.op = .load 22 p) (g : Nat) (hp : a.eval p = .pointer (some ⟨g, 2, none⟩)) {L : Leaf} (hl : L.ps.length = 10) (hb : LB W g L)
    (h : wpList Try.prog ops Q rest (a.put o.dst (.agg (encs (Value.int .i64) L.ps).toArray)) W) : wpList Try.prog ops Q (o :: rest) a W :=
  wpl_load hgd 22 p ho ⟨g, 2, none⟩ hp (encs (Value.int .i64) L.ps) Try.underlying22 rfl (by rw [show (encs (Value.int .i64) L.ps).length = 10 by simp [encs, hl]]; kernel_rfl) (fun j v hv => by
    rw [addr_at]
    have hj : j < L.ps.length := by have := (List.getElem?_eq_some_iff.1 hv).1; simpa [encs] using this
    rw [hb.place j hj, ← encs_at (enc := Value.int .i64) (0 : Int) L.ps j hj]
    exact hv) h
end
def wfI (l : List Int) : Prop := ∀ x ∈ l, -9223372036854775808 ≤ x ∧ x ≤ 9223372036854775807
theorem wfI.getD {l : List Int} (h : wfI l) (k : Nat) (hk : k < l.length) : -9223372036854775808 ≤ l.getD k 0 ∧ l.getD k 0 ≤ 9223372036854775807 := by
  rw [List.getD_eq_getElem?_getD, List.getElem?_eq_getElem hk]; exact h _ (List.getElem_mem hk)
theorem leafOk_iff {L : Leaf} (hh : leafOkH L) : leafOk L = true ↔ ∀ k, k < L.ps.length → 0 ≤ L.ps.getD k 0 ∧ L.ps.getD k 0 ≤ 4294967295 := by
  unfold leafOk
  rw [decide_eq_true_eq]
  constructor
  · rintro ⟨_, h⟩ k hk
    rw [List.getD_eq_getElem?_getD, List.getElem?_eq_getElem hk]; exact h _ (List.getElem_mem hk)
  · intro h
    refine ⟨hh, fun x hx => ?_⟩
    obtain ⟨k, hk, rfl⟩ := List.getElem_of_mem hx
    have := h k hk
    rwa [List.getD_eq_getElem?_getD, List.getElem?_eq_getElem hk] at this
theorem leafOk_no {L : Leaf} (hh : ¬ leafOkH L) : leafOk L = false := decide_eq_false fun h => hh h.1
theorem leafOk_bad {L : Leaf} (k : Nat) (hk : k < L.ps.length) (h : ¬ (0 ≤ L.ps.getD k 0 ∧ L.ps.getD k 0 ≤ 4294967295)) : leafOk L = false := by
  by_cases hh : leafOkH L
  · rw [← Bool.not_eq_true, leafOk_iff hh]; exact fun g => h (g k hk)
  · exact leafOk_no hh
set_option maxHeartbeats 1000000 in
theorem right_calls (w : World) (L : Leaf) (hl : L.ps.length = 10) (hw : wfI L.ps) : Calls Try.prog 19 #[.agg (leafC L).toArray] w fun e w' => e = .returned (.bool (leafOk L)) ∧ Below w.heap.size w w' := by
  have HW := Aside0.mk (Below.refl w.heap.size w)
  have HI := Aside0.mk hw
  clear hw
  go_enter Try.func19, Try.ntmps19
  go_wp2_with (first | ((with_reducible refine gate_dst (N := 1) rfl ?_); refine box24 rfl (.tmp 0) rfl L rfl ?_; intro w1 g h1 h2 h3; have H2 := Aside0.mk h2; have hx0 := h2.gen; have hx1 := h2.idx; have H3 := Aside0.mk (below_new HW.out HW.out.size h3); clear h2 h3) | ((with_reducible refine gate_dst (N := 24) rfl ?_); refine loadPlaces rfl (.tmp 23) rfl g rfl hl H2.out ?_))
  all_goals (try (go_ret; refine ⟨?_, H3.out⟩; rw [leafOk_no (by unfold leafOkH; omega)]; rfl))
  · have hh : leafOkH L := by unfold leafOkH; omega
    have HH := Aside0.mk (leafOk_iff hh)
    clear hh
    go_loopw [25] (fun i wr => ∃ k : Nat, k ≤ 10 ∧ i = .int .i64 k ∧ (∀ j, j < k → 0 ≤ L.ps.getD j 0 ∧ L.ps.getD j 0 ≤ 4294967295) ∧ wr = w1) (fun i _ => 10 - (intOf i).toNat)
    case atStart => exact ⟨0, by omega, rfl, fun j hj => by omega, rfl⟩
    case round =>
      obtain ⟨k, hk, rfl, hall, rfl⟩ := hrel
      have HA := Aside0.mk hall
      clear hall
      by_cases hlt : k < 10
      · have hb := HI.out.getD k (by omega)
        obtain ⟨x, hx⟩ : ∃ x, x = L.ps.getD k 0 := ⟨_, rfl⟩
        have HX := Aside0.mk hx
        rw [← hx] at hb
        have hwr : 0 ≤ x → IntKind.u64.wrap x = x := fun h => by rw [PlainWord.wrap_u64]; omega
        by_cases hok : 0 ≤ x ∧ x ≤ 4294967295
        · have HOK := Aside0.mk hok
          have hd1 : decide (x < 0) = false := by simp; omega
          have hd2 : (IntKind.u64.wrap x != x % 4294967296) = false := by rw [hwr hok.1]; simp; omega
          clear hwr hok
          go_wp2_with ((with_reducible refine gate_dst (N := 27) rfl ?_); refine wpl_index rfl 22 (.tmp 24) (.tmp 25) rfl (Value.int .i64) (0 : Int) L.ps rfl k rfl Try.underlying22 hl.symm (by omega) Try.underlying3 rfl size3 ?_; rw [← hx]; clear hx)
          go_roundw
          case rel => exact ⟨k + 1, by omega, by go_num, fun j hj => by
            by_cases e : j = k
            · rw [e, ← HX.out]; exact HOK.out
            · exact HA.out j (by omega), by first | rfl | trivial⟩
          case measure => simp [intOf]; omega
        · have hbad : leafOk L = false := leafOk_bad k (by omega) (by rw [← hx]; exact hok)
          by_cases hneg : x < 0
          · clear hwr hok
            go_wp2_with ((with_reducible refine gate_dst (N := 27) rfl ?_); refine wpl_index rfl 22 (.tmp 24) (.tmp 25) rfl (Value.int .i64) (0 : Int) L.ps rfl k rfl Try.underlying22 hl.symm (by omega) Try.underlying3 rfl size3 ?_; rw [← hx]; clear hx)
            go_ret
            exact ⟨by first | rfl | (rw [hbad]; rfl), H3.out⟩
          · have hd1 : decide (x < 0) = false := by simp; omega
            have hd2 : (IntKind.u64.wrap x != x % 4294967296) = true := by rw [hwr (by omega)]; simp; omega
            have hd3 : (x != x % 4294967296) = true := by simp; omega
            clear hwr hok
            go_wp2_with ((with_reducible refine gate_dst (N := 27) rfl ?_); refine wpl_index rfl 22 (.tmp 24) (.tmp 25) rfl (Value.int .i64) (0 : Int) L.ps rfl k rfl Try.underlying22 hl.symm (by omega) Try.underlying3 rfl size3 ?_; rw [← hx]; clear hx)
            go_ret
            exact ⟨by first | rfl | (rw [hbad]; rfl), H3.out⟩
      · obtain rfl : k = 10 := by omega
        go_wp2
        go_ret
        refine ⟨?_, H3.out⟩
        rw [HH.out.2 (by rw [hl]; exact HA.out)]
        rfl
set_option maxHeartbeats 1000000 in
theorem refright_calls (w : World) (L : Leaf) (hl : L.ps.length = 10) (hw : wfI L.ps) : Calls Try.prog 20 #[.agg (leafC L).toArray] w fun e w' => e = .returned (.bool (leafOk L)) ∧ Below w.heap.size w w' := by
  have HW := Aside0.mk (Below.refl w.heap.size w)
  have HI := Aside0.mk hw
  clear hw
  go_enter Try.func20, Try.ntmps20
  go_wp2_with ((with_reducible refine gate_dst (N := 1) rfl ?_); refine box24 rfl (.tmp 0) rfl L rfl ?_; intro w1 g h1 h2 h3; have H2 := Aside0.mk h2; have hx0 := h2.gen; have hx1 := h2.idx; have H3 := Aside0.mk (below_new HW.out HW.out.size h3); clear h2 h3)
  all_goals (try (go_ret; refine ⟨?_, H3.out⟩; rw [leafOk_no (by unfold leafOkH; omega)]; rfl))
  · have hh : leafOkH L := by unfold leafOkH; omega
    have HH := Aside0.mk (leafOk_iff hh)
    clear hh
    go_loopw [3] (fun i wr => ∃ k : Nat, k ≤ 10 ∧ i = .int .i64 k ∧ (∀ j, j < k → 0 ≤ L.ps.getD j 0 ∧ L.ps.getD j 0 ≤ 4294967295) ∧ wr = w1) (fun i _ => 10 - (intOf i).toNat)
    case atStart => exact ⟨0, by omega, rfl, fun j hj => by omega, rfl⟩
    case round =>
      obtain ⟨k, hk, rfl, hall, rfl⟩ := hrel
      have HA := Aside0.mk hall
      clear hall
      by_cases hlt : k < 10
      · have hb := HI.out.getD k (by omega)
        have hc := H2.out.place k (by omega)
        obtain ⟨x, hx⟩ : ∃ x, x = L.ps.getD k 0 := ⟨_, rfl⟩
        have HX := Aside0.mk hx
        rw [← hx] at hb hc
        by_cases hok : 0 ≤ x ∧ x ≤ 4294967295
        · have HOK := Aside0.mk hok
          have hd1 : decide (x < 0) = false := by simp; omega
          have hd2 : decide (4294967295 < x) = false := by simp; omega
          clear hok hx
          go_wp2_with fail
          go_roundw
          case rel => exact ⟨k + 1, by omega, by go_num, fun j hj => by
            by_cases e : j = k
            · rw [e, ← HX.out]; exact HOK.out
            · exact HA.out j (by omega), by first | rfl | trivial⟩
          case measure => simp [intOf]; omega
        · have hbad : leafOk L = false := leafOk_bad k (by omega) (by rw [← hx]; exact hok)
          by_cases hneg : x < 0
          · clear hok hx
            go_wp2_with fail
            go_ret
            exact ⟨by first | rfl | (rw [hbad]; rfl), H3.out⟩
          · have hd1 : decide (x < 0) = false := by simp; omega
            have hd2 : decide (4294967295 < x) = true := by simp; omega
            clear hok hx
            go_wp2_with fail
            go_ret
            exact ⟨by first | rfl | (rw [hbad]; rfl), H3.out⟩
      · obtain rfl : k = 10 := by omega
        go_wp2
        go_ret
        refine ⟨?_, H3.out⟩
        rw [HH.out.2 (by rw [hl]; exact HA.out)]
        rfl
end Go.Proofs.Ytmkkkenpjealdaa.LeafWalks
