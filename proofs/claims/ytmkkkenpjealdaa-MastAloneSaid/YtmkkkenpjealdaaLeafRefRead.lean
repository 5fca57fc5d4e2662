/- The walks of layer 7's reference: a sector read. -/
import Derived.Test.YtmkkkenpjealdaaLeafRead
import Derived.Test.YtmkkkenpjealdaaWGuard
namespace Go.Proofs.Ytmkkkenpjealdaa.LeafWalks
set_option linter.unusedSimpArgs false
open Go.RowKit Go.Proofs.YtmkkkenpjealdaaW.PrintWords Go.Proofs.YtmkkkenpjealdaaW.PrintLast Go.Proofs.YtmkkkenpjealdaaW.PrintMore PlainWord CrcPlain PlainSec CrcMem CrcWalks CrcRef Arr SecWord SecMem SecRef

theorem numL_small (p : List Int) (hp : Bytes p) (a : Int) : numL p a 4 = getN p a 4 := by
  have := getN_bound hp a 4
  have p4 : (256 : Int) ^ 4 = 4294967296 := by decide
  unfold numL
  rw [if_neg (by omega)]
theorem numL_bounds (p : List Int) (hp : Bytes p) (a : Int) (n : Nat) : -1 ≤ numL p a n ∧ numL p a n ≤ 1099511627776 := by
  have := (getN_bound hp a n).1
  unfold numL
  split <;> omega
/-- What the reference reads, of which k places. -/
def refSome (p : List Int) (k : Nat) : Leaf := ⟨numL p 1 8, numL p 9 4, upTo (leafOf p).ps k⟩
theorem refSome_length (p : List Int) (k : Nat) : (refSome p k).ps.length = 10 := by unfold refSome; rw [upTo_length, leafOf_length]
theorem refSome_zero (p : List Int) : refSome p 0 = ⟨numL p 1 8, numL p 9 4, zeros 10⟩ := by unfold refSome; rw [upTo_zero, leafOf_length]
theorem refSome_ps (p : List Int) : (refSome p 10).ps = (leafOf p).ps := by
  have := upTo_all (leafOf p).ps
  rw [leafOf_length] at this
  exact this
theorem refSome_ok (p : List Int) (hp : Bytes p) : leafOk (refSome p 10) = leafOk (leafOf p) := by
  have h9 := numL_small p hp 9
  have hps := refSome_ps p
  unfold leafOk
  rw [Bool.eq_iff_iff, decide_eq_true_eq, decide_eq_true_eq]
  unfold leafOkH leafOkP
  rw [hps]
  show ((1 ≤ numL p 1 8 ∧ numL p 1 8 ≤ 1099511627776 ∧ 0 ≤ numL p 9 4 ∧ numL p 9 4 ≤ 4096) ∧ _) ↔ ((1 ≤ getN p 1 8 ∧ getN p 1 8 ≤ 1099511627776 ∧ 0 ≤ getN p 9 4 ∧ getN p 9 4 ≤ 4096) ∧ _)
  rw [h9]
  have hb := (getN_bound hp 1 8).1
  have : (1 ≤ numL p 1 8 ∧ numL p 1 8 ≤ 1099511627776) ↔ (1 ≤ getN p 1 8 ∧ getN p 1 8 ≤ 1099511627776) := by
    unfold numL
    split <;> omega
  constructor
  · rintro ⟨⟨a, b, c⟩, d⟩; exact ⟨⟨(this.1 ⟨a, b⟩).1, (this.1 ⟨a, b⟩).2, c⟩, d⟩
  · rintro ⟨⟨a, b, c⟩, d⟩; exact ⟨⟨(this.2 ⟨a, b⟩).1, (this.2 ⟨a, b⟩).2, c⟩, d⟩
theorem refSome_eq (p : List Int) (hp : Bytes p) (h : leafOk (leafOf p) = true) : refSome p 10 = leafOf p := by
  obtain ⟨⟨_, h2, _⟩, _⟩ := of_decide_eq_true h
  have h2' : getN p 1 8 ≤ 1099511627776 := h2
  have e1 : numL p 1 8 = getN p 1 8 := by unfold numL; rw [if_neg (by omega)]
  have e3 := refSome_ps p
  have e4 : refSome p 10 = ⟨numL p 1 8, numL p 9 4, (refSome p 10).ps⟩ := rfl
  rw [e4, e3, e1, numL_small p hp]
  rfl
/-- Are the bytes from 53 up to k noughts? -/
def nought (p : List Int) (k : Nat) : Bool := (List.range (k - 53)).all fun j => p.getD (53 + j) 0 == 0
theorem nought_succ (p : List Int) (k : Nat) (h : 53 ≤ k) : nought p (k + 1) = (nought p k && (p.getD k 0 == 0)) := by
  unfold nought
  rw [show k + 1 - 53 = (k - 53) + 1 by omega, List.range_succ, List.all_append]
  simp only [List.all_cons, List.all_nil, Bool.and_true]
  rw [show 53 + (k - 53) = k by omega]
theorem nought_iff (p : List Int) (k : Nat) : nought p k = true ↔ ∀ j, 53 ≤ j → j < k → p.getD j 0 = 0 := by
  unfold nought
  rw [List.all_eq_true]
  constructor
  · intro h j h1 h2
    have := h (j - 53) (List.mem_range.2 (by omega))
    rw [show 53 + (j - 53) = j by omega] at this
    exact beq_iff_eq.1 this
  · intro h j hj
    exact beq_iff_eq.2 (h _ (by omega) (by have := List.mem_range.1 hj; omega))
def refOk (p : List Int) (k : Nat) : Bool := ((p.getD 0 0 == 128) && leafOk (leafOf p)) && nought p k
theorem refOk_read (p : List Int) (hp : Bytes p) (hl : p.length = 64) (hr : rightB p = true) : leafRead p = if refOk p 60 = true then (leafOf p, 0) else (leaf0, 7) := by
  unfold leafRead
  rw [if_pos hr]
  have h := leaf_ref p hp hl hr
  have : (p.getD 0 0 = 128 ∧ leafOk (leafOf p) = true ∧ leafLay (leafOf p) = p) ↔ refOk p 60 = true := by
    rw [h]
    unfold refOk
    rw [Bool.and_eq_true, Bool.and_eq_true, beq_iff_eq, nought_iff]
    exact ⟨fun ⟨a, b, c⟩ => ⟨⟨a, b⟩, c⟩, fun ⟨⟨a, b⟩, c⟩ => ⟨a, b, c⟩⟩
  by_cases hc : refOk p 60 = true
  · rw [if_pos (this.2 hc), if_pos hc]
  · rw [if_neg (fun g => hc (this.1 g)), if_neg hc]
section
variable {ops : Array Oper} {S : World → Prop} {o : Oper} {a : Act} {Kc : Act → World → Prop} {Q : Exit → Act → World → Prop} {W : World}
theorem step_alloc24 (N : Tmp) (hd : o.dst = some N) (ho : o.op = .alloc 24) (h : ∀ w1 g, W.heap.size ≤ g → LB w1 g leaf0 → W.grownBy w1 none → Kc (a.put (some N) (.pointer (some ⟨g, 0, none⟩))) w1) : Oper.wp Try.prog o a W Kc Q :=
  step_alloc N hd 24 ho _ zero24 _ rfl h
theorem step_store24 (hN : o.dst = none) (p x : Operand) (ho : o.op = .store 24 p x) (g : Nat) (hp : a.eval p = .pointer (some ⟨g, 0, none⟩)) (L : Leaf) (hx : a.eval x = .agg (leafC L).toArray) (hl : L.ps.length = 10) {M : Leaf} (hb : LB W g M) (hm : M.ps.length = 10)
    (h : ∀ w1, LB w1 g L → W.grownBy w1 (some g) → w1.heap.size = W.heap.size → Kc a w1) : Oper.wp Try.prog o a W Kc Q :=
  step_storeAll hN 24 p x ho g hp _ hx (size24' L hl) (leafC_one L) hb (by rw [leafC_length L hl, leafC_length M hm]) h
theorem yields_build24 (hw : Region.wanted o (yielded ops a.tmps) = true) (x y : Operand) (ho : o.op = .build 24 #[(0, x), (1, y)]) (g i : Int) (hx : a.eval x = .int .i64 g) (hy : a.eval y = .int .i64 i) : YieldsIf Try.prog ops S o (.agg (leafC ⟨g, i, zeros 10⟩).toArray) a :=
  Or.inl ⟨hw, fun w _ => by simp only [execOp, ho, List.map_toArray, List.map_cons, List.map_nil, hx, hy]; kernel_rfl⟩
end
set_option maxHeartbeats 4000000 in
theorem refread_calls (w : World) (p : List Int) (hp : Bytes p) (hl : p.length = 64) : Calls Try.prog 25 #[.agg (encs (Value.int .u8) p).toArray] w fun e w' => e = .returned (.tuple #[.agg (leafC (leafRead p).1).toArray, .int .i64 (leafRead p).2]) ∧ Below w.heap.size w w' := by
  have HW := Aside0.mk (Keeps.refl w)
  have HP := Aside0.mk hp
  clear hp
  go_enter Try.func25, Try.ntmps25
  go_wp2_with (first | ((with_reducible refine gate_dst (N := 1) rfl ?_); refine box28 rfl (.tmp 0) rfl p rfl ?_; intro w1 a1 h1 h2 h3; have H1 := Aside0.mk (HW.out.new h3 h2); clear h2 h3) | ((with_reducible refine gate_dst (N := 2) rfl ?_); refine alloc24 rfl rfl ?_; intro w2 a2 h4 h5 h6; have H2 := Aside0.mk (H1.out.new h6 h5); clear h5 h6) | ((with_reducible refine gate_dst (N := 8) rfl ?_); refine load28 rfl (.tmp 1) rfl a1 rfl H2.out.tail.head hl ?_))
  have hb1 := h1
  have hb2 : w.heap.size ≤ a2 := by have := H1.out.size; omega
  have hne : a1 ≠ a2 := by have := H1.out.head.lt; omega
  refine (summed_calls _ p HP.out hl).mono ?_
  rintro e w3 ⟨rfl, h7⟩
  have H3 := Aside0.mk (H2.out.step h7)
  clear h7 H2 H1
  by_cases hr : rightB p = true
  · rw [hr]
    go_upto_region 3 with (fail)
    go_cut [4] from 12 to 16 (fun v wc => ∃ a3, v = .pointer (some ⟨a3, 0, none⟩) ∧ w.heap.size ≤ a3 ∧ a1 ≠ a3 ∧ a2 ≠ a3 ∧ Aside0 (Keeps w [(a3, 24, leafC (refSome p 0)), (a2, 24, leafC leaf0), (a1, 28, encs (Value.int .u8) p)] wc))
    case first =>
      refine wp_region_held_drew (S := (fun w' => Keeps w [(a2, 24, leafC leaf0), (a1, 28, encs (Value.int .u8) p)] w')) (by kernel_rfl) (by exact H3.out.drew) (fun hHeld => ?_)
      refine wpAnyH_tk (i := 0) (v := _) 12 rfl rfl (by kernel_rfl) (by kernel_rfl) (by kernel_rfl) (fun _ _ _ h => h) (yields_load (by rfl) 28 (.tmp 1) rfl a1 rfl (fun _ h => h.tail.head) Try.underlying28 rfl (size28' hl)) hHeld ?_
      (try simp only [Act.put, List.setIfInBounds_toArray, List.set_cons_zero, List.set_cons_succ])
      refine wpAnyH_tk (i := 2) (v := _) 14 rfl rfl (by kernel_rfl) (by kernel_rfl) (by kernel_rfl) (fun _ _ _ h => h) (yields_load (by rfl) 28 (.tmp 1) rfl a1 rfl (fun _ h => h.tail.head) Try.underlying28 rfl (size28' hl)) hHeld ?_
      (try simp only [Act.put, List.setIfInBounds_toArray, List.set_cons_zero, List.set_cons_succ])
      refine wpAnyH_ready (rs := [1, 5]) (by kernel_rfl) (by simp) (AllReadyH.cons rfl (fun K hK => ?_) (AllReadyH.cons rfl (fun K hK => ?_) AllReadyH.nil))
      · skip
        go_simp
        go_wp2_with ((go_at_call 54; refine (num54 _ p HP.out hl 1 8 (by omega) (by omega)).mono ?_; rintro e wx ⟨rfl, hb⟩; (try replace hA := hA.below' hb); have hHX := hHeld.step hb))
        refine hK.out _ _ (by exact hHX) (fun hHeld => ?_)
        clear hK K
        refine wpAnyH_ready (rs := [3, 5]) (by kernel_rfl) (by simp) (AllReadyH.cons rfl (fun K hK => ?_) (AllReadyH.cons rfl (fun K hK => ?_) AllReadyH.nil))
        · skip
          go_simp
          go_wp2_with ((go_at_call 54; refine (num54 _ p HP.out hl 9 4 (by omega) (by omega)).mono ?_; rintro e wx ⟨rfl, hb⟩; (try replace hA := hA.below' hb); have hHX := hHeld.step hb))
          refine hK.out _ _ (by exact hHX) (fun hHeld => ?_)
          clear hK K
          refine wpAnyH_tk (i := 4) (v := _) 16 rfl rfl (by kernel_rfl) (by kernel_rfl) (by kernel_rfl) (fun _ _ _ h => h) (yields_build24 (by rfl) (.tmp 13) (.tmp 15) rfl _ _ rfl rfl) hHeld ?_
          (try simp only [Act.put, List.setIfInBounds_toArray, List.set_cons_zero, List.set_cons_succ])
          refine wpAnyH_one (i := 5) (by kernel_rfl) rfl (fun K hK => ?_)
          rw [if_pos (by rfl)]
          refine step_alloc24 4 rfl rfl ?_; intro wx a3 hg hA hgr; have hHX := hHeld.fresh hgr; have hb3 : w.heap.size ≤ a3 := Nat.le_trans hHeld.size hg; have hn1 : a1 ≠ a3 := (by have := hHeld.tail.head.lt; omega); have hn2 : a2 ≠ a3 := (by have := hHeld.head.lt; omega); clear hgr hg
          refine hK.out _ _ (by exact hHX) (fun hHeld => ?_)
          clear hK K
          (try simp only [Act.put, List.setIfInBounds_toArray, List.set_cons_zero, List.set_cons_succ])
          refine wpAnyH_one (i := 6) (by kernel_rfl) rfl (fun K hK => ?_)
          rw [if_pos (by rfl)]
          refine step_store24 rfl (.tmp 4) (.tmp 16) rfl a3 rfl (refSome p 0) (by rw [refSome_zero]; rfl) (refSome_length p 0) hA rfl ?_; intro wx hA2 hgr hsz; have hHX := hHeld.grown hgr hb3 (by simp; omega)
          refine hK.out _ _ (by exact hHX) (fun hHeld => ?_)
          clear hK K
          (try simp only [Act.put, List.setIfInBounds_toArray, List.set_cons_zero, List.set_cons_succ])
          refine wpAnyH_done (by kernel_rfl) ?_ _
          (go_wp2_with fail; go_meet; case rel => exact ⟨a3, rfl, hb3, hn1, hn2, ⟨hHX.cons hA2⟩⟩)
        · skip
          rw [if_pos (by rfl)]
          refine step_alloc24 4 rfl rfl ?_; intro wx a3 hg hA hgr; have hHX := hHeld.fresh hgr; have hb3 : w.heap.size ≤ a3 := Nat.le_trans hHeld.size hg; have hn1 : a1 ≠ a3 := (by have := hHeld.tail.head.lt; omega); have hn2 : a2 ≠ a3 := (by have := hHeld.head.lt; omega); clear hgr hg
          refine hK.out _ _ (by exact hHX) (fun hHeld => ?_)
          clear hK K
          (try simp only [Act.put, List.setIfInBounds_toArray, List.set_cons_zero, List.set_cons_succ])
          refine wpAnyH_one (i := 3) (by kernel_rfl) rfl (fun K hK => ?_)
          go_simp
          go_wp2_with ((go_at_call 54; refine (num54 _ p HP.out hl 9 4 (by omega) (by omega)).mono ?_; rintro e wx ⟨rfl, hb⟩; (try replace hA := hA.below' hb); have hHX := hHeld.step hb))
          refine hK.out _ _ (by exact hHX) (fun hHeld => ?_)
          clear hK K
          refine wpAnyH_tk (i := 4) (v := _) 16 rfl rfl (by kernel_rfl) (by kernel_rfl) (by kernel_rfl) (fun _ _ _ h => h) (yields_build24 (by rfl) (.tmp 13) (.tmp 15) rfl _ _ rfl rfl) hHeld ?_
          (try simp only [Act.put, List.setIfInBounds_toArray, List.set_cons_zero, List.set_cons_succ])
          refine wpAnyH_one (i := 6) (by kernel_rfl) rfl (fun K hK => ?_)
          rw [if_pos (by rfl)]
          refine step_store24 rfl (.tmp 4) (.tmp 16) rfl a3 rfl (refSome p 0) (by rw [refSome_zero]; rfl) (refSome_length p 0) hA rfl ?_; intro wx hA2 hgr hsz; have hHX := hHeld.grown hgr hb3 (by simp; omega)
          refine hK.out _ _ (by exact hHX) (fun hHeld => ?_)
          clear hK K
          (try simp only [Act.put, List.setIfInBounds_toArray, List.set_cons_zero, List.set_cons_succ])
          refine wpAnyH_done (by kernel_rfl) ?_ _
          (go_wp2_with fail; go_meet; case rel => exact ⟨a3, rfl, hb3, hn1, hn2, ⟨hHX.cons hA2⟩⟩)
      · skip
        rw [if_pos (by rfl)]
        refine step_alloc24 4 rfl rfl ?_; intro wx a3 hg hA hgr; have hHX := hHeld.fresh hgr; have hb3 : w.heap.size ≤ a3 := Nat.le_trans hHeld.size hg; have hn1 : a1 ≠ a3 := (by have := hHeld.tail.head.lt; omega); have hn2 : a2 ≠ a3 := (by have := hHeld.head.lt; omega); clear hgr hg
        refine hK.out _ _ (by exact hHX) (fun hHeld => ?_)
        clear hK K
        (try simp only [Act.put, List.setIfInBounds_toArray, List.set_cons_zero, List.set_cons_succ])
        refine wpAnyH_one (i := 1) (by kernel_rfl) rfl (fun K hK => ?_)
        go_simp
        go_wp2_with ((go_at_call 54; refine (num54 _ p HP.out hl 1 8 (by omega) (by omega)).mono ?_; rintro e wx ⟨rfl, hb⟩; (try replace hA := hA.below' hb); have hHX := hHeld.step hb))
        refine hK.out _ _ (by exact hHX) (fun hHeld => ?_)
        clear hK K
        refine wpAnyH_one (i := 3) (by kernel_rfl) rfl (fun K hK => ?_)
        go_simp
        go_wp2_with ((go_at_call 54; refine (num54 _ p HP.out hl 9 4 (by omega) (by omega)).mono ?_; rintro e wx ⟨rfl, hb⟩; (try replace hA := hA.below' hb); have hHX := hHeld.step hb))
        refine hK.out _ _ (by exact hHX) (fun hHeld => ?_)
        clear hK K
        refine wpAnyH_tk (i := 4) (v := _) 16 rfl rfl (by kernel_rfl) (by kernel_rfl) (by kernel_rfl) (fun _ _ _ h => h) (yields_build24 (by rfl) (.tmp 13) (.tmp 15) rfl _ _ rfl rfl) hHeld ?_
        (try simp only [Act.put, List.setIfInBounds_toArray, List.set_cons_zero, List.set_cons_succ])
        refine wpAnyH_one (i := 6) (by kernel_rfl) rfl (fun K hK => ?_)
        rw [if_pos (by rfl)]
        refine step_store24 rfl (.tmp 4) (.tmp 16) rfl a3 rfl (refSome p 0) (by rw [refSome_zero]; rfl) (refSome_length p 0) hA rfl ?_; intro wx hA2 hgr hsz; have hHX := hHeld.grown hgr hb3 (by simp; omega)
        refine hK.out _ _ (by exact hHX) (fun hHeld => ?_)
        clear hK K
        (try simp only [Act.put, List.setIfInBounds_toArray, List.set_cons_zero, List.set_cons_succ])
        refine wpAnyH_done (by kernel_rfl) ?_ _
        (go_wp2_with fail; go_meet; case rel => exact ⟨a3, rfl, hb3, hn1, hn2, ⟨hHX.cons hA2⟩⟩)
    case rest =>
      obtain ⟨a3, rfl, hb3, hn1, hn2, H4⟩ := hcut
      clear H3
      go_wp2_with fail
      go_loopw [5] (fun i wr => ∃ k : Nat, k ≤ 10 ∧ i = .int .i64 k ∧ Aside0 (Keeps w [(a3, 24, leafC (refSome p k)), (a2, 24, leafC leaf0), (a1, 28, encs (Value.int .u8) p)] wr)) (fun i _ => 10 - (intOf i).toNat)
      case atStart => exact ⟨0, by omega, rfl, H4⟩
      case round =>
        clear H4
        obtain ⟨k, hk, rfl, HK⟩ := hrel
        by_cases hlt : k < 10
        · have HX := Aside0.mk ((leafOf_place p k hlt).trans (numL_small p HP.out _).symm)
          go_wp2_with ((with_reducible refine gate_dst (N := 22) rfl ?_); refine load28 rfl (.tmp 1) rfl a1 rfl HK.out.tail.tail.head hl ?_)
          rw [show 13 + 4 * (k : Int) = ((13 + 4 * k : Nat) : Int) by omega]
          refine (num54 _ p HP.out hl (13 + 4 * k) 4 (by omega) (by omega)).mono ?_
          rintro e w5 ⟨rfl, hb⟩
          have HK5 := Aside0.mk (HK.out.step hb)
          have hc := LB.place HK5.out.head k (by rw [refSome_length]; exact hlt)
          have hf := HK5.out.head.frozen (2 + k)
          rw [← HX.out]
          obtain ⟨x, hx⟩ : ∃ x, x = (leafOf p).ps.getD k 0 := ⟨_, rfl⟩
          have HXX := Aside0.mk hx
          rw [← hx]
          clear hx hb HK
          go_wp2_with fail
          go_roundw
          case rel => exact ⟨k + 1, by omega, by go_num, ⟨HK5.out.put (grown_set _ a3 (2 + k) _) hb3 (by simp; omega) (by
            have := LB.setPlace HK5.out.head k x
            have e : (⟨(refSome p k).gen, (refSome p k).idx, (refSome p k).ps.set k x⟩ : Leaf) = refSome p (k + 1) := by
              unfold refSome
              have := upTo_succ (leafOf p).ps k (by rw [leafOf_length]; exact hlt)
              rw [← HXX.out] at this
              rw [this]
            rw [e] at this
            exact this)⟩⟩
          case measure => simp [intOf]; omega
        · obtain rfl : k = 10 := by omega
          have hrd := refOk_read p HP.out hl hr
          have hok := refSome_ok p HP.out
          have hc0 := Blk.encAt HK.out.tail.tail.head (0 : Int) 0 (by omega)
          have hmb := HP.out.getD 0
          obtain ⟨m, hm⟩ : ∃ m, m = p.getD 0 0 := ⟨_, rfl⟩
          have HM := Aside0.mk hm
          rw [← hm] at hc0 hmb
          have HRD := Aside0.mk hrd
          have HOK := Aside0.mk hok
          have h10 := refSome_length p 10
          clear hm hrd hok
          go_upto_region 8 with (fail)
          go_cut [6] from 29 to 35 (fun v wc => v = .bool (refOk p 53) ∧ Aside0 (Keeps w [(a3, 24, leafC (refSome p 10)), (a2, 24, leafC leaf0), (a1, 28, encs (Value.int .u8) p)] wc))
          case first =>
            by_cases hm1 : m = 128
            · subst hm1
              have hd : ((128 : Int) == 128) = true := rfl
              go_wp2_with ((with_reducible refine gate_dst (N := 33) rfl ?_); refine gate_guard (by rfl) ?_; refine load24 (L := refSome p 10) rfl (.tmp 4) rfl a3 rfl h10 HK.out.head ?_)
              refine (refright_calls wr (refSome p 10) h10 (by rw [refSome_ps]; exact leafOf_wf p HP.out)).mono ?_
              rintro e w6 ⟨rfl, hb⟩
              have HK6 := Aside0.mk (HK.out.step hb)
              rw [HOK.out]
              clear hb hc0
              go_wp2_with fail
              go_meet
              case rel => exact ⟨by unfold refOk; rw [← HM.out]; simp [nought], HK6⟩
            · have hd : (m == 128) = false := by simp; exact hm1
              have HD := Aside0.mk hd
              go_wp2_with fail
              go_meet
              case rel => exact ⟨by unfold refOk; rw [← HM.out, HD.out]; rfl, HK⟩
          case rest =>
            clear HK hc0
            obtain ⟨rfl, HK⟩ := hcut
            go_wp2_with fail
            go_loopw [6, 7] (fun v i wr => ∃ k : Nat, 53 ≤ k ∧ k ≤ 60 ∧ i = .int .i64 k ∧ v = .bool (refOk p k) ∧ Aside0 (Keeps w [(a3, 24, leafC (refSome p 10)), (a2, 24, leafC leaf0), (a1, 28, encs (Value.int .u8) p)] wr)) (fun _ i _ => 60 - (intOf i).toNat)
            case atStart => exact ⟨53, by omega, by omega, rfl, rfl, HK⟩
            case round =>
              clear HK
              obtain ⟨k, hk0, hk1, rfl, rfl, HK⟩ := hrel
              by_cases hlt : k < 60
              · have hc := Blk.encAt HK.out.tail.tail.head (0 : Int) k (by omega)
                have HS := Aside0.mk (show refOk p (k + 1) = (refOk p k && (p.getD k 0 == 0)) by unfold refOk; rw [nought_succ p k hk0]; simp only [Bool.and_assoc])
                obtain ⟨x, hx⟩ : ∃ x, x = p.getD k 0 := ⟨_, rfl⟩
                rw [← hx] at hc HS
                clear hx
                cases hq : refOk p k
                · rw [hq] at HS
                  go_wp2_with fail
                  go_roundw
                  case rel => exact ⟨k + 1, by omega, by omega, by go_num, by rw [HS.out]; rfl, HK⟩
                  case measure => simp [intOf]; omega
                · rw [hq, Bool.true_and] at HS
                  go_wp2_with fail
                  go_roundw
                  case rel => exact ⟨k + 1, by omega, by omega, by go_num, by rw [HS.out], HK⟩
                  case measure => simp [intOf]; omega
              · obtain rfl : k = 60 := by omega
                obtain ⟨b, hb⟩ : ∃ b, b = refOk p 60 := ⟨_, rfl⟩
                have HBB := Aside0.mk hb
                rw [← hb] at HRD
                rw [← hb]
                clear hb
                cases b
                · go_wp2_with (first | ((with_reducible refine gate_dst (N := 49) rfl ?_); refine build24z rfl rfl ?_) | ((with_reducible refine gate_store (t := 24) (p := 2) rfl ?_); refine store24 rfl rfl (.tmp 2) (.tmp 49) rfl a2 rfl leaf0 rfl rfl HK.out.tail.head rfl ?_; intro w5 h6 h7 h8; have HZ := Aside0.mk (Keeps.put1 HK.out h7 hb2 (by simp; omega) (by simp; omega) h6); clear h6 h7))
                  refine bodyPost_ret (results_ct rfl _ _ a2 24 _ (0, 0) _ rfl HZ.out.tail.head Try.underlying24 rfl (size24' leaf0 rfl)) rfl ?_
                  exact ⟨by rw [HRD.out]; rfl, HZ.out.below⟩
                · have hok : leafOk (leafOf p) = true := by
                    have := HBB.out.symm
                    unfold refOk at this
                    rw [Bool.and_eq_true, Bool.and_eq_true] at this
                    exact this.1.2
                  have heq := refSome_eq p HP.out hok
                  have hlo := leafOf_length p
                  rw [heq] at HK
                  clear heq hok
                  go_wp2_with (first | ((with_reducible refine gate_dst (N := 50) rfl ?_); refine load24 rfl (.tmp 4) rfl a3 rfl hlo HK.out.head ?_) | ((with_reducible refine gate_store (t := 24) (p := 2) rfl ?_); refine store24 rfl rfl (.tmp 2) (.tmp 50) rfl a2 rfl (leafOf p) rfl hlo HK.out.tail.head rfl ?_; intro w5 h6 h7 h8; have HZ := Aside0.mk (Keeps.put1 HK.out h7 hb2 (by simp; omega) (by simp; omega) h6); clear h6 h7))
                  refine bodyPost_ret (results_ct rfl _ _ a2 24 _ (0, 0) _ rfl HZ.out.tail.head Try.underlying24 rfl (size24' (leafOf p) hlo)) rfl ?_
                  exact ⟨by rw [HRD.out]; rfl, HZ.out.below⟩
  · have hr0 : rightB p = false := by simpa using hr
    have hrd : leafRead p = (leaf0, 8) := by unfold leafRead; rw [if_neg hr]
    rw [hr0]
    go_wp2_with (first | ((with_reducible refine gate_dst (N := 11) rfl ?_); refine build24z rfl rfl ?_) | ((with_reducible refine gate_store (t := 24) (p := 2) rfl ?_); refine store24 rfl rfl (.tmp 2) (.tmp 11) rfl a2 rfl leaf0 rfl rfl H3.out.head rfl ?_; intro w4 h6 h7 h8; have H4 := Aside0.mk (H3.out.put h7 hb2 (by simp; omega) h6); clear h6 h7))
    refine bodyPost_ret (results_ct rfl _ _ a2 24 _ (0, 0) _ rfl H4.out.head Try.underlying24 rfl (size24' leaf0 rfl)) rfl ?_
    exact ⟨by rw [hrd]; rfl, H4.out.below⟩
end Go.Proofs.Ytmkkkenpjealdaa.LeafWalks
