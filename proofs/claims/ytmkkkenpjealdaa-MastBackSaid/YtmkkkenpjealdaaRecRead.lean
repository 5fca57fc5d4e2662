/- The walks of layer 6: a sector read. -/
import Derived.Test.YtmkkkenpjealdaaRecRef
namespace Go.Proofs.Ytmkkkenpjealdaa.RecWalks
set_option linter.unusedSimpArgs false
set_option linter.unusedVariables false
open Go.RowKit Go.Proofs.YtmkkkenpjealdaaW.PrintWords Go.Proofs.YtmkkkenpjealdaaW.PrintLast Go.Proofs.YtmkkkenpjealdaaW.PrintMore PlainWord CrcPlain PlainSec CrcMem CrcWalks CrcRef Arr SecWord SecMem SecRef LeafWalks

/-- A cell read, in a region that draws. -/
theorem yields_cell {P : Program} {ops : Array Oper} {S : World → Prop} {o : Oper} {a : Act} (hw : Region.wanted o (yielded ops a.tmps) = true) (T : TypeId) (p : Operand) (ho : o.op = .load T p) (ad : Addr) (hp : a.eval p = .pointer (some ad)) {v : Value} (hc : ∀ w, S w → w.cell? ad = some v) {d : TypeDesc} (hu : P.underlying T = some d) (hd : wideT d = false) : YieldsIf P ops S o v a :=
  Or.inl ⟨hw, fun w hS => by
    have h1 := hc w hS
    have h2 : (isAgg T).run P w = .ok false w := by rw [run_isAgg hu, hd]
    unfold execOp
    simp only [ho, hp, Instr.loadAt, Instr.sureAddr, Sem.run_bind, Sem.run_pure, Result.andThen_ok, loadVar, h2]
    simp [h1]⟩
set_option maxHeartbeats 1000000 in
theorem number_calls (w : World) (p : List Int) (g : Nat) (T : TypeId) (hb : BB w g T p) (hp : Bytes p) (hl : p.length = 64) (a n : Nat) (hn : 1 ≤ n ∧ n ≤ 8) (ha : a + n ≤ 64) :
    Calls Try.prog 56 #[.pointer (some ⟨g, 0, none⟩), .int .i64 a, .int .i64 n] w fun e w' => e = .returned (.int .i64 (numL p a n)) ∧ w = w' := by
  have HC := Aside0.mk (BB.readsAll hb (by rw [hl]; decide))
  rw [hl] at HC
  have HP := Aside0.mk hp
  have hb0 := (getN_bound hp a n).1
  clear hb hp
  go_enter Try.func56, Try.ntmps56
  go_wp2_with fail
  refine (get_calls _ 64 64 p _ HC.out HP.out a n hn ha (by omega)).mono ?_
  rintro e w3 ⟨rfl, rfl⟩
  have hq : numL p a n = if getN p a n > 1099511627776 then -1 else getN p a n := rfl
  obtain ⟨x, hx⟩ : ∃ x, x = getN p a n := ⟨_, rfl⟩
  rw [← hx] at hb0 hq
  rw [← hx]
  have HQ := Aside0.mk hq
  clear hq hx
  by_cases hc : x ≤ 1099511627776
  · have hd : decide (1099511627776 < x) = false := by simp; omega
    go_wp2_with fail
    go_ret
    exact ⟨by rw [HQ.out, if_neg (by omega)]; rfl, rfl⟩
  · have hd : decide (1099511627776 < x) = true := by simp; omega
    go_wp2_with fail
    go_ret
    exact ⟨by rw [HQ.out, if_pos (by omega)]; rfl, rfl⟩
/-- What stands of what is read, the data not yet. -/
def recHalf (p : List Int) : Rec := ⟨p.getD 0 0, numL p 1 8, numL p 9 8, numL p 17 4, numL p 21 4, zeros 32⟩
theorem recHalf_length (p : List Int) : (recHalf p).data.length = 32 := rfl
theorem data_copied (p : List Int) (hl : p.length = 64) : (recC (recHalf p)).take 5 ++ encs (Value.int .u8) ((p.drop 25).take 32) ++ (recC (recHalf p)).drop (5 + (encs (Value.int .u8) ((p.drop 25).take 32)).length) = recC (recOf p) := by
  have : (recC (recHalf p)).drop (5 + (encs (Value.int .u8) ((p.drop 25).take 32)).length) = [] := List.drop_of_length_le (by rw [recC_length _ (recHalf_length p)]; simp [encs, hl])
  rw [this, List.append_nil]
  rfl
theorem src25 {w : World} {g : Nat} {T : TypeId} {p : List Int} (h : BB w g T p) (hl : p.length = 64) (j : Nat) (v : Value) (hv : (encs (Value.int .u8) ((p.drop 25).take 32))[j]? = some v) : w.cell? ((⟨g, 25, none⟩ : Addr).add j) = some v := by
  have hj : j < 32 := by have := (List.getElem?_eq_some_iff.1 hv).1; simp [encs, hl] at this; omega
  rw [addr_at, h.encAt (0 : Int) (25 + j) (by omega)]
  rw [encs_at (enc := Value.int .u8) (0 : Int) _ j (by simp [hl]; omega), getD_take hj, getD_drop] at hv
  exact hv
set_option maxRecDepth 10000 in
set_option maxHeartbeats 4000000 in
theorem read_calls (w : World) (p : List Int) (hp : Bytes p) (hl : p.length = 64) : Calls Try.prog 32 #[.agg (encs (Value.int .u8) p).toArray] w fun e w' => e = .returned (.tuple #[.agg (recC (recRead p).1).toArray, .int .i64 (recRead p).2]) ∧ Below w.heap.size w w' := by
  have HW := Aside0.mk (Keeps.refl w)
  have HP := Aside0.mk hp
  clear hp
  go_enter Try.func32, Try.ntmps32
  go_wp2_with (first | ((with_reducible refine gate_dst (N := 1) rfl ?_); refine box28 rfl (.tmp 0) rfl p rfl ?_; intro w1 a1 h1 h2 h3; have H1 := Aside0.mk (HW.out.new h3 h2); clear h2 h3) | ((with_reducible refine gate_dst (N := 2) rfl ?_); refine alloc43 rfl rfl ?_; intro w2 a2 h4 h5 h6; have H2 := Aside0.mk (H1.out.new h6 h5); clear h5 h6))
  have hb2 : w.heap.size ≤ a2 := by have := H1.out.size; omega
  have hne : a1 ≠ a2 := by have := H1.out.head.lt; omega
  have HC := Aside0.mk (BB.readsAll H2.out.tail.head (by rw [hl]; decide))
  rw [hl] at HC
  refine (CrcWalks.right_calls _ _ _ _ _ HC.out (by omega) HP.out (by rw [hl]; decide)).mono ?_
  rintro e w3 ⟨rfl, rfl⟩
  by_cases hr : rightB p = true
  · rw [hr]
    have hmb := HP.out.getD 0
    obtain ⟨m, hm⟩ : ∃ m, m = p.getD 0 0 := ⟨_, rfl⟩
    rw [← hm] at hmb
    have HM := Aside0.mk hm
    have HH := Aside0.mk (show recHalf p = ⟨IntKind.i64.wrap m, numL p 1 8, numL p 9 8, numL p 17 4, numL p 21 4, zeros 32⟩ by rw [show IntKind.i64.wrap m = m by rw [IntKind.wrap_i64]; omega, hm]; rfl)
    clear hm
    go_upto_region 3 with (fail)
    go_cut [4] from 9 to 16 (fun v wc => ∃ a3, v = .pointer (some ⟨a3, 0, none⟩) ∧ w.heap.size ≤ a3 ∧ a1 ≠ a3 ∧ a2 ≠ a3 ∧ Aside0 (Keeps w [(a3, 43, recC (recHalf p)), (a2, 43, recC rec0), (a1, 28, encs (Value.int .u8) p)] wc))
    case first =>
      refine wp_region_held_drew (S := (fun w' => Keeps w [(a2, 43, recC rec0), (a1, 28, encs (Value.int .u8) p)] w')) (by kernel_rfl) (by exact H2.out.drew) (fun hHeld => ?_)
      refine wpAnyH_tk (i := 0) (v := ?vz1) 9 rfl rfl (by kernel_rfl) (by kernel_rfl) (by kernel_rfl) (fun _ _ _ h => h) (Or.inl ⟨by rfl, ?yz1⟩) hHeld ?rz1
      case yz1 => (intro w hSw; go_simp; try with_reducible rfl)
      (try simp only [Act.put, List.setIfInBounds_toArray, List.set_cons_zero, List.set_cons_succ])
      refine wpAnyH_tk (i := 1) (v := _) 10 rfl rfl (by kernel_rfl) (by kernel_rfl) (by kernel_rfl) (fun _ _ _ h => h) (yields_cell (by rfl) 5 (.tmp 9) rfl ⟨a1, 0, none⟩ rfl (v := .int .u8 m) (fun _ h => by rw [HM.out]; exact Blk.encAt h.tail.head (0 : Int) 0 (by omega)) Try.underlying5 rfl) hHeld ?_
      (try simp only [Act.put, List.setIfInBounds_toArray, List.set_cons_zero, List.set_cons_succ])
      refine wpAnyH_tk (i := 2) (v := ?vz2) 11 rfl rfl (by kernel_rfl) (by kernel_rfl) (by kernel_rfl) (fun _ _ _ h => h) (Or.inl ⟨by rfl, ?yz2⟩) hHeld ?rz2
      case yz2 => (intro w hSw; go_simp; try with_reducible rfl)
      (try simp only [Act.put, List.setIfInBounds_toArray, List.set_cons_zero, List.set_cons_succ])
      refine wpAnyH_ready (rs := [3, 8]) (by kernel_rfl) (by simp) (AllReadyH.cons rfl (fun K hK => ?_) (AllReadyH.cons rfl (fun K hK => ?_) AllReadyH.nil))
      · skip
        go_simp
        go_wp2_with ((go_at_call 56; refine (number_calls _ p a1 28 hHeld.tail.head HP.out hl 1 8 (by omega) (by omega)).mono ?_; rintro e wx ⟨rfl, rfl⟩))
        refine hK.out _ _ (by exact hHeld) (fun hHeld => ?_)
        clear hK K
        refine wpAnyH_ready (rs := [4, 8]) (by kernel_rfl) (by simp) (AllReadyH.cons rfl (fun K hK => ?_) (AllReadyH.cons rfl (fun K hK => ?_) AllReadyH.nil))
        · skip
          go_simp
          go_wp2_with ((go_at_call 56; refine (number_calls _ p a1 28 hHeld.tail.head HP.out hl 9 8 (by omega) (by omega)).mono ?_; rintro e wx ⟨rfl, rfl⟩))
          refine hK.out _ _ (by exact hHeld) (fun hHeld => ?_)
          clear hK K
          refine wpAnyH_ready (rs := [5, 8]) (by kernel_rfl) (by simp) (AllReadyH.cons rfl (fun K hK => ?_) (AllReadyH.cons rfl (fun K hK => ?_) AllReadyH.nil))
          · skip
            go_simp
            go_wp2_with ((go_at_call 56; refine (number_calls _ p a1 28 hHeld.tail.head HP.out hl 17 4 (by omega) (by omega)).mono ?_; rintro e wx ⟨rfl, rfl⟩))
            refine hK.out _ _ (by exact hHeld) (fun hHeld => ?_)
            clear hK K
            refine wpAnyH_ready (rs := [6, 8]) (by kernel_rfl) (by simp) (AllReadyH.cons rfl (fun K hK => ?_) (AllReadyH.cons rfl (fun K hK => ?_) AllReadyH.nil))
            · skip
              go_simp
              go_wp2_with ((go_at_call 56; refine (number_calls _ p a1 28 hHeld.tail.head HP.out hl 21 4 (by omega) (by omega)).mono ?_; rintro e wx ⟨rfl, rfl⟩))
              refine hK.out _ _ (by exact hHeld) (fun hHeld => ?_)
              clear hK K
              refine wpAnyH_tk (i := 7) (v := _) 16 rfl rfl (by kernel_rfl) (by kernel_rfl) (by kernel_rfl) (fun _ _ _ h => h) (yields_build43 (by rfl) (.tmp 11) (.tmp 12) (.tmp 13) (.tmp 14) (.tmp 15) rfl _ _ _ _ _ rfl rfl rfl rfl rfl) hHeld ?_
              (try simp only [Act.put, List.setIfInBounds_toArray, List.set_cons_zero, List.set_cons_succ])
              refine wpAnyH_one (i := 8) (by kernel_rfl) rfl (fun K hK => ?_)
              rw [if_pos (by rfl)]
              refine step_alloc43 4 rfl rfl ?_; intro wx a3 hg hA hgr; have hHX := hHeld.fresh hgr; have hb3 : w.heap.size ≤ a3 := Nat.le_trans hHeld.size hg; have hn1 : a1 ≠ a3 := (by have := hHeld.tail.head.lt; omega); have hn2 : a2 ≠ a3 := (by have := hHeld.head.lt; omega); clear hgr hg
              refine hK.out _ _ (by exact hHX) (fun hHeld => ?_)
              clear hK K
              (try simp only [Act.put, List.setIfInBounds_toArray, List.set_cons_zero, List.set_cons_succ])
              refine wpAnyH_one (i := 9) (by kernel_rfl) rfl (fun K hK => ?_)
              rw [if_pos (by rfl)]
              refine step_store43 rfl (.tmp 4) (.tmp 16) rfl a3 rfl (recHalf p) (by rw [HH.out]; rfl) (recHalf_length p) hA rfl ?_; intro wx hA2 hgr hsz; have hHX := hHeld.grown hgr hb3 (by simp; omega)
              refine hK.out _ _ (by exact hHX) (fun hHeld => ?_)
              clear hK K
              (try simp only [Act.put, List.setIfInBounds_toArray, List.set_cons_zero, List.set_cons_succ])
              refine wpAnyH_done (by kernel_rfl) ?_ _
              (go_wp2_with fail; go_meet; case rel => exact ⟨a3, rfl, hb3, hn1, hn2, ⟨hHX.cons hA2⟩⟩)
            · skip
              rw [if_pos (by rfl)]
              refine step_alloc43 4 rfl rfl ?_; intro wx a3 hg hA hgr; have hHX := hHeld.fresh hgr; have hb3 : w.heap.size ≤ a3 := Nat.le_trans hHeld.size hg; have hn1 : a1 ≠ a3 := (by have := hHeld.tail.head.lt; omega); have hn2 : a2 ≠ a3 := (by have := hHeld.head.lt; omega); clear hgr hg
              refine hK.out _ _ (by exact hHX) (fun hHeld => ?_)
              clear hK K
              (try simp only [Act.put, List.setIfInBounds_toArray, List.set_cons_zero, List.set_cons_succ])
              refine wpAnyH_one (i := 6) (by kernel_rfl) rfl (fun K hK => ?_)
              go_simp
              go_wp2_with ((go_at_call 56; refine (number_calls _ p a1 28 hHeld.tail.head HP.out hl 21 4 (by omega) (by omega)).mono ?_; rintro e wx ⟨rfl, rfl⟩))
              refine hK.out _ _ (by exact hHeld) (fun hHeld => ?_)
              clear hK K
              refine wpAnyH_tk (i := 7) (v := _) 16 rfl rfl (by kernel_rfl) (by kernel_rfl) (by kernel_rfl) (fun _ _ _ h => h) (yields_build43 (by rfl) (.tmp 11) (.tmp 12) (.tmp 13) (.tmp 14) (.tmp 15) rfl _ _ _ _ _ rfl rfl rfl rfl rfl) hHeld ?_
              (try simp only [Act.put, List.setIfInBounds_toArray, List.set_cons_zero, List.set_cons_succ])
              refine wpAnyH_one (i := 9) (by kernel_rfl) rfl (fun K hK => ?_)
              rw [if_pos (by rfl)]
              refine step_store43 rfl (.tmp 4) (.tmp 16) rfl a3 rfl (recHalf p) (by rw [HH.out]; rfl) (recHalf_length p) hA rfl ?_; intro wx hA2 hgr hsz; have hHX := hHeld.grown hgr hb3 (by simp; omega)
              refine hK.out _ _ (by exact hHX) (fun hHeld => ?_)
              clear hK K
              (try simp only [Act.put, List.setIfInBounds_toArray, List.set_cons_zero, List.set_cons_succ])
              refine wpAnyH_done (by kernel_rfl) ?_ _
              (go_wp2_with fail; go_meet; case rel => exact ⟨a3, rfl, hb3, hn1, hn2, ⟨hHX.cons hA2⟩⟩)
          · skip
            rw [if_pos (by rfl)]
            refine step_alloc43 4 rfl rfl ?_; intro wx a3 hg hA hgr; have hHX := hHeld.fresh hgr; have hb3 : w.heap.size ≤ a3 := Nat.le_trans hHeld.size hg; have hn1 : a1 ≠ a3 := (by have := hHeld.tail.head.lt; omega); have hn2 : a2 ≠ a3 := (by have := hHeld.head.lt; omega); clear hgr hg
            refine hK.out _ _ (by exact hHX) (fun hHeld => ?_)
            clear hK K
            (try simp only [Act.put, List.setIfInBounds_toArray, List.set_cons_zero, List.set_cons_succ])
            refine wpAnyH_one (i := 5) (by kernel_rfl) rfl (fun K hK => ?_)
            go_simp
            go_wp2_with ((go_at_call 56; refine (number_calls _ p a1 28 hHeld.tail.head HP.out hl 17 4 (by omega) (by omega)).mono ?_; rintro e wx ⟨rfl, rfl⟩))
            refine hK.out _ _ (by exact hHeld) (fun hHeld => ?_)
            clear hK K
            refine wpAnyH_one (i := 6) (by kernel_rfl) rfl (fun K hK => ?_)
            go_simp
            go_wp2_with ((go_at_call 56; refine (number_calls _ p a1 28 hHeld.tail.head HP.out hl 21 4 (by omega) (by omega)).mono ?_; rintro e wx ⟨rfl, rfl⟩))
            refine hK.out _ _ (by exact hHeld) (fun hHeld => ?_)
            clear hK K
            refine wpAnyH_tk (i := 7) (v := _) 16 rfl rfl (by kernel_rfl) (by kernel_rfl) (by kernel_rfl) (fun _ _ _ h => h) (yields_build43 (by rfl) (.tmp 11) (.tmp 12) (.tmp 13) (.tmp 14) (.tmp 15) rfl _ _ _ _ _ rfl rfl rfl rfl rfl) hHeld ?_
            (try simp only [Act.put, List.setIfInBounds_toArray, List.set_cons_zero, List.set_cons_succ])
            refine wpAnyH_one (i := 9) (by kernel_rfl) rfl (fun K hK => ?_)
            rw [if_pos (by rfl)]
            refine step_store43 rfl (.tmp 4) (.tmp 16) rfl a3 rfl (recHalf p) (by rw [HH.out]; rfl) (recHalf_length p) hA rfl ?_; intro wx hA2 hgr hsz; have hHX := hHeld.grown hgr hb3 (by simp; omega)
            refine hK.out _ _ (by exact hHX) (fun hHeld => ?_)
            clear hK K
            (try simp only [Act.put, List.setIfInBounds_toArray, List.set_cons_zero, List.set_cons_succ])
            refine wpAnyH_done (by kernel_rfl) ?_ _
            (go_wp2_with fail; go_meet; case rel => exact ⟨a3, rfl, hb3, hn1, hn2, ⟨hHX.cons hA2⟩⟩)
        · skip
          rw [if_pos (by rfl)]
          refine step_alloc43 4 rfl rfl ?_; intro wx a3 hg hA hgr; have hHX := hHeld.fresh hgr; have hb3 : w.heap.size ≤ a3 := Nat.le_trans hHeld.size hg; have hn1 : a1 ≠ a3 := (by have := hHeld.tail.head.lt; omega); have hn2 : a2 ≠ a3 := (by have := hHeld.head.lt; omega); clear hgr hg
          refine hK.out _ _ (by exact hHX) (fun hHeld => ?_)
          clear hK K
          (try simp only [Act.put, List.setIfInBounds_toArray, List.set_cons_zero, List.set_cons_succ])
          refine wpAnyH_one (i := 4) (by kernel_rfl) rfl (fun K hK => ?_)
          go_simp
          go_wp2_with ((go_at_call 56; refine (number_calls _ p a1 28 hHeld.tail.head HP.out hl 9 8 (by omega) (by omega)).mono ?_; rintro e wx ⟨rfl, rfl⟩))
          refine hK.out _ _ (by exact hHeld) (fun hHeld => ?_)
          clear hK K
          refine wpAnyH_one (i := 5) (by kernel_rfl) rfl (fun K hK => ?_)
          go_simp
          go_wp2_with ((go_at_call 56; refine (number_calls _ p a1 28 hHeld.tail.head HP.out hl 17 4 (by omega) (by omega)).mono ?_; rintro e wx ⟨rfl, rfl⟩))
          refine hK.out _ _ (by exact hHeld) (fun hHeld => ?_)
          clear hK K
          refine wpAnyH_one (i := 6) (by kernel_rfl) rfl (fun K hK => ?_)
          go_simp
          go_wp2_with ((go_at_call 56; refine (number_calls _ p a1 28 hHeld.tail.head HP.out hl 21 4 (by omega) (by omega)).mono ?_; rintro e wx ⟨rfl, rfl⟩))
          refine hK.out _ _ (by exact hHeld) (fun hHeld => ?_)
          clear hK K
          refine wpAnyH_tk (i := 7) (v := _) 16 rfl rfl (by kernel_rfl) (by kernel_rfl) (by kernel_rfl) (fun _ _ _ h => h) (yields_build43 (by rfl) (.tmp 11) (.tmp 12) (.tmp 13) (.tmp 14) (.tmp 15) rfl _ _ _ _ _ rfl rfl rfl rfl rfl) hHeld ?_
          (try simp only [Act.put, List.setIfInBounds_toArray, List.set_cons_zero, List.set_cons_succ])
          refine wpAnyH_one (i := 9) (by kernel_rfl) rfl (fun K hK => ?_)
          rw [if_pos (by rfl)]
          refine step_store43 rfl (.tmp 4) (.tmp 16) rfl a3 rfl (recHalf p) (by rw [HH.out]; rfl) (recHalf_length p) hA rfl ?_; intro wx hA2 hgr hsz; have hHX := hHeld.grown hgr hb3 (by simp; omega)
          refine hK.out _ _ (by exact hHX) (fun hHeld => ?_)
          clear hK K
          (try simp only [Act.put, List.setIfInBounds_toArray, List.set_cons_zero, List.set_cons_succ])
          refine wpAnyH_done (by kernel_rfl) ?_ _
          (go_wp2_with fail; go_meet; case rel => exact ⟨a3, rfl, hb3, hn1, hn2, ⟨hHX.cons hA2⟩⟩)
      · skip
        rw [if_pos (by rfl)]
        refine step_alloc43 4 rfl rfl ?_; intro wx a3 hg hA hgr; have hHX := hHeld.fresh hgr; have hb3 : w.heap.size ≤ a3 := Nat.le_trans hHeld.size hg; have hn1 : a1 ≠ a3 := (by have := hHeld.tail.head.lt; omega); have hn2 : a2 ≠ a3 := (by have := hHeld.head.lt; omega); clear hgr hg
        refine hK.out _ _ (by exact hHX) (fun hHeld => ?_)
        clear hK K
        (try simp only [Act.put, List.setIfInBounds_toArray, List.set_cons_zero, List.set_cons_succ])
        refine wpAnyH_one (i := 3) (by kernel_rfl) rfl (fun K hK => ?_)
        go_simp
        go_wp2_with ((go_at_call 56; refine (number_calls _ p a1 28 hHeld.tail.head HP.out hl 1 8 (by omega) (by omega)).mono ?_; rintro e wx ⟨rfl, rfl⟩))
        refine hK.out _ _ (by exact hHeld) (fun hHeld => ?_)
        clear hK K
        refine wpAnyH_one (i := 4) (by kernel_rfl) rfl (fun K hK => ?_)
        go_simp
        go_wp2_with ((go_at_call 56; refine (number_calls _ p a1 28 hHeld.tail.head HP.out hl 9 8 (by omega) (by omega)).mono ?_; rintro e wx ⟨rfl, rfl⟩))
        refine hK.out _ _ (by exact hHeld) (fun hHeld => ?_)
        clear hK K
        refine wpAnyH_one (i := 5) (by kernel_rfl) rfl (fun K hK => ?_)
        go_simp
        go_wp2_with ((go_at_call 56; refine (number_calls _ p a1 28 hHeld.tail.head HP.out hl 17 4 (by omega) (by omega)).mono ?_; rintro e wx ⟨rfl, rfl⟩))
        refine hK.out _ _ (by exact hHeld) (fun hHeld => ?_)
        clear hK K
        refine wpAnyH_one (i := 6) (by kernel_rfl) rfl (fun K hK => ?_)
        go_simp
        go_wp2_with ((go_at_call 56; refine (number_calls _ p a1 28 hHeld.tail.head HP.out hl 21 4 (by omega) (by omega)).mono ?_; rintro e wx ⟨rfl, rfl⟩))
        refine hK.out _ _ (by exact hHeld) (fun hHeld => ?_)
        clear hK K
        refine wpAnyH_tk (i := 7) (v := _) 16 rfl rfl (by kernel_rfl) (by kernel_rfl) (by kernel_rfl) (fun _ _ _ h => h) (yields_build43 (by rfl) (.tmp 11) (.tmp 12) (.tmp 13) (.tmp 14) (.tmp 15) rfl _ _ _ _ _ rfl rfl rfl rfl rfl) hHeld ?_
        (try simp only [Act.put, List.setIfInBounds_toArray, List.set_cons_zero, List.set_cons_succ])
        refine wpAnyH_one (i := 9) (by kernel_rfl) rfl (fun K hK => ?_)
        rw [if_pos (by rfl)]
        refine step_store43 rfl (.tmp 4) (.tmp 16) rfl a3 rfl (recHalf p) (by rw [HH.out]; rfl) (recHalf_length p) hA rfl ?_; intro wx hA2 hgr hsz; have hHX := hHeld.grown hgr hb3 (by simp; omega)
        refine hK.out _ _ (by exact hHX) (fun hHeld => ?_)
        clear hK K
        (try simp only [Act.put, List.setIfInBounds_toArray, List.set_cons_zero, List.set_cons_succ])
        refine wpAnyH_done (by kernel_rfl) ?_ _
        (go_wp2_with fail; go_meet; case rel => exact ⟨a3, rfl, hb3, hn1, hn2, ⟨hHX.cons hA2⟩⟩)
    case rest =>
      obtain ⟨a3, rfl, hb3, hn1, hn2, H4⟩ := hcut
      clear H2 H1 HC hmb HM HH
      go_upto_region 4 with (fail)
      refine wp_region_held_drew (S := (fun w' => Keeps w [] w')) (by kernel_rfl) (by exact H4.out.drew.tail.tail.tail) (fun hHeld => ?_)
      refine wpAnyH_tk (i := 0) (v := ?vz3) 17 rfl rfl (by kernel_rfl) (by kernel_rfl) (by kernel_rfl) (fun _ _ _ h => h) (Or.inl ⟨by rfl, ?yz3⟩) hHeld ?rz3
      case yz3 => (intro w hSw; go_simp; try with_reducible rfl)
      (try simp only [Act.put, List.setIfInBounds_toArray, List.set_cons_zero, List.set_cons_succ])
      refine wpAnyH_tk (i := 1) (v := ?vz4) 18 rfl rfl (by kernel_rfl) (by kernel_rfl) (by kernel_rfl) (fun _ _ _ h => h) (Or.inl ⟨by rfl, ?yz4⟩) hHeld ?rz4
      case yz4 => (intro w hSw; go_simp; try with_reducible rfl)
      (try simp only [Act.put, List.setIfInBounds_toArray, List.set_cons_zero, List.set_cons_succ])
      refine wpAnyH_tk (i := 2) (v := ?vz5) 19 rfl rfl (by kernel_rfl) (by kernel_rfl) (by kernel_rfl) (fun _ _ _ h => h) (Or.inl ⟨by rfl, ?yz5⟩) hHeld ?rz5
      case yz5 => (intro w hSw; go_simp; try with_reducible rfl)
      (try simp only [Act.put, List.setIfInBounds_toArray, List.set_cons_zero, List.set_cons_succ])
      refine wpAnyH_one (i := 3) (by kernel_rfl) rfl (fun K hK => ?_)
      rw [if_pos (by rfl)]
      refine step_copy (.tmp 18) (.tmp 19) 30 5 rfl Try.underlying30 size5 rfl rfl H4.out.drew.head (encs (Value.int .u8) ((p.drop 25).take 32)) (by simp [encs, hl]) (src25 H4.out.drew.tail.tail.head hl) (by rw [recC_length _ (recHalf_length p)]; simp [encs, hl]) (enc1 _) ?_; intro wx hC hgr hsz; rw [data_copied p hl] at hC; have hHX := H4.out.drew.put hgr hb3 (by simp; omega) hC
      refine hK.out _ _ (by exact hHX.tail.tail.tail) (fun hHeld => ?_)
      clear hK K
      (try simp only [Act.put, List.setIfInBounds_toArray, List.set_cons_zero, List.set_cons_succ])
      refine wpAnyH_done (by kernel_rfl) ?_ _
      skip
      have HK := Aside0.mk hHX
      clear H4 hHX hHeld
      have hrd : ∀ b : Bool, recOk (recOf p) = true → b = decide (recLay (recOf p) = p) → recRead p = if b = true then (recOf p, 0) else (rec0, 7) := by
        intro b h1 h2
        unfold recRead
        rw [if_pos hr, h2]
        by_cases h3 : recLay (recOf p) = p
        · rw [if_pos ⟨h1, h3⟩, if_pos (by rw [decide_eq_true h3])]
        · rw [if_neg (fun h => h3 h.2), if_neg (by rw [decide_eq_false h3]; decide)]
      have hrd0 : recOk (recOf p) = false → recRead p = (rec0, 7) := by
        intro h
        unfold recRead
        rw [if_pos hr, if_neg (fun g => by rw [h] at g; exact absurd g.1 (by decide))]
      have h32 := recOf_length p hl
      have hdb := recOf_bytes HP.out
      have hll := recLay_length _ h32
      have hlb := recLay_bytes (recOf p) hdb
      go_upto_region 5 with (fail)
      cases hok : recOk (recOf p)
      · have HR := Aside0.mk (hrd0 hok)
        clear hrd hrd0
        refine wp_region_held_drew (S := (fun w' => Keeps w [(a3, 43, recC (recOf p)), (a2, 43, recC rec0), (a1, 28, encs (Value.int .u8) p)] w')) (by kernel_rfl) (by exact HK.out.drew) (fun hHeld => ?_)
        refine wpAnyH_tk (i := 0) (v := _) 21 rfl rfl (by kernel_rfl) (by kernel_rfl) (by kernel_rfl) (fun _ _ _ h => h) (yields_load (by rfl) 43 (.tmp 4) rfl a3 rfl (fun _ h => h.head) Try.underlying43 rfl (size43' _ h32)) hHeld ?_
        (try simp only [Act.put, List.setIfInBounds_toArray, List.set_cons_zero, List.set_cons_succ])
        refine wpAnyH_one (i := 1) (by kernel_rfl) rfl (fun K hK => ?_)
        go_simp
        go_wp2_with ((go_at_call 27; refine (right_calls _ (recOf p) h32 hdb).mono ?_; rintro e wx ⟨rfl, hb⟩; rw [hok]; have hHX := hHeld.step hb))
        refine hK.out _ _ (by exact hHX) (fun hHeld => ?_)
        clear hK K
        refine wpAnyH_tk (i := 2) (v := ?vz6) 23 rfl rfl (by kernel_rfl) (by kernel_rfl) (by kernel_rfl) (fun _ _ _ h => h) (Or.inl ⟨by rfl, ?yz6⟩) hHeld ?rz6
        case yz6 => (intro w hSw; go_simp; try with_reducible rfl)
        (try simp only [Act.put, List.setIfInBounds_toArray, List.set_cons_zero, List.set_cons_succ])
        refine wpAnyH_tk (i := 3) (v := ?vz7) 24 rfl rfl (by kernel_rfl) (by kernel_rfl) (by kernel_rfl) (fun _ _ _ h => h) (Or.inl ⟨by rfl, ?yz7⟩) hHeld ?rz7
        case yz7 => (intro w hSw; go_simp; try with_reducible rfl)
        (try simp only [Act.put, List.setIfInBounds_toArray, List.set_cons_zero, List.set_cons_succ])
        refine wpAnyH_tk (i := 4) (v := undef) 25 rfl rfl (by kernel_rfl) (by kernel_rfl) (by kernel_rfl) (fun _ _ _ h => h) (yields_not (by rfl)) hHeld ?_
        (try simp only [Act.put, List.setIfInBounds_toArray, List.set_cons_zero, List.set_cons_succ])
        refine wpAnyH_tk (i := 5) (v := undef) 26 rfl rfl (by kernel_rfl) (by kernel_rfl) (by kernel_rfl) (fun _ _ _ h => h) (yields_not (by rfl)) hHeld ?_
        (try simp only [Act.put, List.setIfInBounds_toArray, List.set_cons_zero, List.set_cons_succ])
        refine wpAnyH_tk (i := 6) (v := undef) 27 rfl rfl (by kernel_rfl) (by kernel_rfl) (by kernel_rfl) (fun _ _ _ h => h) (yields_not (by rfl)) hHeld ?_
        (try simp only [Act.put, List.setIfInBounds_toArray, List.set_cons_zero, List.set_cons_succ])
        refine wpAnyH_tk (i := 7) (v := undef) 28 rfl rfl (by kernel_rfl) (by kernel_rfl) (by kernel_rfl) (fun _ _ _ h => h) (yields_not (by rfl)) hHeld ?_
        (try simp only [Act.put, List.setIfInBounds_toArray, List.set_cons_zero, List.set_cons_succ])
        refine wpAnyH_tk (i := 8) (v := ?vz8) 29 rfl rfl (by kernel_rfl) (by kernel_rfl) (by kernel_rfl) (fun _ _ _ h => h) (Or.inl ⟨by rfl, ?yz8⟩) hHeld ?rz8
        case yz8 => (intro w hSw; go_simp; try with_reducible rfl)
        (try simp only [Act.put, List.setIfInBounds_toArray, List.set_cons_zero, List.set_cons_succ])
        refine wpAnyH_done (by kernel_rfl) ?_ _
        skip
        go_wp2_with (first | ((with_reducible refine gate_dst (N := 30) rfl ?_); refine build43z rfl rfl ?_) | ((with_reducible refine gate_store (t := 43) (p := 2) rfl ?_); refine store43 rfl rfl (.tmp 2) (.tmp 30) rfl a2 rfl rec0 rfl rfl hHeld.tail.head rfl ?_; intro w5 h6 h7 h8; have HZ := Aside0.mk (Keeps.put1 hHeld h7 hb2 (by simp; omega) (by simp; omega) h6); clear h6 h7))
        refine bodyPost_ret (results_ct rfl _ _ a2 43 _ (0, 0) _ rfl HZ.out.tail.head Try.underlying43 rfl (size43' rec0 rfl)) rfl ?_
        exact ⟨by rw [HR.out]; rfl, HZ.out.below⟩
      · obtain ⟨b, hbd⟩ : ∃ b, b = decide (recLay (recOf p) = p) := ⟨_, rfl⟩
        have HR := Aside0.mk (hrd b hok hbd)
        have HE := Aside0.mk (eq28 hll hl hlb HP.out)
        rw [← hbd] at HE
        clear hrd hrd0 hbd
        refine wp_region_held_drew (S := (fun w' => Keeps w [(a3, 43, recC (recOf p)), (a2, 43, recC rec0), (a1, 28, encs (Value.int .u8) p)] w')) (by kernel_rfl) (by exact HK.out.drew) (fun hHeld => ?_)
        refine wpAnyH_tk (i := 0) (v := _) 21 rfl rfl (by kernel_rfl) (by kernel_rfl) (by kernel_rfl) (fun _ _ _ h => h) (yields_load (by rfl) 43 (.tmp 4) rfl a3 rfl (fun _ h => h.head) Try.underlying43 rfl (size43' _ h32)) hHeld ?_
        (try simp only [Act.put, List.setIfInBounds_toArray, List.set_cons_zero, List.set_cons_succ])
        refine wpAnyH_one (i := 1) (by kernel_rfl) rfl (fun K hK => ?_)
        go_simp
        go_wp2_with ((go_at_call 27; refine (right_calls _ (recOf p) h32 hdb).mono ?_; rintro e wx ⟨rfl, hb⟩; rw [hok]; have hHX := hHeld.step hb))
        refine hK.out _ _ (by exact hHX) (fun hHeld => ?_)
        clear hK K
        refine wpAnyH_tk (i := 2) (v := ?vz9) 23 rfl rfl (by kernel_rfl) (by kernel_rfl) (by kernel_rfl) (fun _ _ _ h => h) (Or.inl ⟨by rfl, ?yz9⟩) hHeld ?rz9
        case yz9 => (intro w hSw; go_simp; try with_reducible rfl)
        (try simp only [Act.put, List.setIfInBounds_toArray, List.set_cons_zero, List.set_cons_succ])
        refine wpAnyH_tk (i := 3) (v := ?vz10) 24 rfl rfl (by kernel_rfl) (by kernel_rfl) (by kernel_rfl) (fun _ _ _ h => h) (Or.inl ⟨by rfl, ?yz10⟩) hHeld ?rz10
        case yz10 => (intro w hSw; go_simp; try with_reducible rfl)
        (try simp only [Act.put, List.setIfInBounds_toArray, List.set_cons_zero, List.set_cons_succ])
        refine wpAnyH_tk (i := 4) (v := _) 25 rfl rfl (by kernel_rfl) (by kernel_rfl) (by kernel_rfl) (fun _ _ _ h => h) (yields_load (by rfl) 43 (.tmp 4) rfl a3 rfl (fun _ h => h.head) Try.underlying43 rfl (size43' _ h32)) hHeld ?_
        (try simp only [Act.put, List.setIfInBounds_toArray, List.set_cons_zero, List.set_cons_succ])
        refine wpAnyH_tk (i := 6) (v := _) 27 rfl rfl (by kernel_rfl) (by kernel_rfl) (by kernel_rfl) (fun _ _ _ h => h) (yields_load (by rfl) 28 (.tmp 1) rfl a1 rfl (fun _ h => h.tail.tail.head) Try.underlying28 rfl (size28' hl)) hHeld ?_
        (try simp only [Act.put, List.setIfInBounds_toArray, List.set_cons_zero, List.set_cons_succ])
        refine wpAnyH_one (i := 5) (by kernel_rfl) rfl (fun K hK => ?_)
        go_simp
        go_wp2_with ((go_at_call 29; refine (lay_calls _ (recOf p) h32 hdb hok).mono ?_; rintro e wx ⟨rfl, hb⟩; have hHX := hHeld.step hb))
        refine hK.out _ _ (by exact hHX) (fun hHeld => ?_)
        clear hK K
        refine wpAnyH_tk (i := 7) (v := _) 28 rfl rfl (by kernel_rfl) (by kernel_rfl) (by kernel_rfl) (fun _ _ _ h => h) (yields_neq (by rfl) 28 28 (.tmp 26) (.tmp 27) rfl (encs (Value.int .u8) (recLay (recOf p))) (encs (Value.int .u8) p) rfl rfl b HE.out eqg28 rfl) hHeld ?_
        (try simp only [Act.put, List.setIfInBounds_toArray, List.set_cons_zero, List.set_cons_succ])
        refine wpAnyH_tk (i := 8) (v := ?vz11) 29 rfl rfl (by kernel_rfl) (by kernel_rfl) (by kernel_rfl) (fun _ _ _ h => h) (Or.inl ⟨by rfl, ?yz11⟩) hHeld ?rz11
        case yz11 => (intro w hSw; go_simp; try with_reducible rfl)
        (try simp only [Act.put, List.setIfInBounds_toArray, List.set_cons_zero, List.set_cons_succ])
        refine wpAnyH_done (by kernel_rfl) ?_ _
        skip
        cases b
        · go_wp2_with (first | ((with_reducible refine gate_dst (N := 30) rfl ?_); refine build43z rfl rfl ?_) | ((with_reducible refine gate_store (t := 43) (p := 2) rfl ?_); refine store43 rfl rfl (.tmp 2) (.tmp 30) rfl a2 rfl rec0 rfl rfl hHeld.tail.head rfl ?_; intro w5 h6 h7 h8; have HZ := Aside0.mk (Keeps.put1 hHeld h7 hb2 (by simp; omega) (by simp; omega) h6); clear h6 h7))
          refine bodyPost_ret (results_ct rfl _ _ a2 43 _ (0, 0) _ rfl HZ.out.tail.head Try.underlying43 rfl (size43' rec0 rfl)) rfl ?_
          exact ⟨by rw [HR.out]; rfl, HZ.out.below⟩
        · go_wp2_with (first | ((with_reducible refine gate_dst (N := 31) rfl ?_); refine load43 rfl (.tmp 4) rfl a3 rfl h32 hHeld.head ?_) | ((with_reducible refine gate_store (t := 43) (p := 2) rfl ?_); refine store43 rfl rfl (.tmp 2) (.tmp 31) rfl a2 rfl (recOf p) rfl h32 hHeld.tail.head rfl ?_; intro w5 h6 h7 h8; have HZ := Aside0.mk (Keeps.put1 hHeld h7 hb2 (by simp; omega) (by simp; omega) h6); clear h6 h7))
          refine bodyPost_ret (results_ct rfl _ _ a2 43 _ (0, 0) _ rfl HZ.out.tail.head Try.underlying43 rfl (size43' (recOf p) h32)) rfl ?_
          exact ⟨by rw [HR.out]; rfl, HZ.out.below⟩
  · have hr0 : rightB p = false := by simpa using hr
    have hrd : recRead p = (rec0, 8) := by unfold recRead; rw [if_neg hr]
    rw [hr0]
    go_wp2_with (first | ((with_reducible refine gate_dst (N := 8) rfl ?_); refine build43z rfl rfl ?_) | ((with_reducible refine gate_store (t := 43) (p := 2) rfl ?_); refine store43 rfl rfl (.tmp 2) (.tmp 8) rfl a2 rfl rec0 rfl rfl H2.out.head rfl ?_; intro w4 h6 h7 h8; have H3 := Aside0.mk (H2.out.put h7 hb2 (by simp; omega) h6); clear h6 h7))
    refine bodyPost_ret (results_ct rfl _ _ a2 43 _ (0, 0) _ rfl H3.out.head Try.underlying43 rfl (size43' rec0 rfl)) rfl ?_
    exact ⟨by rw [hrd]; rfl, H3.out.below⟩
end Go.Proofs.Ytmkkkenpjealdaa.RecWalks
