/- The walks of layer 8 and its reference: masts. -/
import Derived.Test.YtmkkkenpjealdaaMastMem
import Derived.Test.YtmkkkenpjealdaaLeafRef
/-! The walks of layer 8: which masts are right; a number of a sector; a sector's sum. -/
namespace Go.Proofs.Ytmkkkenpjealdaa.MastWalks
set_option linter.unusedSimpArgs false
set_option linter.unusedVariables false
open Go.RowKit Go.Proofs.YtmkkkenpjealdaaW.PrintWords Go.Proofs.YtmkkkenpjealdaaW.PrintLast Go.Proofs.YtmkkkenpjealdaaW.PrintMore PlainWord CrcPlain PlainSec CrcMem CrcWalks CrcRef Arr SecWord SecMem SecRef LeafWalks RecWalks

def inRange (n l : Int) : Bool := decide (l ≤ n ∧ n ≤ 1099511627776)
theorem fits_calls (w : World) (n l : Int) : Calls Try.prog 58 #[.int .i64 n, .int .i64 l] w fun e w' => e = .returned (.bool (inRange n l)) ∧ w = w' := by
  obtain ⟨R, hR⟩ : ∃ R, R = inRange n l := ⟨_, rfl⟩
  have HI := Aside0.mk (show R = true ↔ l ≤ n ∧ n ≤ 1099511627776 by rw [hR]; unfold inRange; rw [decide_eq_true_eq])
  rw [← hR]
  clear hR
  go_enter Try.func58, Try.ntmps58
  go_wp2_with fail
  all_goals (go_ret; refine ⟨?_, rfl⟩; refine congrArg (fun b => Ending.returned (Value.bool b)) (Bool.eq_iff_iff.2 (Iff.trans ?_ HI.out.symm)); simp <;> omega)
theorem mast_ok (F : Bool) (G E S P U : Int) : mastOk ⟨F, G, E, S, P, U⟩ = true ↔ (inRange G 1 = true ∧ inRange E 1 = true ∧ inRange S 0 = true ∧ 0 ≤ P ∧ P ≤ 4096 ∧ (F = true ∨ U = 0)) := by
  unfold mastOk inRange mastNums
  simp only [decide_eq_true_eq]
  constructor
  · rintro ⟨⟨a, b, c, d, e, f, g, h⟩, i⟩; exact ⟨⟨a, b⟩, ⟨c, d⟩, ⟨e, f⟩, g, h, i⟩
  · rintro ⟨⟨a, b⟩, ⟨c, d⟩, ⟨e, f⟩, g, h, i⟩; exact ⟨⟨a, b, c, d, e, f, g, h⟩, i⟩
set_option maxHeartbeats 4000000 in
theorem right_calls (w : World) (m : Mast) : Calls Try.prog 35 #[.agg (mastC m).toArray] w fun e w' => e = .returned (.bool (mastOk m)) ∧ Below w.heap.size w w' := by
  have HW := Aside0.mk (Below.refl w.heap.size w)
  obtain ⟨F, G, E, S, P, U⟩ := m
  have hi := mast_ok F G E S P U
  obtain ⟨R, hR⟩ : ∃ R, R = mastOk ⟨F, G, E, S, P, U⟩ := ⟨_, rfl⟩
  obtain ⟨b1, hb1⟩ : ∃ b, b = inRange G 1 := ⟨_, rfl⟩
  obtain ⟨b2, hb2⟩ : ∃ b, b = inRange E 1 := ⟨_, rfl⟩
  obtain ⟨b3, hb3⟩ : ∃ b, b = inRange S 0 := ⟨_, rfl⟩
  rw [← hR, ← hb1, ← hb2, ← hb3] at hi
  have HI := Aside0.mk hi
  have HR := Aside0.mk hR
  have HB1 := Aside0.mk (show b1 = true ↔ 1 ≤ G ∧ G ≤ 1099511627776 by rw [hb1]; unfold inRange; rw [decide_eq_true_eq])
  have HB2 := Aside0.mk (show b2 = true ↔ 1 ≤ E ∧ E ≤ 1099511627776 by rw [hb2]; unfold inRange; rw [decide_eq_true_eq])
  have HB3 := Aside0.mk (show b3 = true ↔ 0 ≤ S ∧ S ≤ 1099511627776 by rw [hb3]; unfold inRange; rw [decide_eq_true_eq])
  clear hi hb1 hb2 hb3
  rw [← hR]
  clear hR
  go_enter Try.func35, Try.ntmps35
  go_upto_region 1 with ((with_reducible refine gate_dst (N := 1) rfl ?_); refine box56 rfl (.tmp 0) rfl ⟨F, G, E, S, P, U⟩ rfl ?_; intro w1 g h1 h2 h3; have H2 := Aside0.mk h2; have hx0 := h2.foot; have hx1 := h2.gen; have hx2 := h2.epoch; have hx3 := h2.seq; have hx4 := h2.pages; have hx5 := h2.sum; have H3 := Aside0.mk (below_new HW.out HW.out.size h3); clear h2 h3)
  go_cut [3] from 6 to 13 (fun v wc => v = .bool b1 ∧ wc = w1)
  case first =>
    go_wp2_with fail
    all_goals (go_meet; case rel => exact ⟨congrArg Value.bool (Bool.eq_iff_iff.2 (Iff.trans (by simp <;> omega) HB1.out.symm)), rfl⟩)
  case rest =>
    obtain ⟨rfl, rfl⟩ := hcut
    go_upto_region 2 with (fail)
    go_cut [4] from 14 to 21 (fun v wd => v = .bool b2 ∧ wd = wc)
    case first =>
      go_wp2_with fail
      all_goals (go_meet; case rel => exact ⟨congrArg Value.bool (Bool.eq_iff_iff.2 (Iff.trans (by simp <;> omega) HB2.out.symm)), rfl⟩)
    case rest =>
      obtain ⟨rfl, rfl⟩ := hcut
      go_upto_region 3 with (fail)
      go_cut [5] from 22 to 29 (fun v we => v = .bool b3 ∧ we = wc)
      case first =>
        go_wp2_with fail
        all_goals (go_meet; case rel => exact ⟨congrArg Value.bool (Bool.eq_iff_iff.2 (Iff.trans (by simp <;> omega) HB3.out.symm)), rfl⟩)
      case rest =>
        obtain ⟨rfl, rfl⟩ := hcut
        cases b1
        · go_wp2_with fail
          go_ret
          exact ⟨congrArg (fun b => Ending.returned (Value.bool b)) (Bool.eq_iff_iff.2 (Iff.trans (by simp) HI.out.symm)), H3.out⟩
        · cases b2
          · go_wp2_with fail
            go_ret
            exact ⟨congrArg (fun b => Ending.returned (Value.bool b)) (Bool.eq_iff_iff.2 (Iff.trans (by simp) HI.out.symm)), H3.out⟩
          · cases b3
            · go_wp2_with fail
              go_ret
              exact ⟨congrArg (fun b => Ending.returned (Value.bool b)) (Bool.eq_iff_iff.2 (Iff.trans (by simp) HI.out.symm)), H3.out⟩
            · cases F
              · go_wp2_with fail
                all_goals (go_ret; exact ⟨congrArg (fun b => Ending.returned (Value.bool b)) (Bool.eq_iff_iff.2 (Iff.trans (by simp <;> omega) HI.out.symm)), H3.out⟩)
              · go_wp2_with fail
                all_goals (go_ret; exact ⟨congrArg (fun b => Ending.returned (Value.bool b)) (Bool.eq_iff_iff.2 (Iff.trans (by simp <;> omega) HI.out.symm)), H3.out⟩)
set_option maxHeartbeats 4000000 in
theorem refright_calls (w : World) (m : Mast) : Calls Try.prog 36 #[.agg (mastC m).toArray] w fun e w' => e = .returned (.bool (mastOk m)) ∧ Below w.heap.size w w' := by
  have HW := Aside0.mk (Below.refl w.heap.size w)
  obtain ⟨F, G, E, S, P, U⟩ := m
  have hi := mast_ok F G E S P U
  obtain ⟨R, hR⟩ : ∃ R, R = mastOk ⟨F, G, E, S, P, U⟩ := ⟨_, rfl⟩
  obtain ⟨b1, hb1⟩ : ∃ b, b = inRange G 1 := ⟨_, rfl⟩
  obtain ⟨b2, hb2⟩ : ∃ b, b = inRange E 1 := ⟨_, rfl⟩
  obtain ⟨b3, hb3⟩ : ∃ b, b = inRange S 0 := ⟨_, rfl⟩
  rw [← hR, ← hb1, ← hb2, ← hb3] at hi
  have HI := Aside0.mk hi
  have HB1 := Aside0.mk hb1
  have HB2 := Aside0.mk hb2
  have HB3 := Aside0.mk hb3
  clear hi hb1 hb2 hb3
  rw [← hR]
  clear hR
  go_enter Try.func36, Try.ntmps36
  go_wp2_with ((with_reducible refine gate_dst (N := 1) rfl ?_); refine box56 rfl (.tmp 0) rfl ⟨F, G, E, S, P, U⟩ rfl ?_; intro w1 g h1 h2 h3; have H2 := Aside0.mk h2; have hx0 := h2.foot; have hx1 := h2.gen; have hx2 := h2.epoch; have hx3 := h2.seq; have hx4 := h2.pages; have hx5 := h2.sum; have H3 := Aside0.mk (below_new HW.out HW.out.size h3); clear h2 h3)
  refine (fits_calls _ G 1).mono ?_
  rintro e w2 ⟨rfl, rfl⟩
  rw [← HB1.out]
  cases b1
  · go_wp2_with fail
    go_ret
    exact ⟨congrArg (fun b => Ending.returned (Value.bool b)) (Bool.eq_iff_iff.2 (Iff.trans (by simp) HI.out.symm)), H3.out⟩
  · go_wp2_with fail
    refine (fits_calls _ E 1).mono ?_
    rintro e w2 ⟨rfl, rfl⟩
    rw [← HB2.out]
    cases b2
    · go_wp2_with fail
      go_ret
      exact ⟨congrArg (fun b => Ending.returned (Value.bool b)) (Bool.eq_iff_iff.2 (Iff.trans (by simp) HI.out.symm)), H3.out⟩
    · go_wp2_with fail
      refine (fits_calls _ S 0).mono ?_
      rintro e w2 ⟨rfl, rfl⟩
      rw [← HB3.out]
      cases b3
      · go_wp2_with fail
        go_ret
        exact ⟨congrArg (fun b => Ending.returned (Value.bool b)) (Bool.eq_iff_iff.2 (Iff.trans (by simp) HI.out.symm)), H3.out⟩
      · cases F
        · go_wp2_with fail
          all_goals (go_ret; exact ⟨congrArg (fun b => Ending.returned (Value.bool b)) (Bool.eq_iff_iff.2 (Iff.trans (by simp <;> omega) HI.out.symm)), H3.out⟩)
        · go_wp2_with fail
          all_goals (go_ret; exact ⟨congrArg (fun b => Ending.returned (Value.bool b)) (Bool.eq_iff_iff.2 (Iff.trans (by simp <;> omega) HI.out.symm)), H3.out⟩)
set_option maxHeartbeats 1000000 in
theorem get61_calls (w : World) (p : List Int) (g : Nat) (T : TypeId) (hb : BB w g T p) (hp : Bytes p) (hl : p.length = 64) (a n : Nat) (hn : 1 ≤ n ∧ n ≤ 8) (ha : a + n ≤ 64) :
    Calls Try.prog 61 #[.pointer (some ⟨g, 0, none⟩), .int .i64 a, .int .i64 n] w fun e w' => e = .returned (.int .i64 (numL p a n)) ∧ w = w' := by
  have HC := Aside0.mk (BB.readsAll hb (by rw [hl]; decide))
  rw [hl] at HC
  have HP := Aside0.mk hp
  have hb0 := (getN_bound hp a n).1
  clear hb hp
  go_enter Try.func61, Try.ntmps61
  go_wp2_with fail
  refine (get_calls _ 64 64 p _ HC.out HP.out a n hn ha (by omega)).mono ?_
  rintro e w3 ⟨rfl, rfl⟩
  have hq : numL p a n = if getN p a n > 1099511627776 then -1 else getN p a n := rfl
  obtain ⟨x, hx⟩ : ∃ x, x = getN p a n := ⟨_, rfl⟩
  rw [← hx] at hb0 hq
  rw [← hx]
  have HQ := Aside0.mk hq
  clear hq hx
  by_cases hc : x ≤ 1099511627776
  · have hd : decide (1099511627776 < x) = false := by simp; omega
    go_wp2_with fail
    go_ret
    exact ⟨by rw [HQ.out, if_neg (by omega)]; rfl, rfl⟩
  · have hd : decide (1099511627776 < x) = true := by simp; omega
    go_wp2_with fail
    go_ret
    exact ⟨by rw [HQ.out, if_pos (by omega)]; rfl, rfl⟩
set_option maxHeartbeats 1000000 in
theorem seal59_calls (w : World) (p : List Int) (hp : Bytes p) (hl : p.length = 64) : Calls Try.prog 59 #[.agg (encs (Value.int .u8) p).toArray] w fun e w' => e = .returned (.agg (encs (Value.int .u8) (sealL (p.take 60))).toArray) ∧ Below w.heap.size w w' := by
  have HW := Aside0.mk (Keeps.refl w)
  have HP := Aside0.mk hp
  clear hp
  have hb60 : Bytes (p.take 60) := bytes_take HP.out 60
  go_enter Try.func59, Try.ntmps59
  go_upto_region 1 with (first | ((with_reducible refine gate_dst (N := 1) rfl ?_); refine box28 rfl (.tmp 0) rfl p rfl ?_; intro w1 a1 h1 h2 h3; have H1 := Aside0.mk (HW.out.new h3 h2); clear h2 h3) | ((with_reducible refine gate_dst (N := 2) rfl ?_); refine alloc28 rfl rfl ?_; intro w2 a2 h4 h5 h6; obtain ⟨Z, hZ⟩ : ∃ Z : List Int, Z = zeros 64 := ⟨_, rfl⟩; rw [← hZ] at h5; have hZl : Z.length = 64 := (by rw [hZ, zeros_length]); clear hZ; have H2 := Aside0.mk (H1.out.new h6 h5); have hb2 : w.heap.size ≤ a2 := Nat.le_trans H1.out.size h4; have hne : a1 ≠ a2 := (by have := H1.out.head.lt; omega); clear h5 h6))
  have HX := Aside0.mk (show BB w2.drew a1 28 p from H2.out.drew.tail.head)
  have HT := Aside0.mk (HX.out.reads 60 (by omega) (by omega))
  have hiv := iv_lt (sum (p.take 60))
  have hps := put_seal p hl
  obtain ⟨s, hs⟩ : ∃ s, s = iv (sum (p.take 60)) := ⟨_, rfl⟩
  have HSum := Aside0.mk hs
  rw [← hs] at hiv hps
  have HPS := Aside0.mk hps
  have HWR := Aside0.mk (show IntKind.u64.wrap s = s by rw [PlainWord.wrap_u64]; omega)
  clear hs hps
  refine wp_region_held_drew (S := (fun w' => Keeps w [] w')) (by kernel_rfl) (by exact H2.out.drew.tail.tail) (fun hHeld => ?_)
  refine wpAnyH_tk (i := 0) (v := ?vz1) 3 rfl rfl (by kernel_rfl) (by kernel_rfl) (by kernel_rfl) (fun _ _ _ h => h) (Or.inl ⟨by rfl, ?yz1⟩) hHeld ?rz1
  case yz1 => (intro w hSw; go_simp; try with_reducible rfl)
  (try simp only [Act.put, List.setIfInBounds_toArray, List.set_cons_zero, List.set_cons_succ])
  refine wpAnyH_tk (i := 1) (v := ?vz2) 4 rfl rfl (by kernel_rfl) (by kernel_rfl) (by kernel_rfl) (fun _ _ _ h => h) (Or.inl ⟨by rfl, ?yz2⟩) hHeld ?rz2
  case yz2 => (intro w hSw; go_simp; try with_reducible rfl)
  (try simp only [Act.put, List.setIfInBounds_toArray, List.set_cons_zero, List.set_cons_succ])
  refine wpAnyH_one (i := 2) (by kernel_rfl) rfl (fun K hK => ?_)
  go_simp
  go_wp2_with ((go_at_call 47; refine (sum_calls _ _ _ _ _ HT.out hb60).mono ?_; rintro e wx ⟨rfl, rfl⟩; rw [← HSum.out]))
  refine hK.out _ _ (by exact hHeld) (fun hHeld => ?_)
  clear hK K
  refine wpAnyH_tk (i := 3) (v := _) 6 rfl rfl (by kernel_rfl) (by kernel_rfl) (by kernel_rfl) (fun _ _ _ h => h) (show YieldsIf Try.prog _ _ _ (.int .u64 s) _ from Or.inl ⟨(by rfl), fun w hSw => by go_simp; try rw [HWR.out]⟩) hHeld ?_
  (try simp only [Act.put, List.setIfInBounds_toArray, List.set_cons_zero, List.set_cons_succ])
  refine wpAnyH_one (i := 4) (by kernel_rfl) rfl (fun K hK => ?_)
  go_simp
  go_wp2_with ((go_at_call 46; refine (put_calls _ a1 28 _ HX.out 64 64 hl.symm 60 4 s (by omega) (by omega) (by omega)).mono ?_; rintro e wx ⟨rfl, h5, h6⟩; rw [show ((60 : Nat) : Int) = 60 from rfl, show ((4 : Nat) : Int) = 4 from rfl, HPS.out] at h5; have hHX := Keeps.put1 H2.out.drew h6 h1 hne.symm (by simp) h5))
  refine hK.out _ _ (by exact hHX.tail.tail) (fun hHeld => ?_)
  clear hK K
  refine wpAnyH_done (by kernel_rfl) ?_ _
  skip
  have hsl : (sealL (p.take 60)).length = 64 := by rw [seal_length, List.length_take]; omega
  go_wp2_with (first | ((with_reducible refine gate_dst (N := 8) rfl ?_); refine load28 rfl (.tmp 1) rfl a1 rfl hHX.tail.head hsl ?_) | ((with_reducible refine gate_store (t := 28) (p := 2) rfl ?_); refine store28 rfl rfl (.tmp 2) (.tmp 8) rfl a2 rfl _ rfl hsl hHX.head hZl ?_; intro w6 h6 h7 h8))
  refine bodyPost_ret (ret28 rfl rfl h6 hsl) rfl ?_
  exact ⟨rfl, below_grown hHX.below hb2 hHX.size h7⟩
end Go.Proofs.Ytmkkkenpjealdaa.MastWalks
/-! The walks of layer 8: a mast's sector. -/
namespace Go.Proofs.Ytmkkkenpjealdaa.MastWalks
set_option linter.unusedSimpArgs false
set_option linter.unusedVariables false
open Go.RowKit Go.Proofs.YtmkkkenpjealdaaW.PrintWords Go.Proofs.YtmkkkenpjealdaaW.PrintLast Go.Proofs.YtmkkkenpjealdaaW.PrintMore PlainWord CrcPlain PlainSec CrcMem CrcWalks CrcRef Arr SecWord SecMem SecRef LeafWalks RecWalks

theorem first_again {w : World} {g : Nat} {T : TypeId} {n : Nat} {y : Int} (h : BB w g T ([y] ++ zeros n)) (x : Int) : BB (w.setCell ⟨g, 0, none⟩ (.int .u8 x)) g T ([x] ++ zeros n) := by
  have := h.encSet 0 x
  exact this
set_option maxRecDepth 10000 in
set_option maxHeartbeats 4000000 in
theorem lay_calls (w : World) (m : Mast) (hs : mastSum m) (hok : mastOk m = true) : Calls Try.prog 37 #[.agg (mastC m).toArray] w fun e w' => e = .returned (.agg (encs (Value.int .u8) (mastLay m)).toArray) ∧ Below w.heap.size w w' := by
  have HW := Aside0.mk (Keeps.refl w)
  obtain ⟨⟨g0, g1, e0, e1, s0, s1, p0, p1⟩, hft⟩ := of_decide_eq_true hok
  obtain ⟨u0, u1⟩ := hs
  have hwr : ∀ x : Int, 0 ≤ x → x ≤ 1099511627776 → IntKind.u64.wrap x = x := fun x h0 h1 => by rw [PlainWord.wrap_u64]; omega
  have HG := Aside0.mk (hwr m.gen (by omega) g1)
  have HE := Aside0.mk (hwr m.epoch (by omega) e1)
  have HS := Aside0.mk (hwr m.seq (by omega) s1)
  have HP := Aside0.mk (hwr m.pages (by omega) (by omega))
  have HU := Aside0.mk (hwr m.sum (by omega) (by omega))
  clear hok hft hwr
  go_enter Try.func37, Try.ntmps37
  go_upto_if 6 with (first | ((with_reducible refine gate_dst (N := 1) rfl ?_); refine box56 rfl (.tmp 0) rfl m rfl ?_; intro w1 a1 h1 h2 h3; have H1 := Aside0.mk (HW.out.new h3 h2); clear h2 h3) | ((with_reducible refine gate_dst (N := 2) rfl ?_); refine alloc28 rfl rfl ?_; intro w2 a2 h4 h5 h6; obtain ⟨Z, hZ⟩ : ∃ Z : List Int, Z = zeros 64 := ⟨_, rfl⟩; rw [← hZ] at h5; have hZl : Z.length = 64 := (by rw [hZ, zeros_length]); clear hZ; have H2 := Aside0.mk (H1.out.new h6 h5); have hb2 : w.heap.size ≤ a2 := Nat.le_trans H1.out.size h4; have hne1 : a1 ≠ a2 := (by have := H1.out.head.lt; omega); clear h5 h6) | ((with_reducible refine gate_dst (N := 3) rfl ?_); refine alloc28 rfl rfl ?_; intro w3 a3 h7 h8 h9; have H3 := Aside0.mk (H2.out.new h9 h8); have hc0 := first_cell h8 (by decide); have hf0 := h8.frozen 0; have hb3 : w.heap.size ≤ a3 := Nat.le_trans H2.out.size h7; have hn1 : a1 ≠ a3 := (by have := H2.out.tail.head.lt; omega); have hn2 : a2 ≠ a3 := (by have := H2.out.head.lt; omega); have hx0 := MB.foot H3.out.tail.tail.head; clear h8 h9))
  have H4 := Aside0.mk (H3.out.put (grown_set _ a3 0 (.int .u8 129)) hb3 (by simp; omega) (first_set H3.out.head 129))
  generalize w3.setCell ⟨a3, 0, none⟩ (.int .u8 129) = w4 at *
  clear hc0 hf0 hx0 H1 H2 H3
  go_cut [6] from 7 to 7 (fun v wc => v = .bool m.foot ∧ Aside0 (Keeps w [(a3, 28, encs (Value.int .u8) ([mastMark m] ++ zeros 63)), (a2, 28, encs (Value.int .u8) Z), (a1, 56, mastC m)] wc))
  case first =>
    have hc0 := Blk.encAt H4.out.head (0 : Int) 0 (by rw [List.length_append, zeros_length]; decide)
    have hf0 := H4.out.head.frozen 0
    cases hfb : m.foot
    · go_wp2_with fail
      go_meet
      case rel => exact ⟨by rw [hfb], ⟨by have := H4.out; unfold mastMark; rw [hfb]; exact this⟩⟩
    · go_wp2_with fail
      go_meet
      case rel => exact ⟨by rw [hfb], ⟨by have := H4.out.put (grown_set _ a3 0 (.int .u8 130)) hb3 (by simp; omega) (first_again H4.out.head 130); unfold mastMark; rw [hfb]; exact this⟩⟩
  case rest =>
    obtain ⟨rfl, HK0⟩ := hcut
    clear H4
    go_upto_region 5 with (fail)
    have hl0 : ([mastMark m] ++ zeros (63)).length = 64 := by simp only [List.length_append, leI_length, zeros_length, List.length_cons, List.length_nil]
    refine wp_region_held_drew (S := (fun w' => Keeps w [(a2, 28, encs (Value.int .u8) Z), (a1, 56, mastC m)] w')) (by kernel_rfl) (by exact HK0.out.drew.tail) (fun hHeld => ?_)
    refine wpAnyH_tk (i := 0) (v := ?vz3) 8 rfl rfl (by kernel_rfl) (by kernel_rfl) (by kernel_rfl) (fun _ _ _ h => h) (Or.inl ⟨by rfl, ?yz3⟩) hHeld ?rz3
    case yz3 => (intro w hSw; go_simp; try with_reducible rfl)
    (try simp only [Act.put, List.setIfInBounds_toArray, List.set_cons_zero, List.set_cons_succ])
    refine wpAnyH_tk (i := 1) (v := ?vz4) 9 rfl rfl (by kernel_rfl) (by kernel_rfl) (by kernel_rfl) (fun _ _ _ h => h) (Or.inl ⟨by rfl, ?yz4⟩) hHeld ?rz4
    case yz4 => (intro w hSw; go_simp; try with_reducible rfl)
    (try simp only [Act.put, List.setIfInBounds_toArray, List.set_cons_zero, List.set_cons_succ])
    refine wpAnyH_tk (i := 2) (v := _) 10 rfl rfl (by kernel_rfl) (by kernel_rfl) (by kernel_rfl) (fun _ _ _ h => h) (yields_cell (by rfl) 3 (.tmp 9) rfl ⟨a1, 1, none⟩ rfl (v := .int .i64 m.gen) (fun _ h => MB.gen h.tail.head) Try.underlying3 rfl) hHeld ?_
    (try simp only [Act.put, List.setIfInBounds_toArray, List.set_cons_zero, List.set_cons_succ])
    refine wpAnyH_tk (i := 3) (v := _) 11 rfl rfl (by kernel_rfl) (by kernel_rfl) (by kernel_rfl) (fun _ _ _ h => h) (show YieldsIf Try.prog _ _ _ (.int .u64 m.gen) _ from Or.inl ⟨(by rfl), fun w hSw => by go_simp; try rw [HG.out]⟩) hHeld ?_
    (try simp only [Act.put, List.setIfInBounds_toArray, List.set_cons_zero, List.set_cons_succ])
    refine wpAnyH_one (i := 4) (by kernel_rfl) rfl (fun K hK => ?_)
    go_simp
    go_wp2_with ((go_at_call 46; refine (put_calls _ a3 28 _ HK0.out.drew.head 64 64 hl0.symm 1 8 m.gen (by omega) (by rw [hl0]; decide) (by rw [hl0]; decide)).mono ?_; rintro e wx0 ⟨rfl, h5, h6⟩; rw [put_zeros ([mastMark m]) (63) 8 m.gen (by omega) ((1 : Nat) : Int) (by simp [leI_length])] at h5; have hHX := HK0.out.drew.put h6 hb3 (by simp; omega) h5))
    refine hK.out _ _ (by exact hHX.tail) (fun hHeld => ?_)
    clear hK K
    refine wpAnyH_done (by kernel_rfl) ?_ _
    skip
    have HK1 := Aside0.mk hHX
    clear HK0 hHX hHeld h5 h6 hl0
    go_upto_region 6 with (fail)
    have hl1 : ([mastMark m] ++ leI m.gen 8 ++ zeros (63 - 8)).length = 64 := by simp only [List.length_append, leI_length, zeros_length, List.length_cons, List.length_nil]
    refine wp_region_held_drew (S := (fun w' => Keeps w [(a2, 28, encs (Value.int .u8) Z), (a1, 56, mastC m)] w')) (by kernel_rfl) (by exact HK1.out.drew.tail) (fun hHeld => ?_)
    refine wpAnyH_tk (i := 0) (v := ?vz5) 13 rfl rfl (by kernel_rfl) (by kernel_rfl) (by kernel_rfl) (fun _ _ _ h => h) (Or.inl ⟨by rfl, ?yz5⟩) hHeld ?rz5
    case yz5 => (intro w hSw; go_simp; try with_reducible rfl)
    (try simp only [Act.put, List.setIfInBounds_toArray, List.set_cons_zero, List.set_cons_succ])
    refine wpAnyH_tk (i := 1) (v := ?vz6) 14 rfl rfl (by kernel_rfl) (by kernel_rfl) (by kernel_rfl) (fun _ _ _ h => h) (Or.inl ⟨by rfl, ?yz6⟩) hHeld ?rz6
    case yz6 => (intro w hSw; go_simp; try with_reducible rfl)
    (try simp only [Act.put, List.setIfInBounds_toArray, List.set_cons_zero, List.set_cons_succ])
    refine wpAnyH_tk (i := 2) (v := _) 15 rfl rfl (by kernel_rfl) (by kernel_rfl) (by kernel_rfl) (fun _ _ _ h => h) (yields_cell (by rfl) 3 (.tmp 14) rfl ⟨a1, 2, none⟩ rfl (v := .int .i64 m.epoch) (fun _ h => MB.epoch h.tail.head) Try.underlying3 rfl) hHeld ?_
    (try simp only [Act.put, List.setIfInBounds_toArray, List.set_cons_zero, List.set_cons_succ])
    refine wpAnyH_tk (i := 3) (v := _) 16 rfl rfl (by kernel_rfl) (by kernel_rfl) (by kernel_rfl) (fun _ _ _ h => h) (show YieldsIf Try.prog _ _ _ (.int .u64 m.epoch) _ from Or.inl ⟨(by rfl), fun w hSw => by go_simp; try rw [HE.out]⟩) hHeld ?_
    (try simp only [Act.put, List.setIfInBounds_toArray, List.set_cons_zero, List.set_cons_succ])
    refine wpAnyH_one (i := 4) (by kernel_rfl) rfl (fun K hK => ?_)
    go_simp
    go_wp2_with ((go_at_call 46; refine (put_calls _ a3 28 _ HK1.out.drew.head 64 64 hl1.symm 9 8 m.epoch (by omega) (by rw [hl1]; decide) (by rw [hl1]; decide)).mono ?_; rintro e wx1 ⟨rfl, h5, h6⟩; rw [put_zeros ([mastMark m] ++ leI m.gen 8) (63 - 8) 8 m.epoch (by omega) ((9 : Nat) : Int) (by simp [leI_length])] at h5; have hHX := HK1.out.drew.put h6 hb3 (by simp; omega) h5))
    refine hK.out _ _ (by exact hHX.tail) (fun hHeld => ?_)
    clear hK K
    refine wpAnyH_done (by kernel_rfl) ?_ _
    skip
    have HK2 := Aside0.mk hHX
    clear HK1 hHX hHeld h5 h6 hl1
    go_upto_region 7 with (fail)
    have hl2 : ([mastMark m] ++ leI m.gen 8 ++ leI m.epoch 8 ++ zeros (63 - 8 - 8)).length = 64 := by simp only [List.length_append, leI_length, zeros_length, List.length_cons, List.length_nil]
    refine wp_region_held_drew (S := (fun w' => Keeps w [(a2, 28, encs (Value.int .u8) Z), (a1, 56, mastC m)] w')) (by kernel_rfl) (by exact HK2.out.drew.tail) (fun hHeld => ?_)
    refine wpAnyH_tk (i := 0) (v := ?vz7) 18 rfl rfl (by kernel_rfl) (by kernel_rfl) (by kernel_rfl) (fun _ _ _ h => h) (Or.inl ⟨by rfl, ?yz7⟩) hHeld ?rz7
    case yz7 => (intro w hSw; go_simp; try with_reducible rfl)
    (try simp only [Act.put, List.setIfInBounds_toArray, List.set_cons_zero, List.set_cons_succ])
    refine wpAnyH_tk (i := 1) (v := ?vz8) 19 rfl rfl (by kernel_rfl) (by kernel_rfl) (by kernel_rfl) (fun _ _ _ h => h) (Or.inl ⟨by rfl, ?yz8⟩) hHeld ?rz8
    case yz8 => (intro w hSw; go_simp; try with_reducible rfl)
    (try simp only [Act.put, List.setIfInBounds_toArray, List.set_cons_zero, List.set_cons_succ])
    refine wpAnyH_tk (i := 2) (v := _) 20 rfl rfl (by kernel_rfl) (by kernel_rfl) (by kernel_rfl) (fun _ _ _ h => h) (yields_cell (by rfl) 3 (.tmp 19) rfl ⟨a1, 3, none⟩ rfl (v := .int .i64 m.seq) (fun _ h => MB.seq h.tail.head) Try.underlying3 rfl) hHeld ?_
    (try simp only [Act.put, List.setIfInBounds_toArray, List.set_cons_zero, List.set_cons_succ])
    refine wpAnyH_tk (i := 3) (v := _) 21 rfl rfl (by kernel_rfl) (by kernel_rfl) (by kernel_rfl) (fun _ _ _ h => h) (show YieldsIf Try.prog _ _ _ (.int .u64 m.seq) _ from Or.inl ⟨(by rfl), fun w hSw => by go_simp; try rw [HS.out]⟩) hHeld ?_
    (try simp only [Act.put, List.setIfInBounds_toArray, List.set_cons_zero, List.set_cons_succ])
    refine wpAnyH_one (i := 4) (by kernel_rfl) rfl (fun K hK => ?_)
    go_simp
    go_wp2_with ((go_at_call 46; refine (put_calls _ a3 28 _ HK2.out.drew.head 64 64 hl2.symm 17 8 m.seq (by omega) (by rw [hl2]; decide) (by rw [hl2]; decide)).mono ?_; rintro e wx2 ⟨rfl, h5, h6⟩; rw [put_zeros ([mastMark m] ++ leI m.gen 8 ++ leI m.epoch 8) (63 - 8 - 8) 8 m.seq (by omega) ((17 : Nat) : Int) (by simp [leI_length])] at h5; have hHX := HK2.out.drew.put h6 hb3 (by simp; omega) h5))
    refine hK.out _ _ (by exact hHX.tail) (fun hHeld => ?_)
    clear hK K
    refine wpAnyH_done (by kernel_rfl) ?_ _
    skip
    have HK3 := Aside0.mk hHX
    clear HK2 hHX hHeld h5 h6 hl2
    go_upto_region 8 with (fail)
    have hl3 : ([mastMark m] ++ leI m.gen 8 ++ leI m.epoch 8 ++ leI m.seq 8 ++ zeros (63 - 8 - 8 - 8)).length = 64 := by simp only [List.length_append, leI_length, zeros_length, List.length_cons, List.length_nil]
    refine wp_region_held_drew (S := (fun w' => Keeps w [(a2, 28, encs (Value.int .u8) Z), (a1, 56, mastC m)] w')) (by kernel_rfl) (by exact HK3.out.drew.tail) (fun hHeld => ?_)
    refine wpAnyH_tk (i := 0) (v := ?vz9) 23 rfl rfl (by kernel_rfl) (by kernel_rfl) (by kernel_rfl) (fun _ _ _ h => h) (Or.inl ⟨by rfl, ?yz9⟩) hHeld ?rz9
    case yz9 => (intro w hSw; go_simp; try with_reducible rfl)
    (try simp only [Act.put, List.setIfInBounds_toArray, List.set_cons_zero, List.set_cons_succ])
    refine wpAnyH_tk (i := 1) (v := ?vz10) 24 rfl rfl (by kernel_rfl) (by kernel_rfl) (by kernel_rfl) (fun _ _ _ h => h) (Or.inl ⟨by rfl, ?yz10⟩) hHeld ?rz10
    case yz10 => (intro w hSw; go_simp; try with_reducible rfl)
    (try simp only [Act.put, List.setIfInBounds_toArray, List.set_cons_zero, List.set_cons_succ])
    refine wpAnyH_tk (i := 2) (v := _) 25 rfl rfl (by kernel_rfl) (by kernel_rfl) (by kernel_rfl) (fun _ _ _ h => h) (yields_cell (by rfl) 3 (.tmp 24) rfl ⟨a1, 4, none⟩ rfl (v := .int .i64 m.pages) (fun _ h => MB.pages h.tail.head) Try.underlying3 rfl) hHeld ?_
    (try simp only [Act.put, List.setIfInBounds_toArray, List.set_cons_zero, List.set_cons_succ])
    refine wpAnyH_tk (i := 3) (v := _) 26 rfl rfl (by kernel_rfl) (by kernel_rfl) (by kernel_rfl) (fun _ _ _ h => h) (show YieldsIf Try.prog _ _ _ (.int .u64 m.pages) _ from Or.inl ⟨(by rfl), fun w hSw => by go_simp; try rw [HP.out]⟩) hHeld ?_
    (try simp only [Act.put, List.setIfInBounds_toArray, List.set_cons_zero, List.set_cons_succ])
    refine wpAnyH_one (i := 4) (by kernel_rfl) rfl (fun K hK => ?_)
    go_simp
    go_wp2_with ((go_at_call 46; refine (put_calls _ a3 28 _ HK3.out.drew.head 64 64 hl3.symm 25 4 m.pages (by omega) (by rw [hl3]; decide) (by rw [hl3]; decide)).mono ?_; rintro e wx3 ⟨rfl, h5, h6⟩; rw [put_zeros ([mastMark m] ++ leI m.gen 8 ++ leI m.epoch 8 ++ leI m.seq 8) (63 - 8 - 8 - 8) 4 m.pages (by omega) ((25 : Nat) : Int) (by simp [leI_length])] at h5; have hHX := HK3.out.drew.put h6 hb3 (by simp; omega) h5))
    refine hK.out _ _ (by exact hHX.tail) (fun hHeld => ?_)
    clear hK K
    refine wpAnyH_done (by kernel_rfl) ?_ _
    skip
    have HK4 := Aside0.mk hHX
    clear HK3 hHX hHeld h5 h6 hl3
    go_upto_region 9 with (fail)
    have hl4 : ([mastMark m] ++ leI m.gen 8 ++ leI m.epoch 8 ++ leI m.seq 8 ++ leI m.pages 4 ++ zeros (63 - 8 - 8 - 8 - 4)).length = 64 := by simp only [List.length_append, leI_length, zeros_length, List.length_cons, List.length_nil]
    refine wp_region_held_drew (S := (fun w' => Keeps w [(a2, 28, encs (Value.int .u8) Z), (a1, 56, mastC m)] w')) (by kernel_rfl) (by exact HK4.out.drew.tail) (fun hHeld => ?_)
    refine wpAnyH_tk (i := 0) (v := ?vz11) 28 rfl rfl (by kernel_rfl) (by kernel_rfl) (by kernel_rfl) (fun _ _ _ h => h) (Or.inl ⟨by rfl, ?yz11⟩) hHeld ?rz11
    case yz11 => (intro w hSw; go_simp; try with_reducible rfl)
    (try simp only [Act.put, List.setIfInBounds_toArray, List.set_cons_zero, List.set_cons_succ])
    refine wpAnyH_tk (i := 1) (v := ?vz12) 29 rfl rfl (by kernel_rfl) (by kernel_rfl) (by kernel_rfl) (fun _ _ _ h => h) (Or.inl ⟨by rfl, ?yz12⟩) hHeld ?rz12
    case yz12 => (intro w hSw; go_simp; try with_reducible rfl)
    (try simp only [Act.put, List.setIfInBounds_toArray, List.set_cons_zero, List.set_cons_succ])
    refine wpAnyH_tk (i := 2) (v := _) 30 rfl rfl (by kernel_rfl) (by kernel_rfl) (by kernel_rfl) (fun _ _ _ h => h) (yields_cell (by rfl) 54 (.tmp 29) rfl ⟨a1, 5, none⟩ rfl (v := .int .u32 m.sum) (fun _ h => MB.sum h.tail.head) Try.underlying54 rfl) hHeld ?_
    (try simp only [Act.put, List.setIfInBounds_toArray, List.set_cons_zero, List.set_cons_succ])
    refine wpAnyH_tk (i := 3) (v := _) 31 rfl rfl (by kernel_rfl) (by kernel_rfl) (by kernel_rfl) (fun _ _ _ h => h) (show YieldsIf Try.prog _ _ _ (.int .u64 m.sum) _ from Or.inl ⟨(by rfl), fun w hSw => by go_simp; try rw [HU.out]⟩) hHeld ?_
    (try simp only [Act.put, List.setIfInBounds_toArray, List.set_cons_zero, List.set_cons_succ])
    refine wpAnyH_one (i := 4) (by kernel_rfl) rfl (fun K hK => ?_)
    go_simp
    go_wp2_with ((go_at_call 46; refine (put_calls _ a3 28 _ HK4.out.drew.head 64 64 hl4.symm 29 4 m.sum (by omega) (by rw [hl4]; decide) (by rw [hl4]; decide)).mono ?_; rintro e wx4 ⟨rfl, h5, h6⟩; rw [put_zeros ([mastMark m] ++ leI m.gen 8 ++ leI m.epoch 8 ++ leI m.seq 8 ++ leI m.pages 4) (63 - 8 - 8 - 8 - 4) 4 m.sum (by omega) ((29 : Nat) : Int) (by simp [leI_length])] at h5; have hHX := HK4.out.drew.put h6 hb3 (by simp; omega) h5))
    refine hK.out _ _ (by exact hHX.tail) (fun hHeld => ?_)
    clear hK K
    refine wpAnyH_done (by kernel_rfl) ?_ _
    skip
    have HK5 := Aside0.mk hHX
    clear HK4 hHX hHeld h5 h6 hl4
    have HK := Aside0.mk (show Keeps w [(a3, 28, encs (Value.int .u8) (mastBody m ++ zeros 31)), (a2, 28, encs (Value.int .u8) Z), (a1, 56, mastC m)] wx4 from HK5.out)
    clear HK5
    have hlk : (mastBody m ++ zeros 31).length = 64 := by rw [List.length_append, mastBody_length, zeros_length]
    have ht60 : (mastBody m ++ zeros 31).take 60 = mastBody m ++ zeros 27 := by
      rw [show 31 = 27 + 4 from rfl, zeros_add, ← List.append_assoc]
      have : (mastBody m ++ zeros 27).length = 60 := by rw [List.length_append, mastBody_length, zeros_length]
      rw [← this, List.take_left]
    have hfin : sealL ((mastBody m ++ zeros 31).take 60) = mastLay m := by
      rw [ht60]
      unfold mastLay fullL
      rw [mastBody_length]
    have hll := mastLay_length m
    have HF := Aside0.mk hfin
    have hbb : Bytes (mastBody m ++ zeros 31) := bytes_append (mastBody_bytes m) (zeros_bytes 31)
    clear ht60 hfin
    go_wp2_with ((with_reducible refine gate_dst (N := 33) rfl ?_); refine load28 rfl (.tmp 3) rfl a3 rfl HK.out.head hlk ?_)
    refine (seal59_calls _ (mastBody m ++ zeros 31) hbb hlk).mono ?_
    rintro e w9 ⟨rfl, hb⟩
    rw [HF.out]
    have HL := Aside0.mk (HK.out.step hb)
    clear HK hb
    go_wp2_with ((with_reducible refine gate_store (t := 28) (p := 2) rfl ?_); refine store28 rfl rfl (.tmp 2) (.tmp 34) rfl a2 rfl (mastLay m) rfl hll HL.out.tail.head hZl ?_; intro w10 h8 h9 h10)
    refine bodyPost_ret (ret28 rfl rfl h8 hll) rfl ?_
    exact ⟨rfl, below_grown HL.out.below hb2 HL.out.size h9⟩
end Go.Proofs.Ytmkkkenpjealdaa.MastWalks
/-! The walks of layer 8's reference: a mast's sector. -/
namespace Go.Proofs.Ytmkkkenpjealdaa.MastWalks
set_option linter.unusedSimpArgs false
set_option linter.unusedVariables false
open Go.RowKit Go.Proofs.YtmkkkenpjealdaaW.PrintWords Go.Proofs.YtmkkkenpjealdaaW.PrintLast Go.Proofs.YtmkkkenpjealdaaW.PrintMore PlainWord CrcPlain PlainSec CrcMem CrcWalks CrcRef Arr SecWord SecMem SecRef LeafWalks RecWalks

set_option maxHeartbeats 4000000 in
theorem reflay_calls (w : World) (m : Mast) (hs : mastSum m) (hok : mastOk m = true) : Calls Try.prog 38 #[.agg (mastC m).toArray] w fun e w' => e = .returned (.agg (encs (Value.int .u8) (mastLay m)).toArray) ∧ Below w.heap.size w w' := by
  have HW := Aside0.mk (Below.refl w.heap.size w)
  obtain ⟨⟨g0, g1, e0, e1, s0, s1, p0, p1⟩, hft⟩ := of_decide_eq_true hok
  obtain ⟨u0, u1⟩ := hs
  clear hok hft
  go_enter Try.func38, Try.ntmps38
  go_upto_if 6 with (first | ((with_reducible refine gate_dst (N := 1) rfl ?_); refine box56 rfl (.tmp 0) rfl m rfl ?_; intro w1 a1 h1 h2 h3; have H2 := Aside0.mk h2; have H3 := Aside0.mk (below_new HW.out HW.out.size h3); clear h2 h3) | ((with_reducible refine gate_dst (N := 2) rfl ?_); refine alloc28 rfl rfl ?_; intro w2 a2 h4 h5 h6; obtain ⟨Z, hZ⟩ : ∃ Z : List Int, Z = zeros 64 := ⟨_, rfl⟩; rw [← hZ] at h5; have hZl : Z.length = 64 := (by rw [hZ, zeros_length]); clear hZ; have H5 := Aside0.mk h5; have H6 := Aside0.mk (below_new H3.out H3.out.size h6); have H2b := Aside0.mk (H2.out.grown h6 (by simp)); have hb2 : w.heap.size ≤ a2 := (by have := H3.out.size; omega); have HN := Aside0.mk (Below.refl w2.heap.size w2); clear h5 h6) | ((with_reducible refine gate_dst (N := 4) rfl ?_); refine lit1_u8 rfl 4 rfl _ rfl 129 rfl HN.out (Nat.le_refl _) ?_; intro v3 w3 h7 h8 h9; obtain ⟨g, cap, rfl, hbg, hlg, _⟩ := Kd.R_form h7 (by decide); have H7 := Aside0.mk h7; have H8 := Aside0.mk h8; have hx0 := MB.foot (H2b.out.below h8 H2b.out.lt); clear h7 h8))
  clear hx0
  have hl1 := H2b.out.lt
  go_cut [6] from 7 to 8 (fun v wc => v = .bool m.foot ∧ Aside0 (RB wc w2.heap.size (.slice (some ⟨g, 0, none⟩) 1 cap) [mastMark m]) ∧ Aside0 (Below w2.heap.size w2 wc))
  case first =>
    have hcf := Kd.R_celln (0 : Int) H7.out (0 : Int) (by omega) (by decide)
    have hc0 : w3.cell? ⟨g, 0, none⟩ = some (.int .u8 129) := hcf.1
    have hf0 : w3.frozen? ⟨g, 0, none⟩ = false := hcf.2
    clear hcf
    cases hfb : m.foot
    · go_wp2_with fail
      go_meet
      case rel => exact ⟨by rw [hfb], ⟨by have := H7.out; unfold mastMark; rw [hfb]; exact this⟩, H8⟩
    · go_wp2_with fail
      go_meet
      case rel => exact ⟨by rw [hfb], ⟨by have := Kd.R_putn H7.out (0 : Int) (130 : Int); unfold mastMark; rw [hfb]; exact this⟩, ⟨H8.out.setCell hbg _⟩⟩
  case rest =>
    clear H7 H8
    obtain ⟨rfl, H7, H8⟩ := hcut
    obtain ⟨v3, hv3⟩ : ∃ v, v = Value.slice (some ⟨g, 0, none⟩) 1 cap := ⟨_, rfl⟩
    rw [← hv3] at H7
    rw [← hv3]
    clear hv3
    have hx1 := MB.gen (H2b.out.below H8.out hl1)
    have h9 := H8.out.size
    go_wp2_with fail
    clear hx1
    refine (low60 m.gen 8 (by omega) (by omega) (by omega) _).mono ?_
    rintro e w4 ⟨v4, rfl, h4r, h4b⟩
    obtain ⟨A4, c4, rfl, _, hc4⟩ := RB.reads h4r
    have HC4 := Aside0.mk hc4
    have H7' := Aside0.mk (Kd.R_below H7.out h4b)
    have H8' := Aside0.mk (H8.out.trans (h4b.mono H8.out.size))
    clear h4r h4b hc4 H7 H8
    have hlen8 := leI_length m.gen 8
    go_wp2_with ((at_builtin; refine apps_u8 rfl (.tmp 9) (.tmp 12) rfl v3 ([mastMark m]) A4 (leI m.gen 8) c4 rfl rfl H7'.out HC4.out H8'.out H8'.out.size (by rw [hlen8]; simp [leI_length]) ?_; intro v5 w5 h7 h8 h9; have hx1 := MB.epoch (H2b.out.below h8 hl1); have H7 := Aside0.mk h7; have H8 := Aside0.mk h8; clear h7 h8))
    clear hx1 H7' H8' HC4 hlen8
    refine (low60 m.epoch 8 (by omega) (by omega) (by omega) _).mono ?_
    rintro e w6 ⟨v6, rfl, h4r, h4b⟩
    obtain ⟨A4, c4, rfl, _, hc4⟩ := RB.reads h4r
    have HC4 := Aside0.mk hc4
    have H7' := Aside0.mk (Kd.R_below H7.out h4b)
    have H8' := Aside0.mk (H8.out.trans (h4b.mono H8.out.size))
    clear h4r h4b hc4 H7 H8
    have hlen8 := leI_length m.epoch 8
    go_wp2_with ((at_builtin; refine apps_u8 rfl (.tmp 14) (.tmp 17) rfl v5 ([mastMark m] ++ leI m.gen 8) A4 (leI m.epoch 8) c4 rfl rfl H7'.out HC4.out H8'.out H8'.out.size (by rw [hlen8]; simp [leI_length]) ?_; intro v7 w7 h7 h8 h9; have hx1 := MB.seq (H2b.out.below h8 hl1); have H7 := Aside0.mk h7; have H8 := Aside0.mk h8; clear h7 h8))
    clear hx1 H7' H8' HC4 hlen8
    refine (low60 m.seq 8 (by omega) (by omega) (by omega) _).mono ?_
    rintro e w8 ⟨v8, rfl, h4r, h4b⟩
    obtain ⟨A4, c4, rfl, _, hc4⟩ := RB.reads h4r
    have HC4 := Aside0.mk hc4
    have H7' := Aside0.mk (Kd.R_below H7.out h4b)
    have H8' := Aside0.mk (H8.out.trans (h4b.mono H8.out.size))
    clear h4r h4b hc4 H7 H8
    have hlen8 := leI_length m.seq 8
    go_wp2_with ((at_builtin; refine apps_u8 rfl (.tmp 19) (.tmp 22) rfl v7 ([mastMark m] ++ leI m.gen 8 ++ leI m.epoch 8) A4 (leI m.seq 8) c4 rfl rfl H7'.out HC4.out H8'.out H8'.out.size (by rw [hlen8]; simp [leI_length]) ?_; intro v9 w9 h7 h8 h9; have hx1 := MB.pages (H2b.out.below h8 hl1); have H7 := Aside0.mk h7; have H8 := Aside0.mk h8; clear h7 h8))
    clear hx1 H7' H8' HC4 hlen8
    refine (low60 m.pages 4 (by omega) (by omega) (by omega) _).mono ?_
    rintro e w10 ⟨v10, rfl, h4r, h4b⟩
    obtain ⟨A4, c4, rfl, _, hc4⟩ := RB.reads h4r
    have HC4 := Aside0.mk hc4
    have H7' := Aside0.mk (Kd.R_below H7.out h4b)
    have H8' := Aside0.mk (H8.out.trans (h4b.mono H8.out.size))
    clear h4r h4b hc4 H7 H8
    have hlen8 := leI_length m.pages 4
    go_wp2_with ((at_builtin; refine apps_u8 rfl (.tmp 24) (.tmp 27) rfl v9 ([mastMark m] ++ leI m.gen 8 ++ leI m.epoch 8 ++ leI m.seq 8) A4 (leI m.pages 4) c4 rfl rfl H7'.out HC4.out H8'.out H8'.out.size (by rw [hlen8]; simp [leI_length]) ?_; intro v11 w11 h7 h8 h9; have hx1 := MB.sum (H2b.out.below h8 hl1); have H7 := Aside0.mk h7; have H8 := Aside0.mk h8; clear h7 h8))
    clear hx1 H7' H8' HC4 hlen8
    refine (low60 m.sum 4 (by omega) (by omega) (by omega) _).mono ?_
    rintro e w12 ⟨v12, rfl, h4r, h4b⟩
    obtain ⟨A4, c4, rfl, _, hc4⟩ := RB.reads h4r
    have HC4 := Aside0.mk hc4
    have H7' := Aside0.mk (Kd.R_below H7.out h4b)
    have H8' := Aside0.mk (H8.out.trans (h4b.mono H8.out.size))
    clear h4r h4b hc4 H7 H8
    have hlen8 := leI_length m.sum 4
    go_wp2_with ((at_builtin; refine apps_u8 rfl (.tmp 29) (.tmp 33) rfl v11 ([mastMark m] ++ leI m.gen 8 ++ leI m.epoch 8 ++ leI m.seq 8 ++ leI m.pages 4) A4 (leI m.sum 4) c4 rfl rfl H7'.out HC4.out H8'.out H8'.out.size (by rw [hlen8]; simp [leI_length]) ?_; intro v13 w13 h7 h8 h9; have H7 := Aside0.mk h7; have H8 := Aside0.mk h8; clear h7 h8))
    clear H7' H8' HC4 hlen8
    have HO := Aside0.mk (show RB w13 w2.heap.size v13 (mastBody m) from H7.out)
    clear H7
    have hS := H8.out.size
    refine (full_calls _ w2.heap.size _ (mastBody m) HO.out hS (by rw [mastBody_length]; decide) (mastBody_bytes m)).mono ?_
    rintro e w20 ⟨rfl, h4b⟩
    have HB8 := Aside0.mk (H8.out.trans h4b)
    have HR8 := Aside0.mk (H5.out.below HB8.out H5.out.lt)
    have HF8 := Aside0.mk (H6.out.trans (HB8.out.mono H6.out.size))
    have hll := mastLay_length m
    rw [show fullL (mastBody m) = mastLay m from rfl]
    clear h4b HO
    go_wp2_with ((with_reducible refine gate_store (t := 28) (p := 2) rfl ?_); refine store28 rfl rfl (.tmp 2) (.tmp 36) rfl a2 rfl (mastLay m) rfl hll HR8.out hZl ?_; intro w9 h8 h9 h10)
    refine bodyPost_ret (ret28 rfl rfl h8 hll) rfl ?_
    exact ⟨rfl, below_grown HF8.out hb2 HF8.out.size h9⟩
end Go.Proofs.Ytmkkkenpjealdaa.MastWalks
/-! The walks of layer 8: a sector read as a mast. -/
namespace Go.Proofs.Ytmkkkenpjealdaa.MastWalks
set_option linter.unusedSimpArgs false
set_option linter.unusedVariables false
open Go.RowKit Go.Proofs.YtmkkkenpjealdaaW.PrintWords Go.Proofs.YtmkkkenpjealdaaW.PrintLast Go.Proofs.YtmkkkenpjealdaaW.PrintMore PlainWord CrcPlain PlainSec CrcMem CrcWalks CrcRef Arr SecWord SecMem SecRef LeafWalks RecWalks

theorem sum_wrap {p : List Int} (hp : Bytes p) : IntKind.u32.wrap (numL p 29 4) = getN p 29 4 := by
  have h := getN_bound hp 29 4
  have p4 : (256 : Int) ^ 4 = 4294967296 := by decide
  rw [numL_small p hp 29, IntKind.wrap_u32]
  omega
theorem mastRead_if (p : List Int) (hr : rightB p = true) (b : Bool) (hok : mastOk (mastOf p) = true) (hb : b = decide (mastLay (mastOf p) = p)) : mastRead p = if b = true then (mastOf p, 0) else (mast0, 7) := by
  unfold mastRead
  rw [if_pos hr, hb]
  by_cases h3 : mastLay (mastOf p) = p
  · rw [if_pos ⟨hok, h3⟩, if_pos (by rw [decide_eq_true h3])]
  · rw [if_neg (fun h => h3 h.2), if_neg (by rw [decide_eq_false h3]; decide)]
theorem mastRead_bad (p : List Int) (hr : rightB p = true) (hok : mastOk (mastOf p) = false) : mastRead p = (mast0, 7) := by
  unfold mastRead
  rw [if_pos hr, if_neg (fun g => by rw [hok] at g; exact absurd g.1 (by decide))]
theorem mastRead_mark (p : List Int) (hr : rightB p = true) (h1 : p.getD 0 0 ≠ 129) (h2 : p.getD 0 0 ≠ 130) : mastRead p = (mast0, 7) := by
  unfold mastRead
  rw [if_pos hr, if_neg]
  rintro ⟨_, h⟩
  have := mastLay_mark (mastOf p)
  rw [h] at this
  rcases mastMark_two (mastOf p) with e | e <;> rw [e] at this <;> contradiction
set_option maxRecDepth 10000 in
set_option maxHeartbeats 4000000 in
theorem read_calls (w : World) (p : List Int) (hp : Bytes p) (hl : p.length = 64) : Calls Try.prog 39 #[.agg (encs (Value.int .u8) p).toArray] w fun e w' => e = .returned (.tuple #[.agg (mastC (mastRead p).1).toArray, .int .i64 (mastRead p).2]) ∧ Below w.heap.size w w' := by
  have HW := Aside0.mk (Keeps.refl w)
  have HP := Aside0.mk hp
  clear hp
  go_enter Try.func39, Try.ntmps39
  go_wp2_with (first | ((with_reducible refine gate_dst (N := 1) rfl ?_); refine box28 rfl (.tmp 0) rfl p rfl ?_; intro w1 a1 h1 h2 h3; have H1 := Aside0.mk (HW.out.new h3 h2); clear h2 h3) | ((with_reducible refine gate_dst (N := 2) rfl ?_); refine alloc56 rfl rfl ?_; intro w2 a2 h4 h5 h6; have H2 := Aside0.mk (H1.out.new h6 h5); clear h5 h6))
  have hb2 : w.heap.size ≤ a2 := by have := H1.out.size; omega
  have hne : a1 ≠ a2 := by have := H1.out.head.lt; omega
  have HC := Aside0.mk (BB.readsAll H2.out.tail.head (by rw [hl]; decide))
  rw [hl] at HC
  refine (CrcWalks.right_calls _ _ _ _ _ HC.out (by omega) HP.out (by rw [hl]; decide)).mono ?_
  rintro e w3 ⟨rfl, rfl⟩
  by_cases hr : rightB p = true
  · rw [hr]
    have hmb := HP.out.getD 0
    obtain ⟨m, hm⟩ : ∃ m, m = p.getD 0 0 := ⟨_, rfl⟩
    rw [← hm] at hmb
    have HM := Aside0.mk hm
    have HU := Aside0.mk (sum_wrap HP.out)
    have HH := Aside0.mk (show mastOf p = ⟨m == 130, numL p 1 8, numL p 9 8, numL p 17 8, numL p 25 4, getN p 29 4⟩ by rw [hm]; rfl)
    clear hm
    go_upto_region 3 with (fail)
    go_cut [4] from 9 to 18 (fun v wc => ∃ a3, v = .pointer (some ⟨a3, 0, none⟩) ∧ w.heap.size ≤ a3 ∧ a1 ≠ a3 ∧ a2 ≠ a3 ∧ Aside0 (Keeps w [(a3, 56, mastC (mastOf p)), (a2, 56, mastC mast0), (a1, 28, encs (Value.int .u8) p)] wc))
    case first =>
      refine wp_region_held_drew (S := (fun w' => Keeps w [(a2, 56, mastC mast0), (a1, 28, encs (Value.int .u8) p)] w')) (by kernel_rfl) (by exact H2.out.drew) (fun hHeld => ?_)
      refine wpAnyH_tk (i := 0) (v := ?vz13) 9 rfl rfl (by kernel_rfl) (by kernel_rfl) (by kernel_rfl) (fun _ _ _ h => h) (Or.inl ⟨by rfl, ?yz13⟩) hHeld ?rz13
      case yz13 => (intro w hSw; go_simp; try with_reducible rfl)
      (try simp only [Act.put, List.setIfInBounds_toArray, List.set_cons_zero, List.set_cons_succ])
      refine wpAnyH_tk (i := 1) (v := _) 10 rfl rfl (by kernel_rfl) (by kernel_rfl) (by kernel_rfl) (fun _ _ _ h => h) (yields_cell (by rfl) 5 (.tmp 9) rfl ⟨a1, 0, none⟩ rfl (v := .int .u8 m) (fun _ h => by rw [HM.out]; exact Blk.encAt h.tail.head (0 : Int) 0 (by omega)) Try.underlying5 rfl) hHeld ?_
      (try simp only [Act.put, List.setIfInBounds_toArray, List.set_cons_zero, List.set_cons_succ])
      refine wpAnyH_tk (i := 2) (v := _) 11 rfl rfl (by kernel_rfl) (by kernel_rfl) (by kernel_rfl) (fun _ _ _ h => h) (show YieldsIf Try.prog _ _ _ (.bool (m == 130)) _ from Or.inl ⟨(by rfl), fun w hSw => by go_simp; try rfl⟩) hHeld ?_
      (try simp only [Act.put, List.setIfInBounds_toArray, List.set_cons_zero, List.set_cons_succ])
      refine wpAnyH_ready (rs := [3, 10]) (by kernel_rfl) (by simp) (AllReadyH.cons rfl (fun K hK => ?_) (AllReadyH.cons rfl (fun K hK => ?_) AllReadyH.nil))
      · skip
        go_simp
        go_wp2_with ((go_at_call 61; refine (get61_calls _ p a1 28 hHeld.tail.head HP.out hl 1 8 (by omega) (by omega)).mono ?_; rintro e wx ⟨rfl, rfl⟩))
        refine hK.out _ _ (by exact hHeld) (fun hHeld => ?_)
        clear hK K
        refine wpAnyH_ready (rs := [4, 10]) (by kernel_rfl) (by simp) (AllReadyH.cons rfl (fun K hK => ?_) (AllReadyH.cons rfl (fun K hK => ?_) AllReadyH.nil))
        · skip
          go_simp
          go_wp2_with ((go_at_call 61; refine (get61_calls _ p a1 28 hHeld.tail.head HP.out hl 9 8 (by omega) (by omega)).mono ?_; rintro e wx ⟨rfl, rfl⟩))
          refine hK.out _ _ (by exact hHeld) (fun hHeld => ?_)
          clear hK K
          refine wpAnyH_ready (rs := [5, 10]) (by kernel_rfl) (by simp) (AllReadyH.cons rfl (fun K hK => ?_) (AllReadyH.cons rfl (fun K hK => ?_) AllReadyH.nil))
          · skip
            go_simp
            go_wp2_with ((go_at_call 61; refine (get61_calls _ p a1 28 hHeld.tail.head HP.out hl 17 8 (by omega) (by omega)).mono ?_; rintro e wx ⟨rfl, rfl⟩))
            refine hK.out _ _ (by exact hHeld) (fun hHeld => ?_)
            clear hK K
            refine wpAnyH_ready (rs := [6, 10]) (by kernel_rfl) (by simp) (AllReadyH.cons rfl (fun K hK => ?_) (AllReadyH.cons rfl (fun K hK => ?_) AllReadyH.nil))
            · skip
              go_simp
              go_wp2_with ((go_at_call 61; refine (get61_calls _ p a1 28 hHeld.tail.head HP.out hl 25 4 (by omega) (by omega)).mono ?_; rintro e wx ⟨rfl, rfl⟩))
              refine hK.out _ _ (by exact hHeld) (fun hHeld => ?_)
              clear hK K
              refine wpAnyH_ready (rs := [7, 10]) (by kernel_rfl) (by simp) (AllReadyH.cons rfl (fun K hK => ?_) (AllReadyH.cons rfl (fun K hK => ?_) AllReadyH.nil))
              · skip
                go_simp
                go_wp2_with ((go_at_call 61; refine (get61_calls _ p a1 28 hHeld.tail.head HP.out hl 29 4 (by omega) (by omega)).mono ?_; rintro e wx ⟨rfl, rfl⟩))
                refine hK.out _ _ (by exact hHeld) (fun hHeld => ?_)
                clear hK K
                refine wpAnyH_tk (i := 8) (v := _) 17 rfl rfl (by kernel_rfl) (by kernel_rfl) (by kernel_rfl) (fun _ _ _ h => h) (show YieldsIf Try.prog _ _ _ (.int .u32 (getN p 29 4)) _ from Or.inl ⟨(by rfl), fun w hSw => by go_simp; exact HU.out⟩) hHeld ?_
                (try simp only [Act.put, List.setIfInBounds_toArray, List.set_cons_zero, List.set_cons_succ])
                refine wpAnyH_tk (i := 9) (v := _) 18 rfl rfl (by kernel_rfl) (by kernel_rfl) (by kernel_rfl) (fun _ _ _ h => h) (yields_build56 (by rfl) (.tmp 11) (.tmp 12) (.tmp 13) (.tmp 14) (.tmp 15) (.tmp 17) rfl _ _ _ _ _ _ rfl rfl rfl rfl rfl rfl) hHeld ?_
                (try simp only [Act.put, List.setIfInBounds_toArray, List.set_cons_zero, List.set_cons_succ])
                refine wpAnyH_one (i := 10) (by kernel_rfl) rfl (fun K hK => ?_)
                rw [if_pos (by rfl)]
                refine step_alloc56 4 rfl rfl ?_; intro wx a3 hg hA hgr; have hHX := hHeld.fresh hgr; have hb3 : w.heap.size ≤ a3 := Nat.le_trans hHeld.size hg; have hn1 : a1 ≠ a3 := (by have := hHeld.tail.head.lt; omega); have hn2 : a2 ≠ a3 := (by have := hHeld.head.lt; omega); clear hgr hg
                refine hK.out _ _ (by exact hHX) (fun hHeld => ?_)
                clear hK K
                (try simp only [Act.put, List.setIfInBounds_toArray, List.set_cons_zero, List.set_cons_succ])
                refine wpAnyH_one (i := 11) (by kernel_rfl) rfl (fun K hK => ?_)
                rw [if_pos (by rfl)]
                refine step_store56 rfl (.tmp 4) (.tmp 18) rfl a3 rfl (mastOf p) (by rw [HH.out]; rfl) hA ?_; intro wx hA2 hgr hsz; have hHX := hHeld.grown hgr hb3 (by simp; omega)
                refine hK.out _ _ (by exact hHX) (fun hHeld => ?_)
                clear hK K
                (try simp only [Act.put, List.setIfInBounds_toArray, List.set_cons_zero, List.set_cons_succ])
                refine wpAnyH_done (by kernel_rfl) ?_ _
                (go_wp2_with fail; go_meet; case rel => exact ⟨a3, rfl, hb3, hn1, hn2, ⟨hHX.cons hA2⟩⟩)
              · skip
                rw [if_pos (by rfl)]
                refine step_alloc56 4 rfl rfl ?_; intro wx a3 hg hA hgr; have hHX := hHeld.fresh hgr; have hb3 : w.heap.size ≤ a3 := Nat.le_trans hHeld.size hg; have hn1 : a1 ≠ a3 := (by have := hHeld.tail.head.lt; omega); have hn2 : a2 ≠ a3 := (by have := hHeld.head.lt; omega); clear hgr hg
                refine hK.out _ _ (by exact hHX) (fun hHeld => ?_)
                clear hK K
                (try simp only [Act.put, List.setIfInBounds_toArray, List.set_cons_zero, List.set_cons_succ])
                refine wpAnyH_one (i := 7) (by kernel_rfl) rfl (fun K hK => ?_)
                go_simp
                go_wp2_with ((go_at_call 61; refine (get61_calls _ p a1 28 hHeld.tail.head HP.out hl 29 4 (by omega) (by omega)).mono ?_; rintro e wx ⟨rfl, rfl⟩))
                refine hK.out _ _ (by exact hHeld) (fun hHeld => ?_)
                clear hK K
                refine wpAnyH_tk (i := 8) (v := _) 17 rfl rfl (by kernel_rfl) (by kernel_rfl) (by kernel_rfl) (fun _ _ _ h => h) (show YieldsIf Try.prog _ _ _ (.int .u32 (getN p 29 4)) _ from Or.inl ⟨(by rfl), fun w hSw => by go_simp; exact HU.out⟩) hHeld ?_
                (try simp only [Act.put, List.setIfInBounds_toArray, List.set_cons_zero, List.set_cons_succ])
                refine wpAnyH_tk (i := 9) (v := _) 18 rfl rfl (by kernel_rfl) (by kernel_rfl) (by kernel_rfl) (fun _ _ _ h => h) (yields_build56 (by rfl) (.tmp 11) (.tmp 12) (.tmp 13) (.tmp 14) (.tmp 15) (.tmp 17) rfl _ _ _ _ _ _ rfl rfl rfl rfl rfl rfl) hHeld ?_
                (try simp only [Act.put, List.setIfInBounds_toArray, List.set_cons_zero, List.set_cons_succ])
                refine wpAnyH_one (i := 11) (by kernel_rfl) rfl (fun K hK => ?_)
                rw [if_pos (by rfl)]
                refine step_store56 rfl (.tmp 4) (.tmp 18) rfl a3 rfl (mastOf p) (by rw [HH.out]; rfl) hA ?_; intro wx hA2 hgr hsz; have hHX := hHeld.grown hgr hb3 (by simp; omega)
                refine hK.out _ _ (by exact hHX) (fun hHeld => ?_)
                clear hK K
                (try simp only [Act.put, List.setIfInBounds_toArray, List.set_cons_zero, List.set_cons_succ])
                refine wpAnyH_done (by kernel_rfl) ?_ _
                (go_wp2_with fail; go_meet; case rel => exact ⟨a3, rfl, hb3, hn1, hn2, ⟨hHX.cons hA2⟩⟩)
            · skip
              rw [if_pos (by rfl)]
              refine step_alloc56 4 rfl rfl ?_; intro wx a3 hg hA hgr; have hHX := hHeld.fresh hgr; have hb3 : w.heap.size ≤ a3 := Nat.le_trans hHeld.size hg; have hn1 : a1 ≠ a3 := (by have := hHeld.tail.head.lt; omega); have hn2 : a2 ≠ a3 := (by have := hHeld.head.lt; omega); clear hgr hg
              refine hK.out _ _ (by exact hHX) (fun hHeld => ?_)
              clear hK K
              (try simp only [Act.put, List.setIfInBounds_toArray, List.set_cons_zero, List.set_cons_succ])
              refine wpAnyH_one (i := 6) (by kernel_rfl) rfl (fun K hK => ?_)
              go_simp
              go_wp2_with ((go_at_call 61; refine (get61_calls _ p a1 28 hHeld.tail.head HP.out hl 25 4 (by omega) (by omega)).mono ?_; rintro e wx ⟨rfl, rfl⟩))
              refine hK.out _ _ (by exact hHeld) (fun hHeld => ?_)
              clear hK K
              refine wpAnyH_one (i := 7) (by kernel_rfl) rfl (fun K hK => ?_)
              go_simp
              go_wp2_with ((go_at_call 61; refine (get61_calls _ p a1 28 hHeld.tail.head HP.out hl 29 4 (by omega) (by omega)).mono ?_; rintro e wx ⟨rfl, rfl⟩))
              refine hK.out _ _ (by exact hHeld) (fun hHeld => ?_)
              clear hK K
              refine wpAnyH_tk (i := 8) (v := _) 17 rfl rfl (by kernel_rfl) (by kernel_rfl) (by kernel_rfl) (fun _ _ _ h => h) (show YieldsIf Try.prog _ _ _ (.int .u32 (getN p 29 4)) _ from Or.inl ⟨(by rfl), fun w hSw => by go_simp; exact HU.out⟩) hHeld ?_
              (try simp only [Act.put, List.setIfInBounds_toArray, List.set_cons_zero, List.set_cons_succ])
              refine wpAnyH_tk (i := 9) (v := _) 18 rfl rfl (by kernel_rfl) (by kernel_rfl) (by kernel_rfl) (fun _ _ _ h => h) (yields_build56 (by rfl) (.tmp 11) (.tmp 12) (.tmp 13) (.tmp 14) (.tmp 15) (.tmp 17) rfl _ _ _ _ _ _ rfl rfl rfl rfl rfl rfl) hHeld ?_
              (try simp only [Act.put, List.setIfInBounds_toArray, List.set_cons_zero, List.set_cons_succ])
              refine wpAnyH_one (i := 11) (by kernel_rfl) rfl (fun K hK => ?_)
              rw [if_pos (by rfl)]
              refine step_store56 rfl (.tmp 4) (.tmp 18) rfl a3 rfl (mastOf p) (by rw [HH.out]; rfl) hA ?_; intro wx hA2 hgr hsz; have hHX := hHeld.grown hgr hb3 (by simp; omega)
              refine hK.out _ _ (by exact hHX) (fun hHeld => ?_)
              clear hK K
              (try simp only [Act.put, List.setIfInBounds_toArray, List.set_cons_zero, List.set_cons_succ])
              refine wpAnyH_done (by kernel_rfl) ?_ _
              (go_wp2_with fail; go_meet; case rel => exact ⟨a3, rfl, hb3, hn1, hn2, ⟨hHX.cons hA2⟩⟩)
          · skip
            rw [if_pos (by rfl)]
            refine step_alloc56 4 rfl rfl ?_; intro wx a3 hg hA hgr; have hHX := hHeld.fresh hgr; have hb3 : w.heap.size ≤ a3 := Nat.le_trans hHeld.size hg; have hn1 : a1 ≠ a3 := (by have := hHeld.tail.head.lt; omega); have hn2 : a2 ≠ a3 := (by have := hHeld.head.lt; omega); clear hgr hg
            refine hK.out _ _ (by exact hHX) (fun hHeld => ?_)
            clear hK K
            (try simp only [Act.put, List.setIfInBounds_toArray, List.set_cons_zero, List.set_cons_succ])
            refine wpAnyH_one (i := 5) (by kernel_rfl) rfl (fun K hK => ?_)
            go_simp
            go_wp2_with ((go_at_call 61; refine (get61_calls _ p a1 28 hHeld.tail.head HP.out hl 17 8 (by omega) (by omega)).mono ?_; rintro e wx ⟨rfl, rfl⟩))
            refine hK.out _ _ (by exact hHeld) (fun hHeld => ?_)
            clear hK K
            refine wpAnyH_one (i := 6) (by kernel_rfl) rfl (fun K hK => ?_)
            go_simp
            go_wp2_with ((go_at_call 61; refine (get61_calls _ p a1 28 hHeld.tail.head HP.out hl 25 4 (by omega) (by omega)).mono ?_; rintro e wx ⟨rfl, rfl⟩))
            refine hK.out _ _ (by exact hHeld) (fun hHeld => ?_)
            clear hK K
            refine wpAnyH_one (i := 7) (by kernel_rfl) rfl (fun K hK => ?_)
            go_simp
            go_wp2_with ((go_at_call 61; refine (get61_calls _ p a1 28 hHeld.tail.head HP.out hl 29 4 (by omega) (by omega)).mono ?_; rintro e wx ⟨rfl, rfl⟩))
            refine hK.out _ _ (by exact hHeld) (fun hHeld => ?_)
            clear hK K
            refine wpAnyH_tk (i := 8) (v := _) 17 rfl rfl (by kernel_rfl) (by kernel_rfl) (by kernel_rfl) (fun _ _ _ h => h) (show YieldsIf Try.prog _ _ _ (.int .u32 (getN p 29 4)) _ from Or.inl ⟨(by rfl), fun w hSw => by go_simp; exact HU.out⟩) hHeld ?_
            (try simp only [Act.put, List.setIfInBounds_toArray, List.set_cons_zero, List.set_cons_succ])
            refine wpAnyH_tk (i := 9) (v := _) 18 rfl rfl (by kernel_rfl) (by kernel_rfl) (by kernel_rfl) (fun _ _ _ h => h) (yields_build56 (by rfl) (.tmp 11) (.tmp 12) (.tmp 13) (.tmp 14) (.tmp 15) (.tmp 17) rfl _ _ _ _ _ _ rfl rfl rfl rfl rfl rfl) hHeld ?_
            (try simp only [Act.put, List.setIfInBounds_toArray, List.set_cons_zero, List.set_cons_succ])
            refine wpAnyH_one (i := 11) (by kernel_rfl) rfl (fun K hK => ?_)
            rw [if_pos (by rfl)]
            refine step_store56 rfl (.tmp 4) (.tmp 18) rfl a3 rfl (mastOf p) (by rw [HH.out]; rfl) hA ?_; intro wx hA2 hgr hsz; have hHX := hHeld.grown hgr hb3 (by simp; omega)
            refine hK.out _ _ (by exact hHX) (fun hHeld => ?_)
            clear hK K
            (try simp only [Act.put, List.setIfInBounds_toArray, List.set_cons_zero, List.set_cons_succ])
            refine wpAnyH_done (by kernel_rfl) ?_ _
            (go_wp2_with fail; go_meet; case rel => exact ⟨a3, rfl, hb3, hn1, hn2, ⟨hHX.cons hA2⟩⟩)
        · skip
          rw [if_pos (by rfl)]
          refine step_alloc56 4 rfl rfl ?_; intro wx a3 hg hA hgr; have hHX := hHeld.fresh hgr; have hb3 : w.heap.size ≤ a3 := Nat.le_trans hHeld.size hg; have hn1 : a1 ≠ a3 := (by have := hHeld.tail.head.lt; omega); have hn2 : a2 ≠ a3 := (by have := hHeld.head.lt; omega); clear hgr hg
          refine hK.out _ _ (by exact hHX) (fun hHeld => ?_)
          clear hK K
          (try simp only [Act.put, List.setIfInBounds_toArray, List.set_cons_zero, List.set_cons_succ])
          refine wpAnyH_one (i := 4) (by kernel_rfl) rfl (fun K hK => ?_)
          go_simp
          go_wp2_with ((go_at_call 61; refine (get61_calls _ p a1 28 hHeld.tail.head HP.out hl 9 8 (by omega) (by omega)).mono ?_; rintro e wx ⟨rfl, rfl⟩))
          refine hK.out _ _ (by exact hHeld) (fun hHeld => ?_)
          clear hK K
          refine wpAnyH_one (i := 5) (by kernel_rfl) rfl (fun K hK => ?_)
          go_simp
          go_wp2_with ((go_at_call 61; refine (get61_calls _ p a1 28 hHeld.tail.head HP.out hl 17 8 (by omega) (by omega)).mono ?_; rintro e wx ⟨rfl, rfl⟩))
          refine hK.out _ _ (by exact hHeld) (fun hHeld => ?_)
          clear hK K
          refine wpAnyH_one (i := 6) (by kernel_rfl) rfl (fun K hK => ?_)
          go_simp
          go_wp2_with ((go_at_call 61; refine (get61_calls _ p a1 28 hHeld.tail.head HP.out hl 25 4 (by omega) (by omega)).mono ?_; rintro e wx ⟨rfl, rfl⟩))
          refine hK.out _ _ (by exact hHeld) (fun hHeld => ?_)
          clear hK K
          refine wpAnyH_one (i := 7) (by kernel_rfl) rfl (fun K hK => ?_)
          go_simp
          go_wp2_with ((go_at_call 61; refine (get61_calls _ p a1 28 hHeld.tail.head HP.out hl 29 4 (by omega) (by omega)).mono ?_; rintro e wx ⟨rfl, rfl⟩))
          refine hK.out _ _ (by exact hHeld) (fun hHeld => ?_)
          clear hK K
          refine wpAnyH_tk (i := 8) (v := _) 17 rfl rfl (by kernel_rfl) (by kernel_rfl) (by kernel_rfl) (fun _ _ _ h => h) (show YieldsIf Try.prog _ _ _ (.int .u32 (getN p 29 4)) _ from Or.inl ⟨(by rfl), fun w hSw => by go_simp; exact HU.out⟩) hHeld ?_
          (try simp only [Act.put, List.setIfInBounds_toArray, List.set_cons_zero, List.set_cons_succ])
          refine wpAnyH_tk (i := 9) (v := _) 18 rfl rfl (by kernel_rfl) (by kernel_rfl) (by kernel_rfl) (fun _ _ _ h => h) (yields_build56 (by rfl) (.tmp 11) (.tmp 12) (.tmp 13) (.tmp 14) (.tmp 15) (.tmp 17) rfl _ _ _ _ _ _ rfl rfl rfl rfl rfl rfl) hHeld ?_
          (try simp only [Act.put, List.setIfInBounds_toArray, List.set_cons_zero, List.set_cons_succ])
          refine wpAnyH_one (i := 11) (by kernel_rfl) rfl (fun K hK => ?_)
          rw [if_pos (by rfl)]
          refine step_store56 rfl (.tmp 4) (.tmp 18) rfl a3 rfl (mastOf p) (by rw [HH.out]; rfl) hA ?_; intro wx hA2 hgr hsz; have hHX := hHeld.grown hgr hb3 (by simp; omega)
          refine hK.out _ _ (by exact hHX) (fun hHeld => ?_)
          clear hK K
          (try simp only [Act.put, List.setIfInBounds_toArray, List.set_cons_zero, List.set_cons_succ])
          refine wpAnyH_done (by kernel_rfl) ?_ _
          (go_wp2_with fail; go_meet; case rel => exact ⟨a3, rfl, hb3, hn1, hn2, ⟨hHX.cons hA2⟩⟩)
      · skip
        rw [if_pos (by rfl)]
        refine step_alloc56 4 rfl rfl ?_; intro wx a3 hg hA hgr; have hHX := hHeld.fresh hgr; have hb3 : w.heap.size ≤ a3 := Nat.le_trans hHeld.size hg; have hn1 : a1 ≠ a3 := (by have := hHeld.tail.head.lt; omega); have hn2 : a2 ≠ a3 := (by have := hHeld.head.lt; omega); clear hgr hg
        refine hK.out _ _ (by exact hHX) (fun hHeld => ?_)
        clear hK K
        (try simp only [Act.put, List.setIfInBounds_toArray, List.set_cons_zero, List.set_cons_succ])
        refine wpAnyH_one (i := 3) (by kernel_rfl) rfl (fun K hK => ?_)
        go_simp
        go_wp2_with ((go_at_call 61; refine (get61_calls _ p a1 28 hHeld.tail.head HP.out hl 1 8 (by omega) (by omega)).mono ?_; rintro e wx ⟨rfl, rfl⟩))
        refine hK.out _ _ (by exact hHeld) (fun hHeld => ?_)
        clear hK K
        refine wpAnyH_one (i := 4) (by kernel_rfl) rfl (fun K hK => ?_)
        go_simp
        go_wp2_with ((go_at_call 61; refine (get61_calls _ p a1 28 hHeld.tail.head HP.out hl 9 8 (by omega) (by omega)).mono ?_; rintro e wx ⟨rfl, rfl⟩))
        refine hK.out _ _ (by exact hHeld) (fun hHeld => ?_)
        clear hK K
        refine wpAnyH_one (i := 5) (by kernel_rfl) rfl (fun K hK => ?_)
        go_simp
        go_wp2_with ((go_at_call 61; refine (get61_calls _ p a1 28 hHeld.tail.head HP.out hl 17 8 (by omega) (by omega)).mono ?_; rintro e wx ⟨rfl, rfl⟩))
        refine hK.out _ _ (by exact hHeld) (fun hHeld => ?_)
        clear hK K
        refine wpAnyH_one (i := 6) (by kernel_rfl) rfl (fun K hK => ?_)
        go_simp
        go_wp2_with ((go_at_call 61; refine (get61_calls _ p a1 28 hHeld.tail.head HP.out hl 25 4 (by omega) (by omega)).mono ?_; rintro e wx ⟨rfl, rfl⟩))
        refine hK.out _ _ (by exact hHeld) (fun hHeld => ?_)
        clear hK K
        refine wpAnyH_one (i := 7) (by kernel_rfl) rfl (fun K hK => ?_)
        go_simp
        go_wp2_with ((go_at_call 61; refine (get61_calls _ p a1 28 hHeld.tail.head HP.out hl 29 4 (by omega) (by omega)).mono ?_; rintro e wx ⟨rfl, rfl⟩))
        refine hK.out _ _ (by exact hHeld) (fun hHeld => ?_)
        clear hK K
        refine wpAnyH_tk (i := 8) (v := _) 17 rfl rfl (by kernel_rfl) (by kernel_rfl) (by kernel_rfl) (fun _ _ _ h => h) (show YieldsIf Try.prog _ _ _ (.int .u32 (getN p 29 4)) _ from Or.inl ⟨(by rfl), fun w hSw => by go_simp; exact HU.out⟩) hHeld ?_
        (try simp only [Act.put, List.setIfInBounds_toArray, List.set_cons_zero, List.set_cons_succ])
        refine wpAnyH_tk (i := 9) (v := _) 18 rfl rfl (by kernel_rfl) (by kernel_rfl) (by kernel_rfl) (fun _ _ _ h => h) (yields_build56 (by rfl) (.tmp 11) (.tmp 12) (.tmp 13) (.tmp 14) (.tmp 15) (.tmp 17) rfl _ _ _ _ _ _ rfl rfl rfl rfl rfl rfl) hHeld ?_
        (try simp only [Act.put, List.setIfInBounds_toArray, List.set_cons_zero, List.set_cons_succ])
        refine wpAnyH_one (i := 11) (by kernel_rfl) rfl (fun K hK => ?_)
        rw [if_pos (by rfl)]
        refine step_store56 rfl (.tmp 4) (.tmp 18) rfl a3 rfl (mastOf p) (by rw [HH.out]; rfl) hA ?_; intro wx hA2 hgr hsz; have hHX := hHeld.grown hgr hb3 (by simp; omega)
        refine hK.out _ _ (by exact hHX) (fun hHeld => ?_)
        clear hK K
        (try simp only [Act.put, List.setIfInBounds_toArray, List.set_cons_zero, List.set_cons_succ])
        refine wpAnyH_done (by kernel_rfl) ?_ _
        (go_wp2_with fail; go_meet; case rel => exact ⟨a3, rfl, hb3, hn1, hn2, ⟨hHX.cons hA2⟩⟩)
    case rest =>
      obtain ⟨a3, rfl, hb3, hn1, hn2, HK⟩ := hcut
      clear H2 H1 HC HU HH hmb
      have hll := mastLay_length (mastOf p)
      have hlb := mastLay_bytes (mastOf p)
      go_upto_region 4 with (fail)
      by_cases hbad : m ≠ 129 ∧ m ≠ 130
      · have HR := Aside0.mk (mastRead_mark p hr (by rw [← HM.out]; exact hbad.1) (by rw [← HM.out]; exact hbad.2))
        have hd1 : (m != 129) = true := by simp; exact hbad.1
        have hd2 : (m != 130) = true := by simp; exact hbad.2
        clear hbad
        refine wp_region_held_drew (S := (fun w' => Keeps w [(a3, 56, mastC (mastOf p)), (a2, 56, mastC mast0), (a1, 28, encs (Value.int .u8) p)] w')) (by kernel_rfl) (by exact HK.out.drew) (fun hHeld => ?_)
        refine wpAnyH_tk (i := 0) (v := ?vz14) 19 rfl rfl (by kernel_rfl) (by kernel_rfl) (by kernel_rfl) (fun _ _ _ h => h) (Or.inl ⟨by rfl, ?yz14⟩) hHeld ?rz14
        case yz14 => (intro w hSw; go_simp; try with_reducible rfl)
        (try simp only [Act.put, List.setIfInBounds_toArray, List.set_cons_zero, List.set_cons_succ])
        refine wpAnyH_tk (i := 1) (v := _) 20 rfl rfl (by kernel_rfl) (by kernel_rfl) (by kernel_rfl) (fun _ _ _ h => h) (yields_cell (by rfl) 5 (.tmp 19) rfl ⟨a1, 0, none⟩ rfl (v := .int .u8 m) (fun _ h => by rw [HM.out]; exact Blk.encAt h.tail.tail.head (0 : Int) 0 (by omega)) Try.underlying5 rfl) hHeld ?_
        (try simp only [Act.put, List.setIfInBounds_toArray, List.set_cons_zero, List.set_cons_succ])
        refine wpAnyH_tk (i := 2) (v := _) 21 rfl rfl (by kernel_rfl) (by kernel_rfl) (by kernel_rfl) (fun _ _ _ h => h) (show YieldsIf Try.prog _ _ _ (.bool true) _ from Or.inl ⟨(by rfl), fun w hSw => by go_simp; try simp [hd1]⟩) hHeld ?_
        (try simp only [Act.put, List.setIfInBounds_toArray, List.set_cons_zero, List.set_cons_succ])
        refine wpAnyH_tk (i := 3) (v := ?vz15) 22 rfl rfl (by kernel_rfl) (by kernel_rfl) (by kernel_rfl) (fun _ _ _ h => h) (Or.inl ⟨by rfl, ?yz15⟩) hHeld ?rz15
        case yz15 => (intro w hSw; go_simp; try with_reducible rfl)
        (try simp only [Act.put, List.setIfInBounds_toArray, List.set_cons_zero, List.set_cons_succ])
        refine wpAnyH_tk (i := 4) (v := ?vz16) 23 rfl rfl (by kernel_rfl) (by kernel_rfl) (by kernel_rfl) (fun _ _ _ h => h) (Or.inl ⟨by rfl, ?yz16⟩) hHeld ?rz16
        case yz16 => (intro w hSw; go_simp; try with_reducible rfl)
        (try simp only [Act.put, List.setIfInBounds_toArray, List.set_cons_zero, List.set_cons_succ])
        refine wpAnyH_tk (i := 5) (v := _) 24 rfl rfl (by kernel_rfl) (by kernel_rfl) (by kernel_rfl) (fun _ _ _ h => h) (yields_cell (by rfl) 5 (.tmp 23) rfl ⟨a1, 0, none⟩ rfl (v := .int .u8 m) (fun _ h => by rw [HM.out]; exact Blk.encAt h.tail.tail.head (0 : Int) 0 (by omega)) Try.underlying5 rfl) hHeld ?_
        (try simp only [Act.put, List.setIfInBounds_toArray, List.set_cons_zero, List.set_cons_succ])
        refine wpAnyH_tk (i := 6) (v := _) 25 rfl rfl (by kernel_rfl) (by kernel_rfl) (by kernel_rfl) (fun _ _ _ h => h) (show YieldsIf Try.prog _ _ _ (.bool true) _ from Or.inl ⟨(by rfl), fun w hSw => by go_simp; try simp [hd2]⟩) hHeld ?_
        (try simp only [Act.put, List.setIfInBounds_toArray, List.set_cons_zero, List.set_cons_succ])
        refine wpAnyH_tk (i := 7) (v := ?vz17) 26 rfl rfl (by kernel_rfl) (by kernel_rfl) (by kernel_rfl) (fun _ _ _ h => h) (Or.inl ⟨by rfl, ?yz17⟩) hHeld ?rz17
        case yz17 => (intro w hSw; go_simp; try with_reducible rfl)
        (try simp only [Act.put, List.setIfInBounds_toArray, List.set_cons_zero, List.set_cons_succ])
        refine wpAnyH_tk (i := 8) (v := ?vz18) 27 rfl rfl (by kernel_rfl) (by kernel_rfl) (by kernel_rfl) (fun _ _ _ h => h) (Or.inl ⟨by rfl, ?yz18⟩) hHeld ?rz18
        case yz18 => (intro w hSw; go_simp; try with_reducible rfl)
        (try simp only [Act.put, List.setIfInBounds_toArray, List.set_cons_zero, List.set_cons_succ])
        refine wpAnyH_tk (i := 9) (v := undef) 28 rfl rfl (by kernel_rfl) (by kernel_rfl) (by kernel_rfl) (fun _ _ _ h => h) (yields_not (by rfl)) hHeld ?_
        (try simp only [Act.put, List.setIfInBounds_toArray, List.set_cons_zero, List.set_cons_succ])
        refine wpAnyH_tk (i := 10) (v := undef) 29 rfl rfl (by kernel_rfl) (by kernel_rfl) (by kernel_rfl) (fun _ _ _ h => h) (yields_not (by rfl)) hHeld ?_
        (try simp only [Act.put, List.setIfInBounds_toArray, List.set_cons_zero, List.set_cons_succ])
        refine wpAnyH_tk (i := 11) (v := undef) 30 rfl rfl (by kernel_rfl) (by kernel_rfl) (by kernel_rfl) (fun _ _ _ h => h) (yields_not (by rfl)) hHeld ?_
        (try simp only [Act.put, List.setIfInBounds_toArray, List.set_cons_zero, List.set_cons_succ])
        refine wpAnyH_tk (i := 12) (v := ?vz19) 31 rfl rfl (by kernel_rfl) (by kernel_rfl) (by kernel_rfl) (fun _ _ _ h => h) (Or.inl ⟨by rfl, ?yz19⟩) hHeld ?rz19
        case yz19 => (intro w hSw; go_simp; try with_reducible rfl)
        (try simp only [Act.put, List.setIfInBounds_toArray, List.set_cons_zero, List.set_cons_succ])
        refine wpAnyH_tk (i := 13) (v := ?vz20) 32 rfl rfl (by kernel_rfl) (by kernel_rfl) (by kernel_rfl) (fun _ _ _ h => h) (Or.inl ⟨by rfl, ?yz20⟩) hHeld ?rz20
        case yz20 => (intro w hSw; go_simp; try with_reducible rfl)
        (try simp only [Act.put, List.setIfInBounds_toArray, List.set_cons_zero, List.set_cons_succ])
        refine wpAnyH_tk (i := 14) (v := undef) 33 rfl rfl (by kernel_rfl) (by kernel_rfl) (by kernel_rfl) (fun _ _ _ h => h) (yields_not (by rfl)) hHeld ?_
        (try simp only [Act.put, List.setIfInBounds_toArray, List.set_cons_zero, List.set_cons_succ])
        refine wpAnyH_tk (i := 15) (v := undef) 34 rfl rfl (by kernel_rfl) (by kernel_rfl) (by kernel_rfl) (fun _ _ _ h => h) (yields_not (by rfl)) hHeld ?_
        (try simp only [Act.put, List.setIfInBounds_toArray, List.set_cons_zero, List.set_cons_succ])
        refine wpAnyH_tk (i := 16) (v := undef) 35 rfl rfl (by kernel_rfl) (by kernel_rfl) (by kernel_rfl) (fun _ _ _ h => h) (yields_not (by rfl)) hHeld ?_
        (try simp only [Act.put, List.setIfInBounds_toArray, List.set_cons_zero, List.set_cons_succ])
        refine wpAnyH_tk (i := 17) (v := undef) 36 rfl rfl (by kernel_rfl) (by kernel_rfl) (by kernel_rfl) (fun _ _ _ h => h) (yields_not (by rfl)) hHeld ?_
        (try simp only [Act.put, List.setIfInBounds_toArray, List.set_cons_zero, List.set_cons_succ])
        refine wpAnyH_tk (i := 18) (v := ?vz21) 37 rfl rfl (by kernel_rfl) (by kernel_rfl) (by kernel_rfl) (fun _ _ _ h => h) (Or.inl ⟨by rfl, ?yz21⟩) hHeld ?rz21
        case yz21 => (intro w hSw; go_simp; try with_reducible rfl)
        (try simp only [Act.put, List.setIfInBounds_toArray, List.set_cons_zero, List.set_cons_succ])
        refine wpAnyH_done (by kernel_rfl) ?_ _
        skip
        go_wp2_with (first | ((with_reducible refine gate_dst (N := 38) rfl ?_); refine build56z rfl rfl ?_) | ((with_reducible refine gate_store (t := 56) (p := 2) rfl ?_); refine store56 rfl rfl (.tmp 2) (.tmp 38) rfl a2 rfl mast0 rfl hHeld.tail.head ?_; intro w5 h6 h7 h8; have HZ := Aside0.mk (Keeps.put1 hHeld h7 hb2 (by simp; omega) (by simp; omega) h6); clear h6 h7))
        refine bodyPost_ret (results_ct rfl _ _ a2 56 _ (0, 0) _ rfl HZ.out.tail.head Try.underlying56 rfl (size56 mast0)) rfl ?_
        exact ⟨by rw [HR.out]; rfl, HZ.out.below⟩
      · have h2 : m = 129 ∨ m = 130 := by omega
        clear hbad
        cases hok : mastOk (mastOf p)
        · have HR := Aside0.mk (mastRead_bad p hr hok)
          rcases h2 with rfl | rfl
          · skip
            refine wp_region_held_drew (S := (fun w' => Keeps w [(a3, 56, mastC (mastOf p)), (a2, 56, mastC mast0), (a1, 28, encs (Value.int .u8) p)] w')) (by kernel_rfl) (by exact HK.out.drew) (fun hHeld => ?_)
            refine wpAnyH_tk (i := 0) (v := ?vz22) 19 rfl rfl (by kernel_rfl) (by kernel_rfl) (by kernel_rfl) (fun _ _ _ h => h) (Or.inl ⟨by rfl, ?yz22⟩) hHeld ?rz22
            case yz22 => (intro w hSw; go_simp; try with_reducible rfl)
            (try simp only [Act.put, List.setIfInBounds_toArray, List.set_cons_zero, List.set_cons_succ])
            refine wpAnyH_tk (i := 1) (v := _) 20 rfl rfl (by kernel_rfl) (by kernel_rfl) (by kernel_rfl) (fun _ _ _ h => h) (yields_cell (by rfl) 5 (.tmp 19) rfl ⟨a1, 0, none⟩ rfl (v := .int .u8 129) (fun _ h => by rw [HM.out]; exact Blk.encAt h.tail.tail.head (0 : Int) 0 (by omega)) Try.underlying5 rfl) hHeld ?_
            (try simp only [Act.put, List.setIfInBounds_toArray, List.set_cons_zero, List.set_cons_succ])
            refine wpAnyH_tk (i := 2) (v := _) 21 rfl rfl (by kernel_rfl) (by kernel_rfl) (by kernel_rfl) (fun _ _ _ h => h) (show YieldsIf Try.prog _ _ _ (.bool false) _ from Or.inl ⟨(by rfl), fun w hSw => by go_simp; try rfl⟩) hHeld ?_
            (try simp only [Act.put, List.setIfInBounds_toArray, List.set_cons_zero, List.set_cons_succ])
            refine wpAnyH_tk (i := 3) (v := ?vz23) 22 rfl rfl (by kernel_rfl) (by kernel_rfl) (by kernel_rfl) (fun _ _ _ h => h) (Or.inl ⟨by rfl, ?yz23⟩) hHeld ?rz23
            case yz23 => (intro w hSw; go_simp; try with_reducible rfl)
            (try simp only [Act.put, List.setIfInBounds_toArray, List.set_cons_zero, List.set_cons_succ])
            refine wpAnyH_tk (i := 4) (v := undef) 23 rfl rfl (by kernel_rfl) (by kernel_rfl) (by kernel_rfl) (fun _ _ _ h => h) (yields_not (by rfl)) hHeld ?_
            (try simp only [Act.put, List.setIfInBounds_toArray, List.set_cons_zero, List.set_cons_succ])
            refine wpAnyH_tk (i := 5) (v := undef) 24 rfl rfl (by kernel_rfl) (by kernel_rfl) (by kernel_rfl) (fun _ _ _ h => h) (yields_not (by rfl)) hHeld ?_
            (try simp only [Act.put, List.setIfInBounds_toArray, List.set_cons_zero, List.set_cons_succ])
            refine wpAnyH_tk (i := 6) (v := undef) 25 rfl rfl (by kernel_rfl) (by kernel_rfl) (by kernel_rfl) (fun _ _ _ h => h) (yields_not (by rfl)) hHeld ?_
            (try simp only [Act.put, List.setIfInBounds_toArray, List.set_cons_zero, List.set_cons_succ])
            refine wpAnyH_tk (i := 7) (v := ?vz24) 26 rfl rfl (by kernel_rfl) (by kernel_rfl) (by kernel_rfl) (fun _ _ _ h => h) (Or.inl ⟨by rfl, ?yz24⟩) hHeld ?rz24
            case yz24 => (intro w hSw; go_simp; try with_reducible rfl)
            (try simp only [Act.put, List.setIfInBounds_toArray, List.set_cons_zero, List.set_cons_succ])
            refine wpAnyH_tk (i := 8) (v := ?vz25) 27 rfl rfl (by kernel_rfl) (by kernel_rfl) (by kernel_rfl) (fun _ _ _ h => h) (Or.inl ⟨by rfl, ?yz25⟩) hHeld ?rz25
            case yz25 => (intro w hSw; go_simp; try with_reducible rfl)
            (try simp only [Act.put, List.setIfInBounds_toArray, List.set_cons_zero, List.set_cons_succ])
            refine wpAnyH_tk (i := 9) (v := _) 28 rfl rfl (by kernel_rfl) (by kernel_rfl) (by kernel_rfl) (fun _ _ _ h => h) (yields_load (by rfl) 56 (.tmp 4) rfl a3 rfl (fun _ h => h.head) Try.underlying56 rfl (size56 _)) hHeld ?_
            (try simp only [Act.put, List.setIfInBounds_toArray, List.set_cons_zero, List.set_cons_succ])
            refine wpAnyH_one (i := 10) (by kernel_rfl) rfl (fun K hK => ?_)
            go_simp
            go_wp2_with ((go_at_call 35; refine (right_calls _ (mastOf p)).mono ?_; rintro e wx ⟨rfl, hb⟩; rw [hok]; have hHX := hHeld.step hb))
            refine hK.out _ _ (by exact hHX) (fun hHeld => ?_)
            clear hK K
            refine wpAnyH_tk (i := 11) (v := ?vz26) 30 rfl rfl (by kernel_rfl) (by kernel_rfl) (by kernel_rfl) (fun _ _ _ h => h) (Or.inl ⟨by rfl, ?yz26⟩) hHeld ?rz26
            case yz26 => (intro w hSw; go_simp; try with_reducible rfl)
            (try simp only [Act.put, List.setIfInBounds_toArray, List.set_cons_zero, List.set_cons_succ])
            refine wpAnyH_tk (i := 12) (v := ?vz27) 31 rfl rfl (by kernel_rfl) (by kernel_rfl) (by kernel_rfl) (fun _ _ _ h => h) (Or.inl ⟨by rfl, ?yz27⟩) hHeld ?rz27
            case yz27 => (intro w hSw; go_simp; try with_reducible rfl)
            (try simp only [Act.put, List.setIfInBounds_toArray, List.set_cons_zero, List.set_cons_succ])
            refine wpAnyH_tk (i := 13) (v := ?vz28) 32 rfl rfl (by kernel_rfl) (by kernel_rfl) (by kernel_rfl) (fun _ _ _ h => h) (Or.inl ⟨by rfl, ?yz28⟩) hHeld ?rz28
            case yz28 => (intro w hSw; go_simp; try with_reducible rfl)
            (try simp only [Act.put, List.setIfInBounds_toArray, List.set_cons_zero, List.set_cons_succ])
            refine wpAnyH_tk (i := 14) (v := undef) 33 rfl rfl (by kernel_rfl) (by kernel_rfl) (by kernel_rfl) (fun _ _ _ h => h) (yields_not (by rfl)) hHeld ?_
            (try simp only [Act.put, List.setIfInBounds_toArray, List.set_cons_zero, List.set_cons_succ])
            refine wpAnyH_tk (i := 15) (v := undef) 34 rfl rfl (by kernel_rfl) (by kernel_rfl) (by kernel_rfl) (fun _ _ _ h => h) (yields_not (by rfl)) hHeld ?_
            (try simp only [Act.put, List.setIfInBounds_toArray, List.set_cons_zero, List.set_cons_succ])
            refine wpAnyH_tk (i := 16) (v := undef) 35 rfl rfl (by kernel_rfl) (by kernel_rfl) (by kernel_rfl) (fun _ _ _ h => h) (yields_not (by rfl)) hHeld ?_
            (try simp only [Act.put, List.setIfInBounds_toArray, List.set_cons_zero, List.set_cons_succ])
            refine wpAnyH_tk (i := 17) (v := undef) 36 rfl rfl (by kernel_rfl) (by kernel_rfl) (by kernel_rfl) (fun _ _ _ h => h) (yields_not (by rfl)) hHeld ?_
            (try simp only [Act.put, List.setIfInBounds_toArray, List.set_cons_zero, List.set_cons_succ])
            refine wpAnyH_tk (i := 18) (v := ?vz29) 37 rfl rfl (by kernel_rfl) (by kernel_rfl) (by kernel_rfl) (fun _ _ _ h => h) (Or.inl ⟨by rfl, ?yz29⟩) hHeld ?rz29
            case yz29 => (intro w hSw; go_simp; try with_reducible rfl)
            (try simp only [Act.put, List.setIfInBounds_toArray, List.set_cons_zero, List.set_cons_succ])
            refine wpAnyH_done (by kernel_rfl) ?_ _
            skip
            go_wp2_with (first | ((with_reducible refine gate_dst (N := 38) rfl ?_); refine build56z rfl rfl ?_) | ((with_reducible refine gate_store (t := 56) (p := 2) rfl ?_); refine store56 rfl rfl (.tmp 2) (.tmp 38) rfl a2 rfl mast0 rfl hHeld.tail.head ?_; intro w5 h6 h7 h8; have HZ := Aside0.mk (Keeps.put1 hHeld h7 hb2 (by simp; omega) (by simp; omega) h6); clear h6 h7))
            refine bodyPost_ret (results_ct rfl _ _ a2 56 _ (0, 0) _ rfl HZ.out.tail.head Try.underlying56 rfl (size56 mast0)) rfl ?_
            exact ⟨by rw [HR.out]; rfl, HZ.out.below⟩
          · skip
            refine wp_region_held_drew (S := (fun w' => Keeps w [(a3, 56, mastC (mastOf p)), (a2, 56, mastC mast0), (a1, 28, encs (Value.int .u8) p)] w')) (by kernel_rfl) (by exact HK.out.drew) (fun hHeld => ?_)
            refine wpAnyH_tk (i := 0) (v := ?vz30) 19 rfl rfl (by kernel_rfl) (by kernel_rfl) (by kernel_rfl) (fun _ _ _ h => h) (Or.inl ⟨by rfl, ?yz30⟩) hHeld ?rz30
            case yz30 => (intro w hSw; go_simp; try with_reducible rfl)
            (try simp only [Act.put, List.setIfInBounds_toArray, List.set_cons_zero, List.set_cons_succ])
            refine wpAnyH_tk (i := 1) (v := _) 20 rfl rfl (by kernel_rfl) (by kernel_rfl) (by kernel_rfl) (fun _ _ _ h => h) (yields_cell (by rfl) 5 (.tmp 19) rfl ⟨a1, 0, none⟩ rfl (v := .int .u8 130) (fun _ h => by rw [HM.out]; exact Blk.encAt h.tail.tail.head (0 : Int) 0 (by omega)) Try.underlying5 rfl) hHeld ?_
            (try simp only [Act.put, List.setIfInBounds_toArray, List.set_cons_zero, List.set_cons_succ])
            refine wpAnyH_tk (i := 2) (v := _) 21 rfl rfl (by kernel_rfl) (by kernel_rfl) (by kernel_rfl) (fun _ _ _ h => h) (show YieldsIf Try.prog _ _ _ (.bool true) _ from Or.inl ⟨(by rfl), fun w hSw => by go_simp; try rfl⟩) hHeld ?_
            (try simp only [Act.put, List.setIfInBounds_toArray, List.set_cons_zero, List.set_cons_succ])
            refine wpAnyH_tk (i := 3) (v := ?vz31) 22 rfl rfl (by kernel_rfl) (by kernel_rfl) (by kernel_rfl) (fun _ _ _ h => h) (Or.inl ⟨by rfl, ?yz31⟩) hHeld ?rz31
            case yz31 => (intro w hSw; go_simp; try with_reducible rfl)
            (try simp only [Act.put, List.setIfInBounds_toArray, List.set_cons_zero, List.set_cons_succ])
            refine wpAnyH_tk (i := 4) (v := ?vz32) 23 rfl rfl (by kernel_rfl) (by kernel_rfl) (by kernel_rfl) (fun _ _ _ h => h) (Or.inl ⟨by rfl, ?yz32⟩) hHeld ?rz32
            case yz32 => (intro w hSw; go_simp; try with_reducible rfl)
            (try simp only [Act.put, List.setIfInBounds_toArray, List.set_cons_zero, List.set_cons_succ])
            refine wpAnyH_tk (i := 5) (v := _) 24 rfl rfl (by kernel_rfl) (by kernel_rfl) (by kernel_rfl) (fun _ _ _ h => h) (yields_cell (by rfl) 5 (.tmp 23) rfl ⟨a1, 0, none⟩ rfl (v := .int .u8 130) (fun _ h => by rw [HM.out]; exact Blk.encAt h.tail.tail.head (0 : Int) 0 (by omega)) Try.underlying5 rfl) hHeld ?_
            (try simp only [Act.put, List.setIfInBounds_toArray, List.set_cons_zero, List.set_cons_succ])
            refine wpAnyH_tk (i := 6) (v := _) 25 rfl rfl (by kernel_rfl) (by kernel_rfl) (by kernel_rfl) (fun _ _ _ h => h) (show YieldsIf Try.prog _ _ _ (.bool false) _ from Or.inl ⟨(by rfl), fun w hSw => by go_simp; try rfl⟩) hHeld ?_
            (try simp only [Act.put, List.setIfInBounds_toArray, List.set_cons_zero, List.set_cons_succ])
            refine wpAnyH_tk (i := 7) (v := ?vz33) 26 rfl rfl (by kernel_rfl) (by kernel_rfl) (by kernel_rfl) (fun _ _ _ h => h) (Or.inl ⟨by rfl, ?yz33⟩) hHeld ?rz33
            case yz33 => (intro w hSw; go_simp; try with_reducible rfl)
            (try simp only [Act.put, List.setIfInBounds_toArray, List.set_cons_zero, List.set_cons_succ])
            refine wpAnyH_tk (i := 8) (v := ?vz34) 27 rfl rfl (by kernel_rfl) (by kernel_rfl) (by kernel_rfl) (fun _ _ _ h => h) (Or.inl ⟨by rfl, ?yz34⟩) hHeld ?rz34
            case yz34 => (intro w hSw; go_simp; try with_reducible rfl)
            (try simp only [Act.put, List.setIfInBounds_toArray, List.set_cons_zero, List.set_cons_succ])
            refine wpAnyH_tk (i := 9) (v := _) 28 rfl rfl (by kernel_rfl) (by kernel_rfl) (by kernel_rfl) (fun _ _ _ h => h) (yields_load (by rfl) 56 (.tmp 4) rfl a3 rfl (fun _ h => h.head) Try.underlying56 rfl (size56 _)) hHeld ?_
            (try simp only [Act.put, List.setIfInBounds_toArray, List.set_cons_zero, List.set_cons_succ])
            refine wpAnyH_one (i := 10) (by kernel_rfl) rfl (fun K hK => ?_)
            go_simp
            go_wp2_with ((go_at_call 35; refine (right_calls _ (mastOf p)).mono ?_; rintro e wx ⟨rfl, hb⟩; rw [hok]; have hHX := hHeld.step hb))
            refine hK.out _ _ (by exact hHX) (fun hHeld => ?_)
            clear hK K
            refine wpAnyH_tk (i := 11) (v := ?vz35) 30 rfl rfl (by kernel_rfl) (by kernel_rfl) (by kernel_rfl) (fun _ _ _ h => h) (Or.inl ⟨by rfl, ?yz35⟩) hHeld ?rz35
            case yz35 => (intro w hSw; go_simp; try with_reducible rfl)
            (try simp only [Act.put, List.setIfInBounds_toArray, List.set_cons_zero, List.set_cons_succ])
            refine wpAnyH_tk (i := 12) (v := ?vz36) 31 rfl rfl (by kernel_rfl) (by kernel_rfl) (by kernel_rfl) (fun _ _ _ h => h) (Or.inl ⟨by rfl, ?yz36⟩) hHeld ?rz36
            case yz36 => (intro w hSw; go_simp; try with_reducible rfl)
            (try simp only [Act.put, List.setIfInBounds_toArray, List.set_cons_zero, List.set_cons_succ])
            refine wpAnyH_tk (i := 13) (v := ?vz37) 32 rfl rfl (by kernel_rfl) (by kernel_rfl) (by kernel_rfl) (fun _ _ _ h => h) (Or.inl ⟨by rfl, ?yz37⟩) hHeld ?rz37
            case yz37 => (intro w hSw; go_simp; try with_reducible rfl)
            (try simp only [Act.put, List.setIfInBounds_toArray, List.set_cons_zero, List.set_cons_succ])
            refine wpAnyH_tk (i := 14) (v := undef) 33 rfl rfl (by kernel_rfl) (by kernel_rfl) (by kernel_rfl) (fun _ _ _ h => h) (yields_not (by rfl)) hHeld ?_
            (try simp only [Act.put, List.setIfInBounds_toArray, List.set_cons_zero, List.set_cons_succ])
            refine wpAnyH_tk (i := 15) (v := undef) 34 rfl rfl (by kernel_rfl) (by kernel_rfl) (by kernel_rfl) (fun _ _ _ h => h) (yields_not (by rfl)) hHeld ?_
            (try simp only [Act.put, List.setIfInBounds_toArray, List.set_cons_zero, List.set_cons_succ])
            refine wpAnyH_tk (i := 16) (v := undef) 35 rfl rfl (by kernel_rfl) (by kernel_rfl) (by kernel_rfl) (fun _ _ _ h => h) (yields_not (by rfl)) hHeld ?_
            (try simp only [Act.put, List.setIfInBounds_toArray, List.set_cons_zero, List.set_cons_succ])
            refine wpAnyH_tk (i := 17) (v := undef) 36 rfl rfl (by kernel_rfl) (by kernel_rfl) (by kernel_rfl) (fun _ _ _ h => h) (yields_not (by rfl)) hHeld ?_
            (try simp only [Act.put, List.setIfInBounds_toArray, List.set_cons_zero, List.set_cons_succ])
            refine wpAnyH_tk (i := 18) (v := ?vz38) 37 rfl rfl (by kernel_rfl) (by kernel_rfl) (by kernel_rfl) (fun _ _ _ h => h) (Or.inl ⟨by rfl, ?yz38⟩) hHeld ?rz38
            case yz38 => (intro w hSw; go_simp; try with_reducible rfl)
            (try simp only [Act.put, List.setIfInBounds_toArray, List.set_cons_zero, List.set_cons_succ])
            refine wpAnyH_done (by kernel_rfl) ?_ _
            skip
            go_wp2_with (first | ((with_reducible refine gate_dst (N := 38) rfl ?_); refine build56z rfl rfl ?_) | ((with_reducible refine gate_store (t := 56) (p := 2) rfl ?_); refine store56 rfl rfl (.tmp 2) (.tmp 38) rfl a2 rfl mast0 rfl hHeld.tail.head ?_; intro w5 h6 h7 h8; have HZ := Aside0.mk (Keeps.put1 hHeld h7 hb2 (by simp; omega) (by simp; omega) h6); clear h6 h7))
            refine bodyPost_ret (results_ct rfl _ _ a2 56 _ (0, 0) _ rfl HZ.out.tail.head Try.underlying56 rfl (size56 mast0)) rfl ?_
            exact ⟨by rw [HR.out]; rfl, HZ.out.below⟩
        · obtain ⟨b, hbd⟩ : ∃ b, b = decide (mastLay (mastOf p) = p) := ⟨_, rfl⟩
          have HR := Aside0.mk (mastRead_if p hr b hok hbd)
          have HE := Aside0.mk (eq28 hll hl hlb HP.out)
          rw [← hbd] at HE
          clear hbd
          rcases h2 with rfl | rfl
          · skip
            refine wp_region_held_drew (S := (fun w' => Keeps w [(a3, 56, mastC (mastOf p)), (a2, 56, mastC mast0), (a1, 28, encs (Value.int .u8) p)] w')) (by kernel_rfl) (by exact HK.out.drew) (fun hHeld => ?_)
            refine wpAnyH_tk (i := 0) (v := ?vz39) 19 rfl rfl (by kernel_rfl) (by kernel_rfl) (by kernel_rfl) (fun _ _ _ h => h) (Or.inl ⟨by rfl, ?yz39⟩) hHeld ?rz39
            case yz39 => (intro w hSw; go_simp; try with_reducible rfl)
            (try simp only [Act.put, List.setIfInBounds_toArray, List.set_cons_zero, List.set_cons_succ])
            refine wpAnyH_tk (i := 1) (v := _) 20 rfl rfl (by kernel_rfl) (by kernel_rfl) (by kernel_rfl) (fun _ _ _ h => h) (yields_cell (by rfl) 5 (.tmp 19) rfl ⟨a1, 0, none⟩ rfl (v := .int .u8 129) (fun _ h => by rw [HM.out]; exact Blk.encAt h.tail.tail.head (0 : Int) 0 (by omega)) Try.underlying5 rfl) hHeld ?_
            (try simp only [Act.put, List.setIfInBounds_toArray, List.set_cons_zero, List.set_cons_succ])
            refine wpAnyH_tk (i := 2) (v := _) 21 rfl rfl (by kernel_rfl) (by kernel_rfl) (by kernel_rfl) (fun _ _ _ h => h) (show YieldsIf Try.prog _ _ _ (.bool false) _ from Or.inl ⟨(by rfl), fun w hSw => by go_simp; try rfl⟩) hHeld ?_
            (try simp only [Act.put, List.setIfInBounds_toArray, List.set_cons_zero, List.set_cons_succ])
            refine wpAnyH_tk (i := 3) (v := ?vz40) 22 rfl rfl (by kernel_rfl) (by kernel_rfl) (by kernel_rfl) (fun _ _ _ h => h) (Or.inl ⟨by rfl, ?yz40⟩) hHeld ?rz40
            case yz40 => (intro w hSw; go_simp; try with_reducible rfl)
            (try simp only [Act.put, List.setIfInBounds_toArray, List.set_cons_zero, List.set_cons_succ])
            refine wpAnyH_tk (i := 4) (v := undef) 23 rfl rfl (by kernel_rfl) (by kernel_rfl) (by kernel_rfl) (fun _ _ _ h => h) (yields_not (by rfl)) hHeld ?_
            (try simp only [Act.put, List.setIfInBounds_toArray, List.set_cons_zero, List.set_cons_succ])
            refine wpAnyH_tk (i := 5) (v := undef) 24 rfl rfl (by kernel_rfl) (by kernel_rfl) (by kernel_rfl) (fun _ _ _ h => h) (yields_not (by rfl)) hHeld ?_
            (try simp only [Act.put, List.setIfInBounds_toArray, List.set_cons_zero, List.set_cons_succ])
            refine wpAnyH_tk (i := 6) (v := undef) 25 rfl rfl (by kernel_rfl) (by kernel_rfl) (by kernel_rfl) (fun _ _ _ h => h) (yields_not (by rfl)) hHeld ?_
            (try simp only [Act.put, List.setIfInBounds_toArray, List.set_cons_zero, List.set_cons_succ])
            refine wpAnyH_tk (i := 7) (v := ?vz41) 26 rfl rfl (by kernel_rfl) (by kernel_rfl) (by kernel_rfl) (fun _ _ _ h => h) (Or.inl ⟨by rfl, ?yz41⟩) hHeld ?rz41
            case yz41 => (intro w hSw; go_simp; try with_reducible rfl)
            (try simp only [Act.put, List.setIfInBounds_toArray, List.set_cons_zero, List.set_cons_succ])
            refine wpAnyH_tk (i := 8) (v := ?vz42) 27 rfl rfl (by kernel_rfl) (by kernel_rfl) (by kernel_rfl) (fun _ _ _ h => h) (Or.inl ⟨by rfl, ?yz42⟩) hHeld ?rz42
            case yz42 => (intro w hSw; go_simp; try with_reducible rfl)
            (try simp only [Act.put, List.setIfInBounds_toArray, List.set_cons_zero, List.set_cons_succ])
            refine wpAnyH_tk (i := 9) (v := _) 28 rfl rfl (by kernel_rfl) (by kernel_rfl) (by kernel_rfl) (fun _ _ _ h => h) (yields_load (by rfl) 56 (.tmp 4) rfl a3 rfl (fun _ h => h.head) Try.underlying56 rfl (size56 _)) hHeld ?_
            (try simp only [Act.put, List.setIfInBounds_toArray, List.set_cons_zero, List.set_cons_succ])
            refine wpAnyH_one (i := 10) (by kernel_rfl) rfl (fun K hK => ?_)
            go_simp
            go_wp2_with ((go_at_call 35; refine (right_calls _ (mastOf p)).mono ?_; rintro e wx ⟨rfl, hb⟩; rw [hok]; have hHX := hHeld.step hb))
            refine hK.out _ _ (by exact hHX) (fun hHeld => ?_)
            clear hK K
            refine wpAnyH_tk (i := 11) (v := ?vz43) 30 rfl rfl (by kernel_rfl) (by kernel_rfl) (by kernel_rfl) (fun _ _ _ h => h) (Or.inl ⟨by rfl, ?yz43⟩) hHeld ?rz43
            case yz43 => (intro w hSw; go_simp; try with_reducible rfl)
            (try simp only [Act.put, List.setIfInBounds_toArray, List.set_cons_zero, List.set_cons_succ])
            refine wpAnyH_tk (i := 12) (v := ?vz44) 31 rfl rfl (by kernel_rfl) (by kernel_rfl) (by kernel_rfl) (fun _ _ _ h => h) (Or.inl ⟨by rfl, ?yz44⟩) hHeld ?rz44
            case yz44 => (intro w hSw; go_simp; try with_reducible rfl)
            (try simp only [Act.put, List.setIfInBounds_toArray, List.set_cons_zero, List.set_cons_succ])
            refine wpAnyH_tk (i := 13) (v := ?vz45) 32 rfl rfl (by kernel_rfl) (by kernel_rfl) (by kernel_rfl) (fun _ _ _ h => h) (Or.inl ⟨by rfl, ?yz45⟩) hHeld ?rz45
            case yz45 => (intro w hSw; go_simp; try with_reducible rfl)
            (try simp only [Act.put, List.setIfInBounds_toArray, List.set_cons_zero, List.set_cons_succ])
            refine wpAnyH_tk (i := 14) (v := _) 33 rfl rfl (by kernel_rfl) (by kernel_rfl) (by kernel_rfl) (fun _ _ _ h => h) (yields_load (by rfl) 56 (.tmp 4) rfl a3 rfl (fun _ h => h.head) Try.underlying56 rfl (size56 _)) hHeld ?_
            (try simp only [Act.put, List.setIfInBounds_toArray, List.set_cons_zero, List.set_cons_succ])
            refine wpAnyH_tk (i := 16) (v := _) 35 rfl rfl (by kernel_rfl) (by kernel_rfl) (by kernel_rfl) (fun _ _ _ h => h) (yields_load (by rfl) 28 (.tmp 1) rfl a1 rfl (fun _ h => h.tail.tail.head) Try.underlying28 rfl (size28' hl)) hHeld ?_
            (try simp only [Act.put, List.setIfInBounds_toArray, List.set_cons_zero, List.set_cons_succ])
            refine wpAnyH_one (i := 15) (by kernel_rfl) rfl (fun K hK => ?_)
            go_simp
            go_wp2_with ((go_at_call 37; refine (lay_calls _ (mastOf p) (mastOf_sum HP.out) hok).mono ?_; rintro e wx ⟨rfl, hb⟩; have hHX := hHeld.step hb))
            refine hK.out _ _ (by exact hHX) (fun hHeld => ?_)
            clear hK K
            refine wpAnyH_tk (i := 17) (v := _) 36 rfl rfl (by kernel_rfl) (by kernel_rfl) (by kernel_rfl) (fun _ _ _ h => h) (yields_neq (by rfl) 28 28 (.tmp 34) (.tmp 35) rfl (encs (Value.int .u8) (mastLay (mastOf p))) (encs (Value.int .u8) p) rfl rfl b HE.out eqg28 rfl) hHeld ?_
            (try simp only [Act.put, List.setIfInBounds_toArray, List.set_cons_zero, List.set_cons_succ])
            refine wpAnyH_tk (i := 18) (v := ?vz46) 37 rfl rfl (by kernel_rfl) (by kernel_rfl) (by kernel_rfl) (fun _ _ _ h => h) (Or.inl ⟨by rfl, ?yz46⟩) hHeld ?rz46
            case yz46 => (intro w hSw; go_simp; try with_reducible rfl)
            (try simp only [Act.put, List.setIfInBounds_toArray, List.set_cons_zero, List.set_cons_succ])
            refine wpAnyH_done (by kernel_rfl) ?_ _
            skip
            cases b
            · go_wp2_with (first | ((with_reducible refine gate_dst (N := 38) rfl ?_); refine build56z rfl rfl ?_) | ((with_reducible refine gate_store (t := 56) (p := 2) rfl ?_); refine store56 rfl rfl (.tmp 2) (.tmp 38) rfl a2 rfl mast0 rfl hHeld.tail.head ?_; intro w5 h6 h7 h8; have HZ := Aside0.mk (Keeps.put1 hHeld h7 hb2 (by simp; omega) (by simp; omega) h6); clear h6 h7))
              refine bodyPost_ret (results_ct rfl _ _ a2 56 _ (0, 0) _ rfl HZ.out.tail.head Try.underlying56 rfl (size56 mast0)) rfl ?_
              exact ⟨by rw [HR.out]; rfl, HZ.out.below⟩
            · go_wp2_with (first | ((with_reducible refine gate_dst (N := 39) rfl ?_); refine load56 rfl (.tmp 4) rfl a3 rfl hHeld.head ?_) | ((with_reducible refine gate_store (t := 56) (p := 2) rfl ?_); refine store56 rfl rfl (.tmp 2) (.tmp 39) rfl a2 rfl (mastOf p) rfl hHeld.tail.head ?_; intro w5 h6 h7 h8; have HZ := Aside0.mk (Keeps.put1 hHeld h7 hb2 (by simp; omega) (by simp; omega) h6); clear h6 h7))
              refine bodyPost_ret (results_ct rfl _ _ a2 56 _ (0, 0) _ rfl HZ.out.tail.head Try.underlying56 rfl (size56 (mastOf p))) rfl ?_
              exact ⟨by rw [HR.out]; rfl, HZ.out.below⟩
          · skip
            refine wp_region_held_drew (S := (fun w' => Keeps w [(a3, 56, mastC (mastOf p)), (a2, 56, mastC mast0), (a1, 28, encs (Value.int .u8) p)] w')) (by kernel_rfl) (by exact HK.out.drew) (fun hHeld => ?_)
            refine wpAnyH_tk (i := 0) (v := ?vz47) 19 rfl rfl (by kernel_rfl) (by kernel_rfl) (by kernel_rfl) (fun _ _ _ h => h) (Or.inl ⟨by rfl, ?yz47⟩) hHeld ?rz47
            case yz47 => (intro w hSw; go_simp; try with_reducible rfl)
            (try simp only [Act.put, List.setIfInBounds_toArray, List.set_cons_zero, List.set_cons_succ])
            refine wpAnyH_tk (i := 1) (v := _) 20 rfl rfl (by kernel_rfl) (by kernel_rfl) (by kernel_rfl) (fun _ _ _ h => h) (yields_cell (by rfl) 5 (.tmp 19) rfl ⟨a1, 0, none⟩ rfl (v := .int .u8 130) (fun _ h => by rw [HM.out]; exact Blk.encAt h.tail.tail.head (0 : Int) 0 (by omega)) Try.underlying5 rfl) hHeld ?_
            (try simp only [Act.put, List.setIfInBounds_toArray, List.set_cons_zero, List.set_cons_succ])
            refine wpAnyH_tk (i := 2) (v := _) 21 rfl rfl (by kernel_rfl) (by kernel_rfl) (by kernel_rfl) (fun _ _ _ h => h) (show YieldsIf Try.prog _ _ _ (.bool true) _ from Or.inl ⟨(by rfl), fun w hSw => by go_simp; try rfl⟩) hHeld ?_
            (try simp only [Act.put, List.setIfInBounds_toArray, List.set_cons_zero, List.set_cons_succ])
            refine wpAnyH_tk (i := 3) (v := ?vz48) 22 rfl rfl (by kernel_rfl) (by kernel_rfl) (by kernel_rfl) (fun _ _ _ h => h) (Or.inl ⟨by rfl, ?yz48⟩) hHeld ?rz48
            case yz48 => (intro w hSw; go_simp; try with_reducible rfl)
            (try simp only [Act.put, List.setIfInBounds_toArray, List.set_cons_zero, List.set_cons_succ])
            refine wpAnyH_tk (i := 4) (v := ?vz49) 23 rfl rfl (by kernel_rfl) (by kernel_rfl) (by kernel_rfl) (fun _ _ _ h => h) (Or.inl ⟨by rfl, ?yz49⟩) hHeld ?rz49
            case yz49 => (intro w hSw; go_simp; try with_reducible rfl)
            (try simp only [Act.put, List.setIfInBounds_toArray, List.set_cons_zero, List.set_cons_succ])
            refine wpAnyH_tk (i := 5) (v := _) 24 rfl rfl (by kernel_rfl) (by kernel_rfl) (by kernel_rfl) (fun _ _ _ h => h) (yields_cell (by rfl) 5 (.tmp 23) rfl ⟨a1, 0, none⟩ rfl (v := .int .u8 130) (fun _ h => by rw [HM.out]; exact Blk.encAt h.tail.tail.head (0 : Int) 0 (by omega)) Try.underlying5 rfl) hHeld ?_
            (try simp only [Act.put, List.setIfInBounds_toArray, List.set_cons_zero, List.set_cons_succ])
            refine wpAnyH_tk (i := 6) (v := _) 25 rfl rfl (by kernel_rfl) (by kernel_rfl) (by kernel_rfl) (fun _ _ _ h => h) (show YieldsIf Try.prog _ _ _ (.bool false) _ from Or.inl ⟨(by rfl), fun w hSw => by go_simp; try rfl⟩) hHeld ?_
            (try simp only [Act.put, List.setIfInBounds_toArray, List.set_cons_zero, List.set_cons_succ])
            refine wpAnyH_tk (i := 7) (v := ?vz50) 26 rfl rfl (by kernel_rfl) (by kernel_rfl) (by kernel_rfl) (fun _ _ _ h => h) (Or.inl ⟨by rfl, ?yz50⟩) hHeld ?rz50
            case yz50 => (intro w hSw; go_simp; try with_reducible rfl)
            (try simp only [Act.put, List.setIfInBounds_toArray, List.set_cons_zero, List.set_cons_succ])
            refine wpAnyH_tk (i := 8) (v := ?vz51) 27 rfl rfl (by kernel_rfl) (by kernel_rfl) (by kernel_rfl) (fun _ _ _ h => h) (Or.inl ⟨by rfl, ?yz51⟩) hHeld ?rz51
            case yz51 => (intro w hSw; go_simp; try with_reducible rfl)
            (try simp only [Act.put, List.setIfInBounds_toArray, List.set_cons_zero, List.set_cons_succ])
            refine wpAnyH_tk (i := 9) (v := _) 28 rfl rfl (by kernel_rfl) (by kernel_rfl) (by kernel_rfl) (fun _ _ _ h => h) (yields_load (by rfl) 56 (.tmp 4) rfl a3 rfl (fun _ h => h.head) Try.underlying56 rfl (size56 _)) hHeld ?_
            (try simp only [Act.put, List.setIfInBounds_toArray, List.set_cons_zero, List.set_cons_succ])
            refine wpAnyH_one (i := 10) (by kernel_rfl) rfl (fun K hK => ?_)
            go_simp
            go_wp2_with ((go_at_call 35; refine (right_calls _ (mastOf p)).mono ?_; rintro e wx ⟨rfl, hb⟩; rw [hok]; have hHX := hHeld.step hb))
            refine hK.out _ _ (by exact hHX) (fun hHeld => ?_)
            clear hK K
            refine wpAnyH_tk (i := 11) (v := ?vz52) 30 rfl rfl (by kernel_rfl) (by kernel_rfl) (by kernel_rfl) (fun _ _ _ h => h) (Or.inl ⟨by rfl, ?yz52⟩) hHeld ?rz52
            case yz52 => (intro w hSw; go_simp; try with_reducible rfl)
            (try simp only [Act.put, List.setIfInBounds_toArray, List.set_cons_zero, List.set_cons_succ])
            refine wpAnyH_tk (i := 12) (v := ?vz53) 31 rfl rfl (by kernel_rfl) (by kernel_rfl) (by kernel_rfl) (fun _ _ _ h => h) (Or.inl ⟨by rfl, ?yz53⟩) hHeld ?rz53
            case yz53 => (intro w hSw; go_simp; try with_reducible rfl)
            (try simp only [Act.put, List.setIfInBounds_toArray, List.set_cons_zero, List.set_cons_succ])
            refine wpAnyH_tk (i := 13) (v := ?vz54) 32 rfl rfl (by kernel_rfl) (by kernel_rfl) (by kernel_rfl) (fun _ _ _ h => h) (Or.inl ⟨by rfl, ?yz54⟩) hHeld ?rz54
            case yz54 => (intro w hSw; go_simp; try with_reducible rfl)
            (try simp only [Act.put, List.setIfInBounds_toArray, List.set_cons_zero, List.set_cons_succ])
            refine wpAnyH_tk (i := 14) (v := _) 33 rfl rfl (by kernel_rfl) (by kernel_rfl) (by kernel_rfl) (fun _ _ _ h => h) (yields_load (by rfl) 56 (.tmp 4) rfl a3 rfl (fun _ h => h.head) Try.underlying56 rfl (size56 _)) hHeld ?_
            (try simp only [Act.put, List.setIfInBounds_toArray, List.set_cons_zero, List.set_cons_succ])
            refine wpAnyH_tk (i := 16) (v := _) 35 rfl rfl (by kernel_rfl) (by kernel_rfl) (by kernel_rfl) (fun _ _ _ h => h) (yields_load (by rfl) 28 (.tmp 1) rfl a1 rfl (fun _ h => h.tail.tail.head) Try.underlying28 rfl (size28' hl)) hHeld ?_
            (try simp only [Act.put, List.setIfInBounds_toArray, List.set_cons_zero, List.set_cons_succ])
            refine wpAnyH_one (i := 15) (by kernel_rfl) rfl (fun K hK => ?_)
            go_simp
            go_wp2_with ((go_at_call 37; refine (lay_calls _ (mastOf p) (mastOf_sum HP.out) hok).mono ?_; rintro e wx ⟨rfl, hb⟩; have hHX := hHeld.step hb))
            refine hK.out _ _ (by exact hHX) (fun hHeld => ?_)
            clear hK K
            refine wpAnyH_tk (i := 17) (v := _) 36 rfl rfl (by kernel_rfl) (by kernel_rfl) (by kernel_rfl) (fun _ _ _ h => h) (yields_neq (by rfl) 28 28 (.tmp 34) (.tmp 35) rfl (encs (Value.int .u8) (mastLay (mastOf p))) (encs (Value.int .u8) p) rfl rfl b HE.out eqg28 rfl) hHeld ?_
            (try simp only [Act.put, List.setIfInBounds_toArray, List.set_cons_zero, List.set_cons_succ])
            refine wpAnyH_tk (i := 18) (v := ?vz55) 37 rfl rfl (by kernel_rfl) (by kernel_rfl) (by kernel_rfl) (fun _ _ _ h => h) (Or.inl ⟨by rfl, ?yz55⟩) hHeld ?rz55
            case yz55 => (intro w hSw; go_simp; try with_reducible rfl)
            (try simp only [Act.put, List.setIfInBounds_toArray, List.set_cons_zero, List.set_cons_succ])
            refine wpAnyH_done (by kernel_rfl) ?_ _
            skip
            cases b
            · go_wp2_with (first | ((with_reducible refine gate_dst (N := 38) rfl ?_); refine build56z rfl rfl ?_) | ((with_reducible refine gate_store (t := 56) (p := 2) rfl ?_); refine store56 rfl rfl (.tmp 2) (.tmp 38) rfl a2 rfl mast0 rfl hHeld.tail.head ?_; intro w5 h6 h7 h8; have HZ := Aside0.mk (Keeps.put1 hHeld h7 hb2 (by simp; omega) (by simp; omega) h6); clear h6 h7))
              refine bodyPost_ret (results_ct rfl _ _ a2 56 _ (0, 0) _ rfl HZ.out.tail.head Try.underlying56 rfl (size56 mast0)) rfl ?_
              exact ⟨by rw [HR.out]; rfl, HZ.out.below⟩
            · go_wp2_with (first | ((with_reducible refine gate_dst (N := 39) rfl ?_); refine load56 rfl (.tmp 4) rfl a3 rfl hHeld.head ?_) | ((with_reducible refine gate_store (t := 56) (p := 2) rfl ?_); refine store56 rfl rfl (.tmp 2) (.tmp 39) rfl a2 rfl (mastOf p) rfl hHeld.tail.head ?_; intro w5 h6 h7 h8; have HZ := Aside0.mk (Keeps.put1 hHeld h7 hb2 (by simp; omega) (by simp; omega) h6); clear h6 h7))
              refine bodyPost_ret (results_ct rfl _ _ a2 56 _ (0, 0) _ rfl HZ.out.tail.head Try.underlying56 rfl (size56 (mastOf p))) rfl ?_
              exact ⟨by rw [HR.out]; rfl, HZ.out.below⟩
  · have hr0 : rightB p = false := by simpa using hr
    have hrd : mastRead p = (mast0, 8) := by unfold mastRead; rw [if_neg hr]
    rw [hr0]
    go_wp2_with (first | ((with_reducible refine gate_dst (N := 8) rfl ?_); refine build56z rfl rfl ?_) | ((with_reducible refine gate_store (t := 56) (p := 2) rfl ?_); refine store56 rfl rfl (.tmp 2) (.tmp 8) rfl a2 rfl mast0 rfl H2.out.head ?_; intro w4 h6 h7 h8; have H3 := Aside0.mk (H2.out.put h7 hb2 (by simp; omega) h6); clear h6 h7))
    refine bodyPost_ret (results_ct rfl _ _ a2 56 _ (0, 0) _ rfl H3.out.head Try.underlying56 rfl (size56 mast0)) rfl ?_
    exact ⟨by rw [hrd]; rfl, H3.out.below⟩
end Go.Proofs.Ytmkkkenpjealdaa.MastWalks
/-! The walks of layer 8's reference: a sector read as a mast. -/
namespace Go.Proofs.Ytmkkkenpjealdaa.MastWalks
set_option linter.unusedSimpArgs false
set_option linter.unusedVariables false
open Go.RowKit Go.Proofs.YtmkkkenpjealdaaW.PrintWords Go.Proofs.YtmkkkenpjealdaaW.PrintLast Go.Proofs.YtmkkkenpjealdaaW.PrintMore PlainWord CrcPlain PlainSec CrcMem CrcWalks CrcRef Arr SecWord SecMem SecRef LeafWalks RecWalks

set_option maxRecDepth 10000 in
set_option maxHeartbeats 4000000 in
theorem refread_calls (w : World) (p : List Int) (hp : Bytes p) (hl : p.length = 64) : Calls Try.prog 40 #[.agg (encs (Value.int .u8) p).toArray] w fun e w' => e = .returned (.tuple #[.agg (mastC (mastRead p).1).toArray, .int .i64 (mastRead p).2]) ∧ Below w.heap.size w w' := by
  have HW := Aside0.mk (Keeps.refl w)
  have HP := Aside0.mk hp
  clear hp
  go_enter Try.func40, Try.ntmps40
  go_wp2_with (first | ((with_reducible refine gate_dst (N := 1) rfl ?_); refine box28 rfl (.tmp 0) rfl p rfl ?_; intro w1 a1 h1 h2 h3; have H1 := Aside0.mk (HW.out.new h3 h2); clear h2 h3) | ((with_reducible refine gate_dst (N := 2) rfl ?_); refine alloc56 rfl rfl ?_; intro w2 a2 h4 h5 h6; have H2 := Aside0.mk (H1.out.new h6 h5); clear h5 h6) | ((with_reducible refine gate_dst (N := 5) rfl ?_); refine load28 rfl (.tmp 1) rfl a1 rfl H2.out.tail.head hl ?_))
  have hb2 : w.heap.size ≤ a2 := by have := H1.out.size; omega
  have hne : a1 ≠ a2 := by have := H1.out.head.lt; omega
  refine (summed_calls _ p HP.out hl).mono ?_
  rintro e w3 ⟨rfl, h7⟩
  have H3 := Aside0.mk (H2.out.step h7)
  clear h7 H2 H1
  by_cases hr : rightB p = true
  · rw [hr]
    have hmb := HP.out.getD 0
    obtain ⟨m, hm⟩ : ∃ m, m = p.getD 0 0 := ⟨_, rfl⟩
    rw [← hm] at hmb
    have HM := Aside0.mk hm
    have HU := Aside0.mk (sum_wrap HP.out)
    have HH := Aside0.mk (show mastOf p = ⟨m == 130, numL p 1 8, numL p 9 8, numL p 17 8, numL p 25 4, getN p 29 4⟩ by rw [hm]; rfl)
    clear hm
    go_upto_region 3 with (fail)
    go_cut [4] from 9 to 23 (fun v wc => ∃ a3, v = .pointer (some ⟨a3, 0, none⟩) ∧ w.heap.size ≤ a3 ∧ a1 ≠ a3 ∧ a2 ≠ a3 ∧ Aside0 (Keeps w [(a3, 56, mastC (mastOf p)), (a2, 56, mastC mast0), (a1, 28, encs (Value.int .u8) p)] wc))
    case first =>
      refine wp_region_held_drew (S := (fun w' => Keeps w [(a2, 56, mastC mast0), (a1, 28, encs (Value.int .u8) p)] w')) (by kernel_rfl) (by exact H3.out.drew) (fun hHeld => ?_)
      refine wpAnyH_tk (i := 0) (v := ?vz56) 9 rfl rfl (by kernel_rfl) (by kernel_rfl) (by kernel_rfl) (fun _ _ _ h => h) (Or.inl ⟨by rfl, ?yz56⟩) hHeld ?rz56
      case yz56 => (intro w hSw; go_simp; try with_reducible rfl)
      (try simp only [Act.put, List.setIfInBounds_toArray, List.set_cons_zero, List.set_cons_succ])
      refine wpAnyH_tk (i := 1) (v := _) 10 rfl rfl (by kernel_rfl) (by kernel_rfl) (by kernel_rfl) (fun _ _ _ h => h) (yields_cell (by rfl) 5 (.tmp 9) rfl ⟨a1, 0, none⟩ rfl (v := .int .u8 m) (fun _ h => by rw [HM.out]; exact Blk.encAt h.tail.head (0 : Int) 0 (by omega)) Try.underlying5 rfl) hHeld ?_
      (try simp only [Act.put, List.setIfInBounds_toArray, List.set_cons_zero, List.set_cons_succ])
      refine wpAnyH_tk (i := 2) (v := _) 11 rfl rfl (by kernel_rfl) (by kernel_rfl) (by kernel_rfl) (fun _ _ _ h => h) (show YieldsIf Try.prog _ _ _ (.bool (m == 130)) _ from Or.inl ⟨(by rfl), fun w hSw => by go_simp; try rfl⟩) hHeld ?_
      (try simp only [Act.put, List.setIfInBounds_toArray, List.set_cons_zero, List.set_cons_succ])
      refine wpAnyH_tk (i := 3) (v := _) 12 rfl rfl (by kernel_rfl) (by kernel_rfl) (by kernel_rfl) (fun _ _ _ h => h) (yields_load (by rfl) 28 (.tmp 1) rfl a1 rfl (fun _ h => h.tail.head) Try.underlying28 rfl (size28' hl)) hHeld ?_
      (try simp only [Act.put, List.setIfInBounds_toArray, List.set_cons_zero, List.set_cons_succ])
      refine wpAnyH_tk (i := 5) (v := _) 14 rfl rfl (by kernel_rfl) (by kernel_rfl) (by kernel_rfl) (fun _ _ _ h => h) (yields_load (by rfl) 28 (.tmp 1) rfl a1 rfl (fun _ h => h.tail.head) Try.underlying28 rfl (size28' hl)) hHeld ?_
      (try simp only [Act.put, List.setIfInBounds_toArray, List.set_cons_zero, List.set_cons_succ])
      refine wpAnyH_tk (i := 7) (v := _) 16 rfl rfl (by kernel_rfl) (by kernel_rfl) (by kernel_rfl) (fun _ _ _ h => h) (yields_load (by rfl) 28 (.tmp 1) rfl a1 rfl (fun _ h => h.tail.head) Try.underlying28 rfl (size28' hl)) hHeld ?_
      (try simp only [Act.put, List.setIfInBounds_toArray, List.set_cons_zero, List.set_cons_succ])
      refine wpAnyH_tk (i := 9) (v := _) 18 rfl rfl (by kernel_rfl) (by kernel_rfl) (by kernel_rfl) (fun _ _ _ h => h) (yields_load (by rfl) 28 (.tmp 1) rfl a1 rfl (fun _ h => h.tail.head) Try.underlying28 rfl (size28' hl)) hHeld ?_
      (try simp only [Act.put, List.setIfInBounds_toArray, List.set_cons_zero, List.set_cons_succ])
      refine wpAnyH_tk (i := 11) (v := _) 20 rfl rfl (by kernel_rfl) (by kernel_rfl) (by kernel_rfl) (fun _ _ _ h => h) (yields_load (by rfl) 28 (.tmp 1) rfl a1 rfl (fun _ h => h.tail.head) Try.underlying28 rfl (size28' hl)) hHeld ?_
      (try simp only [Act.put, List.setIfInBounds_toArray, List.set_cons_zero, List.set_cons_succ])
      refine wpAnyH_ready (rs := [4, 15]) (by kernel_rfl) (by simp) (AllReadyH.cons rfl (fun K hK => ?_) (AllReadyH.cons rfl (fun K hK => ?_) AllReadyH.nil))
      · skip
        go_simp
        go_wp2_with ((go_at_call 54; refine (num54 _ p HP.out hl 1 8 (by omega) (by omega)).mono ?_; rintro e wx ⟨rfl, hb⟩; (try replace hA := hA.below' hb); have hHX := hHeld.step hb))
        refine hK.out _ _ (by exact hHX) (fun hHeld => ?_)
        clear hK K
        refine wpAnyH_ready (rs := [6, 15]) (by kernel_rfl) (by simp) (AllReadyH.cons rfl (fun K hK => ?_) (AllReadyH.cons rfl (fun K hK => ?_) AllReadyH.nil))
        · skip
          go_simp
          go_wp2_with ((go_at_call 54; refine (num54 _ p HP.out hl 9 8 (by omega) (by omega)).mono ?_; rintro e wx ⟨rfl, hb⟩; (try replace hA := hA.below' hb); have hHX := hHeld.step hb))
          refine hK.out _ _ (by exact hHX) (fun hHeld => ?_)
          clear hK K
          refine wpAnyH_ready (rs := [8, 15]) (by kernel_rfl) (by simp) (AllReadyH.cons rfl (fun K hK => ?_) (AllReadyH.cons rfl (fun K hK => ?_) AllReadyH.nil))
          · skip
            go_simp
            go_wp2_with ((go_at_call 54; refine (num54 _ p HP.out hl 17 8 (by omega) (by omega)).mono ?_; rintro e wx ⟨rfl, hb⟩; (try replace hA := hA.below' hb); have hHX := hHeld.step hb))
            refine hK.out _ _ (by exact hHX) (fun hHeld => ?_)
            clear hK K
            refine wpAnyH_ready (rs := [10, 15]) (by kernel_rfl) (by simp) (AllReadyH.cons rfl (fun K hK => ?_) (AllReadyH.cons rfl (fun K hK => ?_) AllReadyH.nil))
            · skip
              go_simp
              go_wp2_with ((go_at_call 54; refine (num54 _ p HP.out hl 25 4 (by omega) (by omega)).mono ?_; rintro e wx ⟨rfl, hb⟩; (try replace hA := hA.below' hb); have hHX := hHeld.step hb))
              refine hK.out _ _ (by exact hHX) (fun hHeld => ?_)
              clear hK K
              refine wpAnyH_ready (rs := [12, 15]) (by kernel_rfl) (by simp) (AllReadyH.cons rfl (fun K hK => ?_) (AllReadyH.cons rfl (fun K hK => ?_) AllReadyH.nil))
              · skip
                go_simp
                go_wp2_with ((go_at_call 54; refine (num54 _ p HP.out hl 29 4 (by omega) (by omega)).mono ?_; rintro e wx ⟨rfl, hb⟩; (try replace hA := hA.below' hb); have hHX := hHeld.step hb))
                refine hK.out _ _ (by exact hHX) (fun hHeld => ?_)
                clear hK K
                refine wpAnyH_tk (i := 13) (v := _) 22 rfl rfl (by kernel_rfl) (by kernel_rfl) (by kernel_rfl) (fun _ _ _ h => h) (show YieldsIf Try.prog _ _ _ (.int .u32 (getN p 29 4)) _ from Or.inl ⟨(by rfl), fun w hSw => by go_simp; exact HU.out⟩) hHeld ?_
                (try simp only [Act.put, List.setIfInBounds_toArray, List.set_cons_zero, List.set_cons_succ])
                refine wpAnyH_tk (i := 14) (v := _) 23 rfl rfl (by kernel_rfl) (by kernel_rfl) (by kernel_rfl) (fun _ _ _ h => h) (yields_build56 (by rfl) (.tmp 11) (.tmp 13) (.tmp 15) (.tmp 17) (.tmp 19) (.tmp 22) rfl _ _ _ _ _ _ rfl rfl rfl rfl rfl rfl) hHeld ?_
                (try simp only [Act.put, List.setIfInBounds_toArray, List.set_cons_zero, List.set_cons_succ])
                refine wpAnyH_one (i := 15) (by kernel_rfl) rfl (fun K hK => ?_)
                rw [if_pos (by rfl)]
                refine step_alloc56 4 rfl rfl ?_; intro wx a3 hg hA hgr; have hHX := hHeld.fresh hgr; have hb3 : w.heap.size ≤ a3 := Nat.le_trans hHeld.size hg; have hn1 : a1 ≠ a3 := (by have := hHeld.tail.head.lt; omega); have hn2 : a2 ≠ a3 := (by have := hHeld.head.lt; omega); clear hgr hg
                refine hK.out _ _ (by exact hHX) (fun hHeld => ?_)
                clear hK K
                (try simp only [Act.put, List.setIfInBounds_toArray, List.set_cons_zero, List.set_cons_succ])
                refine wpAnyH_one (i := 16) (by kernel_rfl) rfl (fun K hK => ?_)
                rw [if_pos (by rfl)]
                refine step_store56 rfl (.tmp 4) (.tmp 23) rfl a3 rfl (mastOf p) (by rw [HH.out]; rfl) hA ?_; intro wx hA2 hgr hsz; have hHX := hHeld.grown hgr hb3 (by simp; omega)
                refine hK.out _ _ (by exact hHX) (fun hHeld => ?_)
                clear hK K
                (try simp only [Act.put, List.setIfInBounds_toArray, List.set_cons_zero, List.set_cons_succ])
                refine wpAnyH_done (by kernel_rfl) ?_ _
                (go_wp2_with fail; go_meet; case rel => exact ⟨a3, rfl, hb3, hn1, hn2, ⟨hHX.cons hA2⟩⟩)
              · skip
                rw [if_pos (by rfl)]
                refine step_alloc56 4 rfl rfl ?_; intro wx a3 hg hA hgr; have hHX := hHeld.fresh hgr; have hb3 : w.heap.size ≤ a3 := Nat.le_trans hHeld.size hg; have hn1 : a1 ≠ a3 := (by have := hHeld.tail.head.lt; omega); have hn2 : a2 ≠ a3 := (by have := hHeld.head.lt; omega); clear hgr hg
                refine hK.out _ _ (by exact hHX) (fun hHeld => ?_)
                clear hK K
                (try simp only [Act.put, List.setIfInBounds_toArray, List.set_cons_zero, List.set_cons_succ])
                refine wpAnyH_one (i := 12) (by kernel_rfl) rfl (fun K hK => ?_)
                go_simp
                go_wp2_with ((go_at_call 54; refine (num54 _ p HP.out hl 29 4 (by omega) (by omega)).mono ?_; rintro e wx ⟨rfl, hb⟩; (try replace hA := hA.below' hb); have hHX := hHeld.step hb))
                refine hK.out _ _ (by exact hHX) (fun hHeld => ?_)
                clear hK K
                refine wpAnyH_tk (i := 13) (v := _) 22 rfl rfl (by kernel_rfl) (by kernel_rfl) (by kernel_rfl) (fun _ _ _ h => h) (show YieldsIf Try.prog _ _ _ (.int .u32 (getN p 29 4)) _ from Or.inl ⟨(by rfl), fun w hSw => by go_simp; exact HU.out⟩) hHeld ?_
                (try simp only [Act.put, List.setIfInBounds_toArray, List.set_cons_zero, List.set_cons_succ])
                refine wpAnyH_tk (i := 14) (v := _) 23 rfl rfl (by kernel_rfl) (by kernel_rfl) (by kernel_rfl) (fun _ _ _ h => h) (yields_build56 (by rfl) (.tmp 11) (.tmp 13) (.tmp 15) (.tmp 17) (.tmp 19) (.tmp 22) rfl _ _ _ _ _ _ rfl rfl rfl rfl rfl rfl) hHeld ?_
                (try simp only [Act.put, List.setIfInBounds_toArray, List.set_cons_zero, List.set_cons_succ])
                refine wpAnyH_one (i := 16) (by kernel_rfl) rfl (fun K hK => ?_)
                rw [if_pos (by rfl)]
                refine step_store56 rfl (.tmp 4) (.tmp 23) rfl a3 rfl (mastOf p) (by rw [HH.out]; rfl) hA ?_; intro wx hA2 hgr hsz; have hHX := hHeld.grown hgr hb3 (by simp; omega)
                refine hK.out _ _ (by exact hHX) (fun hHeld => ?_)
                clear hK K
                (try simp only [Act.put, List.setIfInBounds_toArray, List.set_cons_zero, List.set_cons_succ])
                refine wpAnyH_done (by kernel_rfl) ?_ _
                (go_wp2_with fail; go_meet; case rel => exact ⟨a3, rfl, hb3, hn1, hn2, ⟨hHX.cons hA2⟩⟩)
            · skip
              rw [if_pos (by rfl)]
              refine step_alloc56 4 rfl rfl ?_; intro wx a3 hg hA hgr; have hHX := hHeld.fresh hgr; have hb3 : w.heap.size ≤ a3 := Nat.le_trans hHeld.size hg; have hn1 : a1 ≠ a3 := (by have := hHeld.tail.head.lt; omega); have hn2 : a2 ≠ a3 := (by have := hHeld.head.lt; omega); clear hgr hg
              refine hK.out _ _ (by exact hHX) (fun hHeld => ?_)
              clear hK K
              (try simp only [Act.put, List.setIfInBounds_toArray, List.set_cons_zero, List.set_cons_succ])
              refine wpAnyH_one (i := 10) (by kernel_rfl) rfl (fun K hK => ?_)
              go_simp
              go_wp2_with ((go_at_call 54; refine (num54 _ p HP.out hl 25 4 (by omega) (by omega)).mono ?_; rintro e wx ⟨rfl, hb⟩; (try replace hA := hA.below' hb); have hHX := hHeld.step hb))
              refine hK.out _ _ (by exact hHX) (fun hHeld => ?_)
              clear hK K
              refine wpAnyH_one (i := 12) (by kernel_rfl) rfl (fun K hK => ?_)
              go_simp
              go_wp2_with ((go_at_call 54; refine (num54 _ p HP.out hl 29 4 (by omega) (by omega)).mono ?_; rintro e wx ⟨rfl, hb⟩; (try replace hA := hA.below' hb); have hHX := hHeld.step hb))
              refine hK.out _ _ (by exact hHX) (fun hHeld => ?_)
              clear hK K
              refine wpAnyH_tk (i := 13) (v := _) 22 rfl rfl (by kernel_rfl) (by kernel_rfl) (by kernel_rfl) (fun _ _ _ h => h) (show YieldsIf Try.prog _ _ _ (.int .u32 (getN p 29 4)) _ from Or.inl ⟨(by rfl), fun w hSw => by go_simp; exact HU.out⟩) hHeld ?_
              (try simp only [Act.put, List.setIfInBounds_toArray, List.set_cons_zero, List.set_cons_succ])
              refine wpAnyH_tk (i := 14) (v := _) 23 rfl rfl (by kernel_rfl) (by kernel_rfl) (by kernel_rfl) (fun _ _ _ h => h) (yields_build56 (by rfl) (.tmp 11) (.tmp 13) (.tmp 15) (.tmp 17) (.tmp 19) (.tmp 22) rfl _ _ _ _ _ _ rfl rfl rfl rfl rfl rfl) hHeld ?_
              (try simp only [Act.put, List.setIfInBounds_toArray, List.set_cons_zero, List.set_cons_succ])
              refine wpAnyH_one (i := 16) (by kernel_rfl) rfl (fun K hK => ?_)
              rw [if_pos (by rfl)]
              refine step_store56 rfl (.tmp 4) (.tmp 23) rfl a3 rfl (mastOf p) (by rw [HH.out]; rfl) hA ?_; intro wx hA2 hgr hsz; have hHX := hHeld.grown hgr hb3 (by simp; omega)
              refine hK.out _ _ (by exact hHX) (fun hHeld => ?_)
              clear hK K
              (try simp only [Act.put, List.setIfInBounds_toArray, List.set_cons_zero, List.set_cons_succ])
              refine wpAnyH_done (by kernel_rfl) ?_ _
              (go_wp2_with fail; go_meet; case rel => exact ⟨a3, rfl, hb3, hn1, hn2, ⟨hHX.cons hA2⟩⟩)
          · skip
            rw [if_pos (by rfl)]
            refine step_alloc56 4 rfl rfl ?_; intro wx a3 hg hA hgr; have hHX := hHeld.fresh hgr; have hb3 : w.heap.size ≤ a3 := Nat.le_trans hHeld.size hg; have hn1 : a1 ≠ a3 := (by have := hHeld.tail.head.lt; omega); have hn2 : a2 ≠ a3 := (by have := hHeld.head.lt; omega); clear hgr hg
            refine hK.out _ _ (by exact hHX) (fun hHeld => ?_)
            clear hK K
            (try simp only [Act.put, List.setIfInBounds_toArray, List.set_cons_zero, List.set_cons_succ])
            refine wpAnyH_one (i := 8) (by kernel_rfl) rfl (fun K hK => ?_)
            go_simp
            go_wp2_with ((go_at_call 54; refine (num54 _ p HP.out hl 17 8 (by omega) (by omega)).mono ?_; rintro e wx ⟨rfl, hb⟩; (try replace hA := hA.below' hb); have hHX := hHeld.step hb))
            refine hK.out _ _ (by exact hHX) (fun hHeld => ?_)
            clear hK K
            refine wpAnyH_one (i := 10) (by kernel_rfl) rfl (fun K hK => ?_)
            go_simp
            go_wp2_with ((go_at_call 54; refine (num54 _ p HP.out hl 25 4 (by omega) (by omega)).mono ?_; rintro e wx ⟨rfl, hb⟩; (try replace hA := hA.below' hb); have hHX := hHeld.step hb))
            refine hK.out _ _ (by exact hHX) (fun hHeld => ?_)
            clear hK K
            refine wpAnyH_one (i := 12) (by kernel_rfl) rfl (fun K hK => ?_)
            go_simp
            go_wp2_with ((go_at_call 54; refine (num54 _ p HP.out hl 29 4 (by omega) (by omega)).mono ?_; rintro e wx ⟨rfl, hb⟩; (try replace hA := hA.below' hb); have hHX := hHeld.step hb))
            refine hK.out _ _ (by exact hHX) (fun hHeld => ?_)
            clear hK K
            refine wpAnyH_tk (i := 13) (v := _) 22 rfl rfl (by kernel_rfl) (by kernel_rfl) (by kernel_rfl) (fun _ _ _ h => h) (show YieldsIf Try.prog _ _ _ (.int .u32 (getN p 29 4)) _ from Or.inl ⟨(by rfl), fun w hSw => by go_simp; exact HU.out⟩) hHeld ?_
            (try simp only [Act.put, List.setIfInBounds_toArray, List.set_cons_zero, List.set_cons_succ])
            refine wpAnyH_tk (i := 14) (v := _) 23 rfl rfl (by kernel_rfl) (by kernel_rfl) (by kernel_rfl) (fun _ _ _ h => h) (yields_build56 (by rfl) (.tmp 11) (.tmp 13) (.tmp 15) (.tmp 17) (.tmp 19) (.tmp 22) rfl _ _ _ _ _ _ rfl rfl rfl rfl rfl rfl) hHeld ?_
            (try simp only [Act.put, List.setIfInBounds_toArray, List.set_cons_zero, List.set_cons_succ])
            refine wpAnyH_one (i := 16) (by kernel_rfl) rfl (fun K hK => ?_)
            rw [if_pos (by rfl)]
            refine step_store56 rfl (.tmp 4) (.tmp 23) rfl a3 rfl (mastOf p) (by rw [HH.out]; rfl) hA ?_; intro wx hA2 hgr hsz; have hHX := hHeld.grown hgr hb3 (by simp; omega)
            refine hK.out _ _ (by exact hHX) (fun hHeld => ?_)
            clear hK K
            (try simp only [Act.put, List.setIfInBounds_toArray, List.set_cons_zero, List.set_cons_succ])
            refine wpAnyH_done (by kernel_rfl) ?_ _
            (go_wp2_with fail; go_meet; case rel => exact ⟨a3, rfl, hb3, hn1, hn2, ⟨hHX.cons hA2⟩⟩)
        · skip
          rw [if_pos (by rfl)]
          refine step_alloc56 4 rfl rfl ?_; intro wx a3 hg hA hgr; have hHX := hHeld.fresh hgr; have hb3 : w.heap.size ≤ a3 := Nat.le_trans hHeld.size hg; have hn1 : a1 ≠ a3 := (by have := hHeld.tail.head.lt; omega); have hn2 : a2 ≠ a3 := (by have := hHeld.head.lt; omega); clear hgr hg
          refine hK.out _ _ (by exact hHX) (fun hHeld => ?_)
          clear hK K
          (try simp only [Act.put, List.setIfInBounds_toArray, List.set_cons_zero, List.set_cons_succ])
          refine wpAnyH_one (i := 6) (by kernel_rfl) rfl (fun K hK => ?_)
          go_simp
          go_wp2_with ((go_at_call 54; refine (num54 _ p HP.out hl 9 8 (by omega) (by omega)).mono ?_; rintro e wx ⟨rfl, hb⟩; (try replace hA := hA.below' hb); have hHX := hHeld.step hb))
          refine hK.out _ _ (by exact hHX) (fun hHeld => ?_)
          clear hK K
          refine wpAnyH_one (i := 8) (by kernel_rfl) rfl (fun K hK => ?_)
          go_simp
          go_wp2_with ((go_at_call 54; refine (num54 _ p HP.out hl 17 8 (by omega) (by omega)).mono ?_; rintro e wx ⟨rfl, hb⟩; (try replace hA := hA.below' hb); have hHX := hHeld.step hb))
          refine hK.out _ _ (by exact hHX) (fun hHeld => ?_)
          clear hK K
          refine wpAnyH_one (i := 10) (by kernel_rfl) rfl (fun K hK => ?_)
          go_simp
          go_wp2_with ((go_at_call 54; refine (num54 _ p HP.out hl 25 4 (by omega) (by omega)).mono ?_; rintro e wx ⟨rfl, hb⟩; (try replace hA := hA.below' hb); have hHX := hHeld.step hb))
          refine hK.out _ _ (by exact hHX) (fun hHeld => ?_)
          clear hK K
          refine wpAnyH_one (i := 12) (by kernel_rfl) rfl (fun K hK => ?_)
          go_simp
          go_wp2_with ((go_at_call 54; refine (num54 _ p HP.out hl 29 4 (by omega) (by omega)).mono ?_; rintro e wx ⟨rfl, hb⟩; (try replace hA := hA.below' hb); have hHX := hHeld.step hb))
          refine hK.out _ _ (by exact hHX) (fun hHeld => ?_)
          clear hK K
          refine wpAnyH_tk (i := 13) (v := _) 22 rfl rfl (by kernel_rfl) (by kernel_rfl) (by kernel_rfl) (fun _ _ _ h => h) (show YieldsIf Try.prog _ _ _ (.int .u32 (getN p 29 4)) _ from Or.inl ⟨(by rfl), fun w hSw => by go_simp; exact HU.out⟩) hHeld ?_
          (try simp only [Act.put, List.setIfInBounds_toArray, List.set_cons_zero, List.set_cons_succ])
          refine wpAnyH_tk (i := 14) (v := _) 23 rfl rfl (by kernel_rfl) (by kernel_rfl) (by kernel_rfl) (fun _ _ _ h => h) (yields_build56 (by rfl) (.tmp 11) (.tmp 13) (.tmp 15) (.tmp 17) (.tmp 19) (.tmp 22) rfl _ _ _ _ _ _ rfl rfl rfl rfl rfl rfl) hHeld ?_
          (try simp only [Act.put, List.setIfInBounds_toArray, List.set_cons_zero, List.set_cons_succ])
          refine wpAnyH_one (i := 16) (by kernel_rfl) rfl (fun K hK => ?_)
          rw [if_pos (by rfl)]
          refine step_store56 rfl (.tmp 4) (.tmp 23) rfl a3 rfl (mastOf p) (by rw [HH.out]; rfl) hA ?_; intro wx hA2 hgr hsz; have hHX := hHeld.grown hgr hb3 (by simp; omega)
          refine hK.out _ _ (by exact hHX) (fun hHeld => ?_)
          clear hK K
          (try simp only [Act.put, List.setIfInBounds_toArray, List.set_cons_zero, List.set_cons_succ])
          refine wpAnyH_done (by kernel_rfl) ?_ _
          (go_wp2_with fail; go_meet; case rel => exact ⟨a3, rfl, hb3, hn1, hn2, ⟨hHX.cons hA2⟩⟩)
      · skip
        rw [if_pos (by rfl)]
        refine step_alloc56 4 rfl rfl ?_; intro wx a3 hg hA hgr; have hHX := hHeld.fresh hgr; have hb3 : w.heap.size ≤ a3 := Nat.le_trans hHeld.size hg; have hn1 : a1 ≠ a3 := (by have := hHeld.tail.head.lt; omega); have hn2 : a2 ≠ a3 := (by have := hHeld.head.lt; omega); clear hgr hg
        refine hK.out _ _ (by exact hHX) (fun hHeld => ?_)
        clear hK K
        (try simp only [Act.put, List.setIfInBounds_toArray, List.set_cons_zero, List.set_cons_succ])
        refine wpAnyH_one (i := 4) (by kernel_rfl) rfl (fun K hK => ?_)
        go_simp
        go_wp2_with ((go_at_call 54; refine (num54 _ p HP.out hl 1 8 (by omega) (by omega)).mono ?_; rintro e wx ⟨rfl, hb⟩; (try replace hA := hA.below' hb); have hHX := hHeld.step hb))
        refine hK.out _ _ (by exact hHX) (fun hHeld => ?_)
        clear hK K
        refine wpAnyH_one (i := 6) (by kernel_rfl) rfl (fun K hK => ?_)
        go_simp
        go_wp2_with ((go_at_call 54; refine (num54 _ p HP.out hl 9 8 (by omega) (by omega)).mono ?_; rintro e wx ⟨rfl, hb⟩; (try replace hA := hA.below' hb); have hHX := hHeld.step hb))
        refine hK.out _ _ (by exact hHX) (fun hHeld => ?_)
        clear hK K
        refine wpAnyH_one (i := 8) (by kernel_rfl) rfl (fun K hK => ?_)
        go_simp
        go_wp2_with ((go_at_call 54; refine (num54 _ p HP.out hl 17 8 (by omega) (by omega)).mono ?_; rintro e wx ⟨rfl, hb⟩; (try replace hA := hA.below' hb); have hHX := hHeld.step hb))
        refine hK.out _ _ (by exact hHX) (fun hHeld => ?_)
        clear hK K
        refine wpAnyH_one (i := 10) (by kernel_rfl) rfl (fun K hK => ?_)
        go_simp
        go_wp2_with ((go_at_call 54; refine (num54 _ p HP.out hl 25 4 (by omega) (by omega)).mono ?_; rintro e wx ⟨rfl, hb⟩; (try replace hA := hA.below' hb); have hHX := hHeld.step hb))
        refine hK.out _ _ (by exact hHX) (fun hHeld => ?_)
        clear hK K
        refine wpAnyH_one (i := 12) (by kernel_rfl) rfl (fun K hK => ?_)
        go_simp
        go_wp2_with ((go_at_call 54; refine (num54 _ p HP.out hl 29 4 (by omega) (by omega)).mono ?_; rintro e wx ⟨rfl, hb⟩; (try replace hA := hA.below' hb); have hHX := hHeld.step hb))
        refine hK.out _ _ (by exact hHX) (fun hHeld => ?_)
        clear hK K
        refine wpAnyH_tk (i := 13) (v := _) 22 rfl rfl (by kernel_rfl) (by kernel_rfl) (by kernel_rfl) (fun _ _ _ h => h) (show YieldsIf Try.prog _ _ _ (.int .u32 (getN p 29 4)) _ from Or.inl ⟨(by rfl), fun w hSw => by go_simp; exact HU.out⟩) hHeld ?_
        (try simp only [Act.put, List.setIfInBounds_toArray, List.set_cons_zero, List.set_cons_succ])
        refine wpAnyH_tk (i := 14) (v := _) 23 rfl rfl (by kernel_rfl) (by kernel_rfl) (by kernel_rfl) (fun _ _ _ h => h) (yields_build56 (by rfl) (.tmp 11) (.tmp 13) (.tmp 15) (.tmp 17) (.tmp 19) (.tmp 22) rfl _ _ _ _ _ _ rfl rfl rfl rfl rfl rfl) hHeld ?_
        (try simp only [Act.put, List.setIfInBounds_toArray, List.set_cons_zero, List.set_cons_succ])
        refine wpAnyH_one (i := 16) (by kernel_rfl) rfl (fun K hK => ?_)
        rw [if_pos (by rfl)]
        refine step_store56 rfl (.tmp 4) (.tmp 23) rfl a3 rfl (mastOf p) (by rw [HH.out]; rfl) hA ?_; intro wx hA2 hgr hsz; have hHX := hHeld.grown hgr hb3 (by simp; omega)
        refine hK.out _ _ (by exact hHX) (fun hHeld => ?_)
        clear hK K
        (try simp only [Act.put, List.setIfInBounds_toArray, List.set_cons_zero, List.set_cons_succ])
        refine wpAnyH_done (by kernel_rfl) ?_ _
        (go_wp2_with fail; go_meet; case rel => exact ⟨a3, rfl, hb3, hn1, hn2, ⟨hHX.cons hA2⟩⟩)
    case rest =>
      obtain ⟨a3, rfl, hb3, hn1, hn2, HK⟩ := hcut
      clear H3 HU HH hmb HM
      have hll := mastLay_length (mastOf p)
      have hlb := mastLay_bytes (mastOf p)
      go_upto_region 4 with (fail)
      cases hok : mastOk (mastOf p)
      · have HR := Aside0.mk (mastRead_bad p hr hok)
        refine wp_region_held_drew (S := (fun w' => Keeps w [(a3, 56, mastC (mastOf p)), (a2, 56, mastC mast0), (a1, 28, encs (Value.int .u8) p)] w')) (by kernel_rfl) (by exact HK.out.drew) (fun hHeld => ?_)
        refine wpAnyH_tk (i := 0) (v := _) 24 rfl rfl (by kernel_rfl) (by kernel_rfl) (by kernel_rfl) (fun _ _ _ h => h) (yields_load (by rfl) 56 (.tmp 4) rfl a3 rfl (fun _ h => h.head) Try.underlying56 rfl (size56 _)) hHeld ?_
        (try simp only [Act.put, List.setIfInBounds_toArray, List.set_cons_zero, List.set_cons_succ])
        refine wpAnyH_one (i := 1) (by kernel_rfl) rfl (fun K hK => ?_)
        go_simp
        go_wp2_with ((go_at_call 36; refine (refright_calls _ (mastOf p)).mono ?_; rintro e wx ⟨rfl, hb⟩; rw [hok]; have hHX := hHeld.step hb))
        refine hK.out _ _ (by exact hHX) (fun hHeld => ?_)
        clear hK K
        refine wpAnyH_tk (i := 2) (v := ?vz57) 26 rfl rfl (by kernel_rfl) (by kernel_rfl) (by kernel_rfl) (fun _ _ _ h => h) (Or.inl ⟨by rfl, ?yz57⟩) hHeld ?rz57
        case yz57 => (intro w hSw; go_simp; try with_reducible rfl)
        (try simp only [Act.put, List.setIfInBounds_toArray, List.set_cons_zero, List.set_cons_succ])
        refine wpAnyH_tk (i := 3) (v := ?vz58) 27 rfl rfl (by kernel_rfl) (by kernel_rfl) (by kernel_rfl) (fun _ _ _ h => h) (Or.inl ⟨by rfl, ?yz58⟩) hHeld ?rz58
        case yz58 => (intro w hSw; go_simp; try with_reducible rfl)
        (try simp only [Act.put, List.setIfInBounds_toArray, List.set_cons_zero, List.set_cons_succ])
        refine wpAnyH_tk (i := 4) (v := undef) 28 rfl rfl (by kernel_rfl) (by kernel_rfl) (by kernel_rfl) (fun _ _ _ h => h) (yields_not (by rfl)) hHeld ?_
        (try simp only [Act.put, List.setIfInBounds_toArray, List.set_cons_zero, List.set_cons_succ])
        refine wpAnyH_tk (i := 5) (v := undef) 29 rfl rfl (by kernel_rfl) (by kernel_rfl) (by kernel_rfl) (fun _ _ _ h => h) (yields_not (by rfl)) hHeld ?_
        (try simp only [Act.put, List.setIfInBounds_toArray, List.set_cons_zero, List.set_cons_succ])
        refine wpAnyH_tk (i := 6) (v := undef) 30 rfl rfl (by kernel_rfl) (by kernel_rfl) (by kernel_rfl) (fun _ _ _ h => h) (yields_not (by rfl)) hHeld ?_
        (try simp only [Act.put, List.setIfInBounds_toArray, List.set_cons_zero, List.set_cons_succ])
        refine wpAnyH_tk (i := 7) (v := undef) 31 rfl rfl (by kernel_rfl) (by kernel_rfl) (by kernel_rfl) (fun _ _ _ h => h) (yields_not (by rfl)) hHeld ?_
        (try simp only [Act.put, List.setIfInBounds_toArray, List.set_cons_zero, List.set_cons_succ])
        refine wpAnyH_tk (i := 8) (v := ?vz59) 32 rfl rfl (by kernel_rfl) (by kernel_rfl) (by kernel_rfl) (fun _ _ _ h => h) (Or.inl ⟨by rfl, ?yz59⟩) hHeld ?rz59
        case yz59 => (intro w hSw; go_simp; try with_reducible rfl)
        (try simp only [Act.put, List.setIfInBounds_toArray, List.set_cons_zero, List.set_cons_succ])
        refine wpAnyH_done (by kernel_rfl) ?_ _
        skip
        go_wp2_with (first | ((with_reducible refine gate_dst (N := 33) rfl ?_); refine build56z rfl rfl ?_) | ((with_reducible refine gate_store (t := 56) (p := 2) rfl ?_); refine store56 rfl rfl (.tmp 2) (.tmp 33) rfl a2 rfl mast0 rfl hHeld.tail.head ?_; intro w5 h6 h7 h8; have HZ := Aside0.mk (Keeps.put1 hHeld h7 hb2 (by simp; omega) (by simp; omega) h6); clear h6 h7))
        refine bodyPost_ret (results_ct rfl _ _ a2 56 _ (0, 0) _ rfl HZ.out.tail.head Try.underlying56 rfl (size56 mast0)) rfl ?_
        exact ⟨by rw [HR.out]; rfl, HZ.out.below⟩
      · obtain ⟨b, hbd⟩ : ∃ b, b = decide (mastLay (mastOf p) = p) := ⟨_, rfl⟩
        have HR := Aside0.mk (mastRead_if p hr b hok hbd)
        have HE := Aside0.mk (eq28 hll hl hlb HP.out)
        rw [← hbd] at HE
        clear hbd
        refine wp_region_held_drew (S := (fun w' => Keeps w [(a3, 56, mastC (mastOf p)), (a2, 56, mastC mast0), (a1, 28, encs (Value.int .u8) p)] w')) (by kernel_rfl) (by exact HK.out.drew) (fun hHeld => ?_)
        refine wpAnyH_tk (i := 0) (v := _) 24 rfl rfl (by kernel_rfl) (by kernel_rfl) (by kernel_rfl) (fun _ _ _ h => h) (yields_load (by rfl) 56 (.tmp 4) rfl a3 rfl (fun _ h => h.head) Try.underlying56 rfl (size56 _)) hHeld ?_
        (try simp only [Act.put, List.setIfInBounds_toArray, List.set_cons_zero, List.set_cons_succ])
        refine wpAnyH_one (i := 1) (by kernel_rfl) rfl (fun K hK => ?_)
        go_simp
        go_wp2_with ((go_at_call 36; refine (refright_calls _ (mastOf p)).mono ?_; rintro e wx ⟨rfl, hb⟩; rw [hok]; have hHX := hHeld.step hb))
        refine hK.out _ _ (by exact hHX) (fun hHeld => ?_)
        clear hK K
        refine wpAnyH_tk (i := 2) (v := ?vz60) 26 rfl rfl (by kernel_rfl) (by kernel_rfl) (by kernel_rfl) (fun _ _ _ h => h) (Or.inl ⟨by rfl, ?yz60⟩) hHeld ?rz60
        case yz60 => (intro w hSw; go_simp; try with_reducible rfl)
        (try simp only [Act.put, List.setIfInBounds_toArray, List.set_cons_zero, List.set_cons_succ])
        refine wpAnyH_tk (i := 3) (v := ?vz61) 27 rfl rfl (by kernel_rfl) (by kernel_rfl) (by kernel_rfl) (fun _ _ _ h => h) (Or.inl ⟨by rfl, ?yz61⟩) hHeld ?rz61
        case yz61 => (intro w hSw; go_simp; try with_reducible rfl)
        (try simp only [Act.put, List.setIfInBounds_toArray, List.set_cons_zero, List.set_cons_succ])
        refine wpAnyH_tk (i := 4) (v := _) 28 rfl rfl (by kernel_rfl) (by kernel_rfl) (by kernel_rfl) (fun _ _ _ h => h) (yields_load (by rfl) 56 (.tmp 4) rfl a3 rfl (fun _ h => h.head) Try.underlying56 rfl (size56 _)) hHeld ?_
        (try simp only [Act.put, List.setIfInBounds_toArray, List.set_cons_zero, List.set_cons_succ])
        refine wpAnyH_tk (i := 6) (v := _) 30 rfl rfl (by kernel_rfl) (by kernel_rfl) (by kernel_rfl) (fun _ _ _ h => h) (yields_load (by rfl) 28 (.tmp 1) rfl a1 rfl (fun _ h => h.tail.tail.head) Try.underlying28 rfl (size28' hl)) hHeld ?_
        (try simp only [Act.put, List.setIfInBounds_toArray, List.set_cons_zero, List.set_cons_succ])
        refine wpAnyH_one (i := 5) (by kernel_rfl) rfl (fun K hK => ?_)
        go_simp
        go_wp2_with ((go_at_call 38; refine (reflay_calls _ (mastOf p) (mastOf_sum HP.out) hok).mono ?_; rintro e wx ⟨rfl, hb⟩; have hHX := hHeld.step hb))
        refine hK.out _ _ (by exact hHX) (fun hHeld => ?_)
        clear hK K
        refine wpAnyH_tk (i := 7) (v := _) 31 rfl rfl (by kernel_rfl) (by kernel_rfl) (by kernel_rfl) (fun _ _ _ h => h) (yields_neq (by rfl) 28 28 (.tmp 29) (.tmp 30) rfl (encs (Value.int .u8) (mastLay (mastOf p))) (encs (Value.int .u8) p) rfl rfl b HE.out eqg28 rfl) hHeld ?_
        (try simp only [Act.put, List.setIfInBounds_toArray, List.set_cons_zero, List.set_cons_succ])
        refine wpAnyH_tk (i := 8) (v := ?vz62) 32 rfl rfl (by kernel_rfl) (by kernel_rfl) (by kernel_rfl) (fun _ _ _ h => h) (Or.inl ⟨by rfl, ?yz62⟩) hHeld ?rz62
        case yz62 => (intro w hSw; go_simp; try with_reducible rfl)
        (try simp only [Act.put, List.setIfInBounds_toArray, List.set_cons_zero, List.set_cons_succ])
        refine wpAnyH_done (by kernel_rfl) ?_ _
        skip
        cases b
        · go_wp2_with (first | ((with_reducible refine gate_dst (N := 33) rfl ?_); refine build56z rfl rfl ?_) | ((with_reducible refine gate_store (t := 56) (p := 2) rfl ?_); refine store56 rfl rfl (.tmp 2) (.tmp 33) rfl a2 rfl mast0 rfl hHeld.tail.head ?_; intro w5 h6 h7 h8; have HZ := Aside0.mk (Keeps.put1 hHeld h7 hb2 (by simp; omega) (by simp; omega) h6); clear h6 h7))
          refine bodyPost_ret (results_ct rfl _ _ a2 56 _ (0, 0) _ rfl HZ.out.tail.head Try.underlying56 rfl (size56 mast0)) rfl ?_
          exact ⟨by rw [HR.out]; rfl, HZ.out.below⟩
        · go_wp2_with (first | ((with_reducible refine gate_dst (N := 34) rfl ?_); refine load56 rfl (.tmp 4) rfl a3 rfl hHeld.head ?_) | ((with_reducible refine gate_store (t := 56) (p := 2) rfl ?_); refine store56 rfl rfl (.tmp 2) (.tmp 34) rfl a2 rfl (mastOf p) rfl hHeld.tail.head ?_; intro w5 h6 h7 h8; have HZ := Aside0.mk (Keeps.put1 hHeld h7 hb2 (by simp; omega) (by simp; omega) h6); clear h6 h7))
          refine bodyPost_ret (results_ct rfl _ _ a2 56 _ (0, 0) _ rfl HZ.out.tail.head Try.underlying56 rfl (size56 (mastOf p))) rfl ?_
          exact ⟨by rw [HR.out]; rfl, HZ.out.below⟩
  · have hr0 : rightB p = false := by simpa using hr
    have hrd : mastRead p = (mast0, 8) := by unfold mastRead; rw [if_neg hr]
    rw [hr0]
    go_wp2_with (first | ((with_reducible refine gate_dst (N := 8) rfl ?_); refine build56z rfl rfl ?_) | ((with_reducible refine gate_store (t := 56) (p := 2) rfl ?_); refine store56 rfl rfl (.tmp 2) (.tmp 8) rfl a2 rfl mast0 rfl H3.out.head ?_; intro w4 h6 h7 h8; have HZ := Aside0.mk (H3.out.put h7 hb2 (by simp; omega) h6); clear h6 h7))
    refine bodyPost_ret (results_ct rfl _ _ a2 56 _ (0, 0) _ rfl HZ.out.head Try.underlying56 rfl (size56 mast0)) rfl ?_
    exact ⟨by rw [hrd]; rfl, HZ.out.below⟩
end Go.Proofs.Ytmkkkenpjealdaa.MastWalks
