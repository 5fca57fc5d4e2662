/- The walk of layer 9's document's Leaves. -/
import Derived.Test.YtkkmmbbnaafhlaaTabSame
namespace Go.Proofs.Ytkkmmbbnaafhlaa.Tab
set_option linter.unusedSimpArgs false
set_option linter.unusedVariables false
open Go.RowKit Go.Proofs.YtkkmmbbnaafhlaaW.PrintWords Go.Proofs.YtkkmmbbnaafhlaaW.PrintLast Go.Proofs.YtkkmmbbnaafhlaaW.PrintMore Arr

theorem leafC_set (L : Leaf) (hl : L.ps.length = 10) (r : Nat) (hr : r < 10) (x : Int) : (leafC L).take (2 + r) ++ [Value.int .i64 x] ++ (leafC L).drop (2 + r + 1) = leafC ⟨L.gen, L.idx, L.ps.set r x⟩ := by
  have h : leafC ⟨L.gen, L.idx, L.ps.set r x⟩ = (leafC L).set (2 + r) (Value.int .i64 x) := by
    unfold leafC
    rw [List.set_append_right _ _ (by simp)]
    simp [encs, List.map_set]
  rw [h, List.set_eq_take_append_cons_drop, if_pos (by rw [leafC_len L hl]; omega)]
  simp
theorem RL.put {w : World} {B g cap n : Nat} {l : List Leaf} (h : RL w B (.slice (some ⟨g, 0, none⟩) n cap) l) (i : Nat) (hi : i < n) (r : Nat) (hr : r < 10) (x : Int) (hl : (l.getD i leaf0).ps.length = 10) :
    RL (w.setCell ⟨g, i * 12 + 2 + r, none⟩ (.int .i64 x)) B (.slice (some ⟨g, 0, none⟩) n cap) (l.set i ⟨(l.getD i leaf0).gen, (l.getD i leaf0).idx, (l.getD i leaf0).ps.set r x⟩) := by
  obtain ⟨L, hL⟩ : ∃ L, L = l.getD i leaf0 := ⟨_, rfl⟩
  have hat : ∀ j u, (leafC L)[j]? = some u → w.cell? ⟨g, ((i : Nat) : Int).toNat * k58.sz + j, none⟩ = some u := fun j u hu => by
    rw [k58_sz, Int.toNat_natCast]
    exact (RL.at h i hi j u (by rw [← hL]; exact hu)).1
  rw [← hL] at hl ⊢
  have h2 := Kd.R_seg (d := k58) (okp := fun _ => False) h (i : Int) (by omega) (by omega) (c := leafC L) (seg := [Value.int .i64 x]) (j := 2 + r) (by rw [leafC_len L hl, k58_sz]) hat (by rw [k58_sz]; simp; omega) (x' := ⟨L.gen, L.idx, L.ps.set r x⟩) (by
    show k58.M _ _ _ _ ((leafC L).take (2 + r) ++ [Value.int .i64 x] ++ (leafC L).drop (2 + r + 1))
    rw [leafC_set L hl r hr x]
    exact k58_mkM _ _ _ _ (by rw [List.length_set]; exact hl)) (fun _ hk => hk.elim)
  rw [k58_sz, Int.toNat_natCast, ← Nat.add_assoc] at h2
  exact h2.1
theorem RL.blk {w : World} {B g cap n : Nat} {l : List Leaf} (h : RL w B (.slice (some ⟨g, 0, none⟩) n cap) l) (hp : 0 < l.length) : ∃ cs, Blk w g 58 cs ∧ ∀ j v, w.cell? ⟨g, j, none⟩ = some v → j < cs.length := by
  obtain ⟨g', cap', e, _, _, cells, hc⟩ := Kd.R_form h hp
  injection e with e1
  injection e1 with e1
  injection e1 with e1
  subst e1
  refine ⟨cells.toList, hc, fun j v hv => ?_⟩
  rw [show w.cell? ⟨g, j, none⟩ = cells[j]? from blk_cell hc j] at hv
  rw [Array.length_toList]
  exact (Array.getElem?_eq_some_iff.1 hv).1
theorem leavesTo_getD (gen : Int) (ps : List Int) (p k : Nat) (h : k < p) : (leavesTo gen ps p).getD k leaf0 = leafAt gen ps k := by
  unfold leavesTo
  rw [List.getD_eq_getElem?_getD]
  simp [h]
theorem leafAt_len (gen : Int) (ps : List Int) (k : Nat) (h : 10 * k + 10 ≤ ps.length) : (leafAt gen ps k).ps.length = 10 := by
  unfold leafAt
  rw [List.length_take, List.length_drop]
  omega
theorem leavesTo_set (gen : Int) (ps : List Int) (q r : Nat) (x : Int) (hr : r < 10) (h : 10 * q + 10 ≤ ps.length) : (leavesTo gen ps (q + 1)).set q ⟨gen, q, (leafAt gen ps q).ps.set r x⟩ = leavesTo gen (ps.set (10 * q + r) x) (q + 1) := by
  apply List.ext_getElem (by simp [leavesTo])
  intro j h1 h2
  have hj : j < q + 1 := by simpa [leavesTo] using h2
  rw [List.getElem_set]
  have hm1 : ∀ (l : List Int) (h : j < (leavesTo gen l (q + 1)).length), (leavesTo gen l (q + 1))[j] = leafAt gen l j := fun l h => by simp [leavesTo]
  rw [hm1, hm1]
  have hlen : (ps.set (10 * q + r) x).length = ps.length := List.length_set ..
  by_cases e : q = j
  · subst e
    rw [if_pos rfl]
    unfold leafAt
    congr 1
    apply ext_getD (by simp)
    intro m hm
    simp only [List.length_set, List.length_take, List.length_drop] at hm
    rw [getD_set _ _ _ _ (by rw [List.length_take, List.length_drop]; omega), getD_take (by omega), getD_drop, getD_take (by omega), getD_drop, getD_set _ _ _ _ (by omega)]
    by_cases e2 : r = m
    · rw [if_pos e2, if_pos (by omega)]
    · rw [if_neg e2, if_neg (by omega)]
  · rw [if_neg e]
    unfold leafAt
    congr 1
    apply ext_getD (by simp)
    intro m hm
    simp only [List.length_take, List.length_drop] at hm
    rw [getD_take (by omega), getD_drop, getD_take (by omega), getD_drop, getD_set _ _ _ _ (by omega), if_neg (by omega)]
theorem leafAt_zero (gen : Int) (ps : List Int) (q : Nat) (h : 10 * q + 10 ≤ ps.length) : leafAt gen (upTo ps (10 * q)) q = ⟨gen, q, [0, 0, 0, 0, 0, 0, 0, 0, 0, 0]⟩ := by
  unfold leafAt
  congr 1
  rw [show ([0, 0, 0, 0, 0, 0, 0, 0, 0, 0] : List Int) = zeros 10 from rfl]
  apply ext_getD (by rw [List.length_take, List.length_drop, upTo_length, zeros_length]; omega)
  intro m hm
  rw [List.length_take, List.length_drop, upTo_length] at hm
  rw [getD_take (by omega), getD_drop, upTo_getD _ _ _ (by omega), if_neg (by omega), zeros_getD]
section
variable {ops : Array Oper} {rest : List Oper} {o : Oper} {a : Act} {Q : Exit → Act → World → Prop} {W : World}
theorem build58 (hgd : o.guard = none) (x y : Operand) (ho : o.op = .build 58 #[(0, x), (1, y)]) (g i : Int) (hx : a.eval x = .int .i64 g) (hy : a.eval y = .int .i64 i)
    (h : wpList Try.prog ops Q rest (a.put o.dst (.agg #[.int .i64 g, .int .i64 i, .int .i64 0, .int .i64 0, .int .i64 0, .int .i64 0, .int .i64 0, .int .i64 0, .int .i64 0, .int .i64 0, .int .i64 0, .int .i64 0])) W) : wpList Try.prog ops Q (o :: rest) a W :=
  Kd.event_run hgd (by simp only [execOp, ho, List.map_toArray, List.map_cons, List.map_nil, hx, hy]; kernel_rfl) h
end
theorem quo_ten {q : Nat} (hk : q ≤ 1000000) : IntKind.i64.wrap (q : Int) = (q : Int) := by
  rw [IntKind.wrap_i64]
  omega
theorem rem_ten {k r : Nat} (hk : k ≤ 1000000) (h : r = k % 10) : (k : Int).tmod 10 = (r : Int) := by
  rw [Int.tmod_eq_emod_of_nonneg (by omega)]
  omega
set_option maxRecDepth 10000 in
set_option maxHeartbeats 8000000 in
theorem rleaves_calls (w : World) (A : Option Addr) (n c : Nat) (ps : List Int) (hn : n ≤ 4096) (hps : ps.length = 10 * pg n) (hC : CI w A n (ps.take n)) (gen : Int) : Calls Try.prog 34 #[.slice A n c, .int .i64 gen] w fun e w' => ∃ v, e = .returned v ∧ RL w' w.heap.size v (leavesTo gen (upTo ps n) (pg n)) ∧ Below w.heap.size w w' := by
  have HC := Aside0.mk hC
  have HN := Aside0.mk (show RL w w.heap.size (.slice none 0 0) (leavesTo gen (upTo ps 0) (pg 0)) from Kd.R_nil k58 58 w w.heap.size (fun _ => True))
  have HX := Aside0.mk (Below.refl w.heap.size w)
  have hpl : n ≤ 10 * pg n := by unfold pg; omega
  obtain ⟨p, hp⟩ : ∃ p, p = pg n := ⟨_, rfl⟩
  rw [← hp] at hps hpl
  have HPG := Aside0.mk hp
  clear hC hp
  go_enter Try.func34, Try.ntmps34
  go_wp2_with fail
  go_loopw [5, 6] (fun v i wr => ∃ k : Nat, k ≤ n ∧ i = .int .i64 k ∧ Aside0 (RL wr w.heap.size v (leavesTo gen (upTo ps k) (pg k))) ∧ Aside0 (Below w.heap.size w wr)) (fun _ i _ => n - (intOf i).toNat)
  case atStart => exact ⟨0, by omega, rfl, HN, HX⟩
  case round =>
    clear HN HX
    obtain ⟨k, hk, rfl, HO, HX⟩ := hrel
    have hS := HX.out.size
    by_cases hlt : k < n
    · have hd : decide ((k : Int) < n) = true := by simp; omega
      obtain ⟨q, hq⟩ : ∃ q, q = k / 10 := ⟨_, rfl⟩
      obtain ⟨r, hr⟩ : ∃ r, r = k % 10 := ⟨_, rfl⟩
      have hkq : k = 10 * q + r := by omega
      have hr10 : r < 10 := by omega
      have hq2 : (k : Int) / 10 = (q : Int) := by omega
      have hr2 : (k : Int) % 10 = (r : Int) := by omega
      have hfit : 10 * q + 10 ≤ ps.length := by rw [hps]; unfold pg at *; omega
      have HPG1 := Aside0.mk (show pg (k + 1) = q + 1 by unfold pg; omega)
      have HUP := Aside0.mk (upTo_succ ps k (by omega))
      have hul := upTo_length ps k
      have HKQ := Aside0.mk hkq
      have HQ3 := Aside0.mk (quo_ten (q := q) (by omega))
      have HR3 := Aside0.mk (rem_ten (k := k) (r := r) (by omega) (by omega))
      clear hq hr
      obtain ⟨ad, hA, hcx⟩ := Kd.at_int HC.out (k : Int) (by omega) (by omega)
      subst hA
      rw [Int.toNat_natCast] at hcx
      rw [show rd (ps.take n) (k : Int) = ps.getD k 0 from getD_take hlt] at hcx
      obtain ⟨x, hx⟩ : ∃ x, x = ps.getD k 0 := ⟨_, rfl⟩
      rw [← hx] at hcx HUP
      have HCX := Aside0.mk (fun w' (hb : Below w.heap.size w w') => pw_cell_below hb hcx)
      clear hx hcx
      clear hkq
      by_cases hr0 : r = 0
      · subst hr0
        have hPK : pg k = q := by have := HKQ.out; unfold pg; omega
        rw [hPK] at HO
        have HLZ := Aside0.mk (show leavesTo gen (upTo ps k) (q + 1) = leavesTo gen (upTo ps k) q ++ [⟨gen, q, [0, 0, 0, 0, 0, 0, 0, 0, 0, 0]⟩] by rw [leavesTo_succ, HKQ.out, Nat.add_zero, leafAt_zero gen ps q hfit])
        have hll := leavesTo_length gen (upTo ps k) q
        have hrr : (0 : Nat) < 10 := by decide
        go_upto_region 7 with (first | ((with_reducible refine gate_dst (N := 20) rfl ?_); refine build58 rfl (.tmp 17) (.tmp 19) rfl gen (q : Int) rfl rfl ?_) | ((with_reducible refine gate_dst (N := 22) rfl ?_); refine app_leaf (w0 := w) (B := w.heap.size) rfl (.tmp 16) (.tmp 21) rfl u5 _ gen (q : Int) 0 0 0 0 0 0 0 0 0 0 rfl rfl HO.out HX.out hS (by rw [hll]; omega) ?_; intro v3 w3 h7 h8 h9; have H7 := Aside0.mk h7; have H8 := Aside0.mk h8; clear h7 h8 h9))
        rw [← HLZ.out] at H7
        obtain ⟨g, cap, e, hg0, hg1, _⟩ := Kd.R_form H7.out (by rw [leavesTo_length]; omega)
        rw [leavesTo_length] at e
        subst e
        have hr5 := RL.at H7.out q (by omega) (2 + 0) (.int .i64 ((leafAt gen (upTo ps k) q).ps.getD 0 0)) (by rw [leavesTo_getD _ _ _ _ (by omega)]; exact leafC_ps _ (leafAt_len gen _ q (by omega)) 0 (by omega))
        obtain ⟨cs, hcb, hcl⟩ := RL.blk H7.out (by rw [leavesTo_length]; omega)
        have hfit2 : q * 12 + 2 + 0 < cs.length := hcl _ _ (by rw [Nat.add_assoc]; exact hr5.1)
        have HNW := Aside0.mk (show RL (w3.drew.setCell ⟨g, q * 12 + 2 + 0, none⟩ (.int .i64 x)) w.heap.size (.slice (some ⟨g, 0, none⟩) (q + 1) cap) (leavesTo gen (upTo ps (k + 1)) (q + 1)) by
          have h := RL.put (Kd.R_drew H7.out) q (by omega) 0 (by omega) x (by rw [leavesTo_getD _ _ _ _ (by omega)]; exact leafAt_len gen _ q (by omega))
          rw [leavesTo_getD _ _ _ _ (by omega)] at h
          have e2 : (leavesTo gen (upTo ps k) (q + 1)).set q ⟨gen, q, (leafAt gen (upTo ps k) q).ps.set 0 x⟩ = leavesTo gen (upTo ps (k + 1)) (q + 1) := by rw [leavesTo_set gen (upTo ps k) q 0 x (by omega) (by omega), ← HKQ.out, HUP.out]
          rw [← e2]
          exact h)
        have HBW := Aside0.mk (below_grown (pw_below_drewN H8.out 1) hg0 H8.out.size (grown_set w3.drew g (q * 12 + 2 + 0) (.int .i64 x)))
        have hcb2 := hcb.drew
        clear hr5 hcl
        refine wp_region_held_drew (S := (fun w' => Below w.heap.size w w')) (by kernel_rfl) (by exact pw_below_drewN H8.out 1) (fun hHeld => ?_)
        refine wpAnyH_tk (i := 0) (v := ?vz1) 23 rfl rfl (by kernel_rfl) (by kernel_rfl) (by kernel_rfl) (fun _ _ _ h => h) (Or.inl ⟨by rfl, ?yz1⟩) hHeld ?rz1
        case yz1 => (intro w hSw; go_simp; try with_reducible rfl)
        (try simp only [Act.put, List.setIfInBounds_toArray, List.set_cons_zero, List.set_cons_succ])
        refine wpAnyH_tk (i := 1) (v := ?vz2) 24 rfl rfl (by kernel_rfl) (by kernel_rfl) (by kernel_rfl) (fun _ _ _ h => h) (Or.inl ⟨by rfl, ?yz2⟩) hHeld ?rz2
        case yz2 => (intro w hSw; go_simp; try with_reducible rfl)
        (try simp only [Act.put, List.setIfInBounds_toArray, List.set_cons_zero, List.set_cons_succ])
        refine wpAnyH_tk (i := 2) (v := _) 25 rfl rfl (by kernel_rfl) (by kernel_rfl) (by kernel_rfl) (fun _ _ _ h => h) (show YieldsIf Try.prog _ _ _ (.int .i64 (q : Int)) _ from Or.inl ⟨(by rfl), fun w hSw => by go_simp; try (first | exact HQ3.out | omega)⟩) hHeld ?_
        (try simp only [Act.put, List.setIfInBounds_toArray, List.set_cons_zero, List.set_cons_succ])
        refine wpAnyH_tk (i := 3) (v := ?vz3) 26 rfl rfl (by kernel_rfl) (by kernel_rfl) (by kernel_rfl) (fun _ _ _ h => h) (Or.inl ⟨by rfl, ?yz3⟩) hHeld ?rz3
        case yz3 => (intro w hSw; go_simp; try with_reducible rfl)
        (try simp only [Act.put, List.setIfInBounds_toArray, List.set_cons_zero, List.set_cons_succ])
        refine wpAnyH_tk (i := 4) (v := _) 27 rfl rfl (by kernel_rfl) (by kernel_rfl) (by kernel_rfl) (fun _ _ _ h => h) (show YieldsIf Try.prog _ _ _ (.int .i64 (0)) _ from Or.inl ⟨(by rfl), fun w hSw => by go_simp; try (first | exact HR3.out | omega)⟩) hHeld ?_
        (try simp only [Act.put, List.setIfInBounds_toArray, List.set_cons_zero, List.set_cons_succ])
        refine wpAnyH_tk (i := 5) (v := ?vz4) 28 rfl rfl (by kernel_rfl) (by kernel_rfl) (by kernel_rfl) (fun _ _ _ h => h) (Or.inl ⟨by rfl, ?yz4⟩) hHeld ?rz4
        case yz4 => (intro w hSw; go_simp; try with_reducible rfl)
        (try simp only [Act.put, List.setIfInBounds_toArray, List.set_cons_zero, List.set_cons_succ])
        refine wpAnyH_tk (i := 6) (v := ?vz5) 29 rfl rfl (by kernel_rfl) (by kernel_rfl) (by kernel_rfl) (fun _ _ _ h => h) (Or.inl ⟨by rfl, ?yz5⟩) hHeld ?rz5
        case yz5 => (intro w hSw; go_simp; try with_reducible rfl)
        (try simp only [Act.put, List.setIfInBounds_toArray, List.set_cons_zero, List.set_cons_succ])
        refine wpAnyH_tk (i := 7) (v := ?vz6) 30 rfl rfl (by kernel_rfl) (by kernel_rfl) (by kernel_rfl) (fun _ _ _ h => h) (Or.inl ⟨by rfl, ?yz6⟩) hHeld ?rz6
        case yz6 => (intro w hSw; go_simp; try with_reducible rfl)
        (try simp only [Act.put, List.setIfInBounds_toArray, List.set_cons_zero, List.set_cons_succ])
        refine wpAnyH_tk (i := 8) (v := _) 31 rfl rfl (by kernel_rfl) (by kernel_rfl) (by kernel_rfl) (fun _ _ _ h => h) (yields_cell (by rfl) 3 (.tmp 30) rfl _ rfl (v := .int .i64 x) (fun w h => HCX.out w h) Try.underlying3 rfl) hHeld ?_
        (try simp only [Act.put, List.setIfInBounds_toArray, List.set_cons_zero, List.set_cons_succ])
        refine wpAnyH_tk (i := 9) (v := _) 32 rfl rfl (by kernel_rfl) (by kernel_rfl) (by kernel_rfl) (fun _ _ _ h => h) (show YieldsIf Try.prog _ _ _ (.pointer (some ⟨g, q * 12, none⟩)) _ from Or.inl ⟨(by rfl), fun w hSw => by go_simp; try omega⟩) hHeld ?_
        (try simp only [Act.put, List.setIfInBounds_toArray, List.set_cons_zero, List.set_cons_succ])
        refine wpAnyH_tk (i := 10) (v := ?vz7) 33 rfl rfl (by kernel_rfl) (by kernel_rfl) (by kernel_rfl) (fun _ _ _ h => h) (Or.inl ⟨by rfl, ?yz7⟩) hHeld ?rz7
        case yz7 => (intro w hSw; go_simp; try with_reducible rfl)
        (try simp only [Act.put, List.setIfInBounds_toArray, List.set_cons_zero, List.set_cons_succ])
        refine wpAnyH_tk (i := 11) (v := _) 34 rfl rfl (by kernel_rfl) (by kernel_rfl) (by kernel_rfl) (fun _ _ _ h => h) (show YieldsIf Try.prog _ _ _ (.pointer (some ⟨g, q * 12 + 2 + 0, none⟩)) _ from Or.inl ⟨(by rfl), fun w hSw => by go_simp; try omega⟩) hHeld ?_
        (try simp only [Act.put, List.setIfInBounds_toArray, List.set_cons_zero, List.set_cons_succ])
        refine wpAnyH_one (i := 12) (by kernel_rfl) rfl (fun K hK => ?_)
        rw [if_pos (by rfl)]
        refine step_cell rfl 3 (.tmp 34) (.tmp 31) rfl g (q * 12 + 2 + 0) rfl (.int .i64 x) rfl rfl size3 hcb2 hfit2 ?_
        refine hK.out _ _ (by exact HBW.out) (fun hHeld => ?_)
        clear hK K
        (try simp only [Act.put, List.setIfInBounds_toArray, List.set_cons_zero, List.set_cons_succ])
        refine wpAnyH_done (by kernel_rfl) ?_ _
        skip
        go_wp2_with fail
        go_roundw
        case rel => exact ⟨k + 1, by omega, by go_num, ⟨by rw [HPG1.out]; exact HNW.out⟩, HBW⟩
        case measure => simp [intOf]; omega
      · have hPK : pg k = q + 1 := by have := HKQ.out; unfold pg; omega
        rw [hPK] at HO
        have hrn : ((r : Int) == 0) = false := by simp; omega
        obtain ⟨g, cap, e, hg0, hg1, _⟩ := Kd.R_form HO.out (by rw [leavesTo_length]; omega)
        rw [leavesTo_length] at e
        subst e
        go_upto_region 7 with (fail)
        have hr5 := RL.at HO.out q (by omega) (2 + r) (.int .i64 ((leafAt gen (upTo ps k) q).ps.getD r 0)) (by rw [leavesTo_getD _ _ _ _ (by omega)]; exact leafC_ps _ (leafAt_len gen _ q (by omega)) r (by omega))
        obtain ⟨cs, hcb, hcl⟩ := RL.blk HO.out (by rw [leavesTo_length]; omega)
        have hfit2 : q * 12 + 2 + r < cs.length := hcl _ _ (by rw [Nat.add_assoc]; exact hr5.1)
        have HNW := Aside0.mk (show RL (wr.drew.setCell ⟨g, q * 12 + 2 + r, none⟩ (.int .i64 x)) w.heap.size (.slice (some ⟨g, 0, none⟩) (q + 1) cap) (leavesTo gen (upTo ps (k + 1)) (q + 1)) by
          have h := RL.put (Kd.R_drew HO.out) q (by omega) r (by omega) x (by rw [leavesTo_getD _ _ _ _ (by omega)]; exact leafAt_len gen _ q (by omega))
          rw [leavesTo_getD _ _ _ _ (by omega)] at h
          have e2 : (leavesTo gen (upTo ps k) (q + 1)).set q ⟨gen, q, (leafAt gen (upTo ps k) q).ps.set r x⟩ = leavesTo gen (upTo ps (k + 1)) (q + 1) := by rw [leavesTo_set gen (upTo ps k) q r x (by omega) (by omega), ← HKQ.out, HUP.out]
          rw [← e2]
          exact h)
        have HBW := Aside0.mk (below_grown (pw_below_drewN HX.out 1) hg0 HX.out.size (grown_set wr.drew g (q * 12 + 2 + r) (.int .i64 x)))
        have hcb2 := hcb.drew
        clear hr5 hcl
        refine wp_region_held_drew (S := (fun w' => Below w.heap.size w w')) (by kernel_rfl) (by exact pw_below_drewN HX.out 1) (fun hHeld => ?_)
        refine wpAnyH_tk (i := 0) (v := ?vz8) 23 rfl rfl (by kernel_rfl) (by kernel_rfl) (by kernel_rfl) (fun _ _ _ h => h) (Or.inl ⟨by rfl, ?yz8⟩) hHeld ?rz8
        case yz8 => (intro w hSw; go_simp; try with_reducible rfl)
        (try simp only [Act.put, List.setIfInBounds_toArray, List.set_cons_zero, List.set_cons_succ])
        refine wpAnyH_tk (i := 1) (v := ?vz9) 24 rfl rfl (by kernel_rfl) (by kernel_rfl) (by kernel_rfl) (fun _ _ _ h => h) (Or.inl ⟨by rfl, ?yz9⟩) hHeld ?rz9
        case yz9 => (intro w hSw; go_simp; try with_reducible rfl)
        (try simp only [Act.put, List.setIfInBounds_toArray, List.set_cons_zero, List.set_cons_succ])
        refine wpAnyH_tk (i := 2) (v := _) 25 rfl rfl (by kernel_rfl) (by kernel_rfl) (by kernel_rfl) (fun _ _ _ h => h) (show YieldsIf Try.prog _ _ _ (.int .i64 (q : Int)) _ from Or.inl ⟨(by rfl), fun w hSw => by go_simp; try (first | exact HQ3.out | omega)⟩) hHeld ?_
        (try simp only [Act.put, List.setIfInBounds_toArray, List.set_cons_zero, List.set_cons_succ])
        refine wpAnyH_tk (i := 3) (v := ?vz10) 26 rfl rfl (by kernel_rfl) (by kernel_rfl) (by kernel_rfl) (fun _ _ _ h => h) (Or.inl ⟨by rfl, ?yz10⟩) hHeld ?rz10
        case yz10 => (intro w hSw; go_simp; try with_reducible rfl)
        (try simp only [Act.put, List.setIfInBounds_toArray, List.set_cons_zero, List.set_cons_succ])
        refine wpAnyH_tk (i := 4) (v := _) 27 rfl rfl (by kernel_rfl) (by kernel_rfl) (by kernel_rfl) (fun _ _ _ h => h) (show YieldsIf Try.prog _ _ _ (.int .i64 ((r : Int))) _ from Or.inl ⟨(by rfl), fun w hSw => by go_simp; try (first | exact HR3.out | omega)⟩) hHeld ?_
        (try simp only [Act.put, List.setIfInBounds_toArray, List.set_cons_zero, List.set_cons_succ])
        refine wpAnyH_tk (i := 5) (v := ?vz11) 28 rfl rfl (by kernel_rfl) (by kernel_rfl) (by kernel_rfl) (fun _ _ _ h => h) (Or.inl ⟨by rfl, ?yz11⟩) hHeld ?rz11
        case yz11 => (intro w hSw; go_simp; try with_reducible rfl)
        (try simp only [Act.put, List.setIfInBounds_toArray, List.set_cons_zero, List.set_cons_succ])
        refine wpAnyH_tk (i := 6) (v := ?vz12) 29 rfl rfl (by kernel_rfl) (by kernel_rfl) (by kernel_rfl) (fun _ _ _ h => h) (Or.inl ⟨by rfl, ?yz12⟩) hHeld ?rz12
        case yz12 => (intro w hSw; go_simp; try with_reducible rfl)
        (try simp only [Act.put, List.setIfInBounds_toArray, List.set_cons_zero, List.set_cons_succ])
        refine wpAnyH_tk (i := 7) (v := ?vz13) 30 rfl rfl (by kernel_rfl) (by kernel_rfl) (by kernel_rfl) (fun _ _ _ h => h) (Or.inl ⟨by rfl, ?yz13⟩) hHeld ?rz13
        case yz13 => (intro w hSw; go_simp; try with_reducible rfl)
        (try simp only [Act.put, List.setIfInBounds_toArray, List.set_cons_zero, List.set_cons_succ])
        refine wpAnyH_tk (i := 8) (v := _) 31 rfl rfl (by kernel_rfl) (by kernel_rfl) (by kernel_rfl) (fun _ _ _ h => h) (yields_cell (by rfl) 3 (.tmp 30) rfl _ rfl (v := .int .i64 x) (fun w h => HCX.out w h) Try.underlying3 rfl) hHeld ?_
        (try simp only [Act.put, List.setIfInBounds_toArray, List.set_cons_zero, List.set_cons_succ])
        refine wpAnyH_tk (i := 9) (v := _) 32 rfl rfl (by kernel_rfl) (by kernel_rfl) (by kernel_rfl) (fun _ _ _ h => h) (show YieldsIf Try.prog _ _ _ (.pointer (some ⟨g, q * 12, none⟩)) _ from Or.inl ⟨(by rfl), fun w hSw => by go_simp; try omega⟩) hHeld ?_
        (try simp only [Act.put, List.setIfInBounds_toArray, List.set_cons_zero, List.set_cons_succ])
        refine wpAnyH_tk (i := 10) (v := ?vz14) 33 rfl rfl (by kernel_rfl) (by kernel_rfl) (by kernel_rfl) (fun _ _ _ h => h) (Or.inl ⟨by rfl, ?yz14⟩) hHeld ?rz14
        case yz14 => (intro w hSw; go_simp; try with_reducible rfl)
        (try simp only [Act.put, List.setIfInBounds_toArray, List.set_cons_zero, List.set_cons_succ])
        refine wpAnyH_tk (i := 11) (v := _) 34 rfl rfl (by kernel_rfl) (by kernel_rfl) (by kernel_rfl) (fun _ _ _ h => h) (show YieldsIf Try.prog _ _ _ (.pointer (some ⟨g, q * 12 + 2 + r, none⟩)) _ from Or.inl ⟨(by rfl), fun w hSw => by go_simp; try omega⟩) hHeld ?_
        (try simp only [Act.put, List.setIfInBounds_toArray, List.set_cons_zero, List.set_cons_succ])
        refine wpAnyH_one (i := 12) (by kernel_rfl) rfl (fun K hK => ?_)
        rw [if_pos (by rfl)]
        refine step_cell rfl 3 (.tmp 34) (.tmp 31) rfl g (q * 12 + 2 + r) rfl (.int .i64 x) rfl rfl size3 hcb2 hfit2 ?_
        refine hK.out _ _ (by exact HBW.out) (fun hHeld => ?_)
        clear hK K
        (try simp only [Act.put, List.setIfInBounds_toArray, List.set_cons_zero, List.set_cons_succ])
        refine wpAnyH_done (by kernel_rfl) ?_ _
        skip
        go_wp2_with fail
        go_roundw
        case rel => exact ⟨k + 1, by omega, by go_num, ⟨by rw [HPG1.out]; exact HNW.out⟩, HBW⟩
        case measure => simp [intOf]; omega
    · obtain rfl : k = n := by omega
      have hd : decide ((k : Int) < k) = false := by simp
      go_wp2_with fail
      go_ret
      exact ⟨_, rfl, HO.out, HX.out⟩
end Go.Proofs.Ytkkmmbbnaafhlaa.Tab
