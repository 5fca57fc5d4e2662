/- The walk of layer 15's statement RollJoin. -/
import Derived.Test.YtkkmmbbnaafhlaaRollLaws2
namespace Go.Proofs.Ytkkmmbbnaafhlaa.Roll
set_option linter.unusedSimpArgs false
set_option linter.unusedVariables false
open Go.RowKit Go.Proofs.YtkkmmbbnaafhlaaW.PrintWords Go.Proofs.YtkkmmbbnaafhlaaW.PrintLast Go.Proofs.YtkkmmbbnaafhlaaW.PrintMore Arr PRollJoin

/-! ### in plain Lean -/
theorem gst_add : ∀ (l : List Found) (gs : List S28) (s : List S28 × List S44), l.foldl gstep (gs ++ s.1, s.2) = (gs ++ (l.foldl gstep s).1, (l.foldl gstep s).2)
  | [], gs, s => rfl
  | f :: l, gs, s => by
    have h1 : gstep (gs ++ s.1, s.2) f = (gs ++ (gstep s f).1, (gstep s f).2) := by
      unfold gstep
      split
      · split
        · simp
        · rfl
      · rfl
    rw [List.foldl_cons, List.foldl_cons, h1]
    exact gst_add l gs (gstep s f)
theorem groups_join (a b : List Found) (h : 0 < a.length → (fd a (a.length - 1)).rc.kind = 3) : groups (a ++ b) = groups a ++ groups b := by
  have h0 : (gst a).2 = [] := by
    rcases Nat.eq_zero_or_pos a.length with h1 | h1
    · rw [List.eq_nil_of_length_eq_zero h1]; rfl
    · have h2 := gst_succ a (a.length - 1) (by omega)
      rw [show a.length - 1 + 1 = a.length by omega, List.take_length] at h2
      rw [h2]
      unfold gstep
      rw [if_pos (h h1)]
  unfold groups
  have h2 := gst_add b (gst a).1 ([], [])
  simp only [List.append_nil] at h2
  unfold gst
  rw [List.foldl_append]
  have e : a.foldl gstep ([], []) = ((gst a).1, []) := by
    show gst a = _
    rw [← h0]
  rw [e, h2]
theorem users_add (a b : List S28) : users (a ++ b) = users a + users b := List.countP_append ..
/-! ### rows joined -/
abbrev RF (w : World) (B : Nat) (v : Value) (l : List Found) : Prop := Kd.R k41 41 w B (fun _ => True) v l
abbrev RW (w : World) (B : Nat) (v : Value) (l : List S28) : Prop := Kd.R k28 28 w B (fun _ => True) v l
theorem info41 : (Try.prog.info? 41).map (fun i => (i.zero, i.size, i.bytes)) = some (some (.agg (foundC found0).toArray), k41.sz, 80) := by kernel_rfl
theorem info28' : (Try.prog.info? 28).map (fun i => (i.zero, i.size, i.bytes)) = some (some (.agg #[.bool false, .int .i64 0, .slice none 0 0]), k28.sz, 40) := by kernel_rfl
section
variable {ops : Array Oper} {rest : List Oper} {o : Oper} {a : Act} {Q : Exit → Act → World → Prop} {w0 W : World} {B : Nat}
theorem apps41 (hgd : o.guard = none) (s x : Operand) (ho : o.op = .call { callee := .builtin .append, args := #[s, x], argTypes := #[33, 33] })
    (v : Value) (l ys : List Found) (A : Option Addr) (m c : Nat) (hs : a.eval s = v) (hx : a.eval x = .slice A m c) (HO : RF W B v l) (HR : k41.C W A m ys) (HB : Below B w0 W) (hb : B ≤ W.heap.size) (hl : l.length + m ≤ 100000)
    (h : ∀ v1 w1, RF w1 B v1 (l ++ ys) → Below B w0 w1 → wpList Try.prog ops Q rest (a.put o.dst v1) w1) : wpList Try.prog ops Q (o :: rest) a W :=
  Kd.R_append_rows (P := Try.prog) k41 (w0 := w0) B hgd s x 33 41 (.agg (foundC found0).toArray) 80 ho Try.underlying33 info41 (by kernel_rfl) (by decide) (by omega) v l ys A m c (fun _ => True) (fun _ => False) hs hx HO HR (fun x cs h => by
      obtain ⟨rfl, h2⟩ := k41_open h
      exact k41_mkM _ _ _ _ h2) (fun _ hk => hk.elim) (fun _ _ => trivial) HB hb (by omega)
    (fun v1 w1 h1 h2 h3 _ => h v1 w1 h1 h2)
/-- Groups appended, whole: what they hold is no row of groups. -/
theorem apps28 (hgd : o.guard = none) (s x : Operand) (ho : o.op = .call { callee := .builtin .append, args := #[s, x], argTypes := #[23, 23] })
    (v : Value) (l : List S28) (vy : Value) (ys : List (S28 × Nat)) {By : Nat} {oky : Nat → Prop} (hBy : B ≤ By) (hs : a.eval s = v) (hx : a.eval x = vy) (HO : RW W B v l) (HR : RG W By oky vy ys) (HB : Below B w0 W) (hb : B ≤ W.heap.size) (hl : l.length + ys.length ≤ 100000)
    (h : ∀ v1 w1, RW w1 B v1 (l ++ ys.map Prod.fst) → Below B w0 w1 → wpList Try.prog ops Q rest (a.put o.dst v1) w1) : wpList Try.prog ops Q (o :: rest) a W := by
  obtain ⟨A, c, rfl, hc, hC⟩ := OwnRow.reads HR.2
  have hRr : ReadsRow (k28.M W By (fun _ => True)) k28.sz W A ys.length (ys.map Prod.fst) := by
    obtain ⟨h1, h2, h3⟩ := hC
    refine ⟨by rw [List.length_map], h2, fun hn => ?_⟩
    obtain ⟨ad, e, h4⟩ := h3 hn
    refine ⟨ad, e, fun j p hp => ?_⟩
    rw [List.getElem?_map] at hp
    obtain ⟨q, hq, rfl⟩ := Option.map_eq_some_iff.1 hp
    obtain ⟨cs, hc1, hc2, hc3⟩ := h4 j q hq
    exact ⟨cs, hc1, k28.M_mono (fun _ _ => trivial) hc2, hc3⟩
  have hty := Kd.R_typed HO
  refine Kd.R_append_rows (P := Try.prog) k28 (w0 := w0) B hgd s x 23 28 (.agg #[.bool false, .int .i64 0, .slice none 0 0]) 40 ho Try.underlying23 info28' rfl (by decide) (by omega) v l (ys.map Prod.fst) A ys.length c (fun _ => True) (fun k => some k ≠ v.ownBlock) hs hx HO hRr
    (fun x cs h => k28.M_lower hBy (k28.M_mono (fun k hk e => ?_) (k28.M_bound h))) (fun k hk => ⟨trivial, hk⟩) (fun _ _ => trivial) HB hb (by omega)
    (fun v1 w1 h1 h2 h3 _ => h v1 w1 h1 h2)
  obtain ⟨_, _, _, q, hq, cells, hcl⟩ := hk
  obtain ⟨cells', hc'⟩ := hty k e.symm
  rw [hcl] at hc'
  have hq2 : q ∈ [44] := hq
  have h2 : q = 28 := by
    have := Option.some.inj hc'
    injection this
  subst h2
  simp at hq2
end
theorem RG.reads2 {w : World} {B : Nat} {ok : Nat → Prop} {v : Value} {gs : List (S28 × Nat)} (h : RG w B ok v gs) {l : List S28} (hl : gs.map Prod.fst = l) : ∃ A c, v = .slice A l.length c ∧ l.length ≤ c ∧ k28.C w A l.length l := by
  obtain ⟨A, c, rfl, h1, h2⟩ := Kd.R_reads h
  have h3 := C_untag h2
  subst hl
  rw [List.length_map]
  exact ⟨A, c, rfl, h1, h3⟩
theorem read41 {W w : World} {A : Option Addr} {l : List Found} (h : k41.C W A l.length l) (hb : Below W.heap.size W w) (i : Nat) (hi : i < l.length) : ∃ ad, A = some ad ∧ w.cell? ⟨(ad.add (i * 38)).block, (ad.add (i * 38)).off + 1, none⟩ = some (.int .i64 (fd l i).rc.kind) := by
  obtain ⟨ad, e, hcx, _⟩ := at41 h i hi
  have := pw_cell_below hb (hcx 1 _ rfl)
  rw [add_add, add_field _ _ 1 (by omega)] at this
  exact ⟨ad, e, this⟩
set_option maxRecDepth 10000 in
set_option maxHeartbeats 8000000 in
theorem rolljoin_walk (W : World) (A : Option Addr) (c : Nat) (l : List Found) (hlc : l.length ≤ c) (hC : k41.C W A l.length l) (hG : ∀ x ∈ l, gFound x) (A1 : Option Addr) (c1 : Nat) (m : List Found) (hmc : m.length ≤ c1) (hC1 : k41.C W A1 m.length m) (hG1 : ∀ x ∈ m, gFound x) :
    Calls Try.prog 6 #[.slice A l.length c, .slice A1 m.length c1] W (Holds W) := by
  have HC := Aside0.mk hC
  have HC1 := Aside0.mk hC1
  clear hC hC1 hG hG1
  go_enter Try.func6, Try.ntmps6
  go_wp2_with fail
  refine (awake_calls _).mono ?_
  rintro e w1 ⟨rfl, hb⟩
  have H1 := Aside0.mk hb
  clear hb
  by_cases hb1 : 60 < l.length
  · have hd : decide (60 < (l.length : Int)) = true := by simp; omega
    go_wp2_with fail
    refine (awake_calls _).mono ?_
    rintro e w2 ⟨rfl, hb⟩
    have H2 := Aside0.mk (step_bel H1.out hb)
    clear hb
    go_wp2_with fail
    go_ret
    exact ⟨rfl, H2.out⟩
  · have hd : decide (60 < (l.length : Int)) = false := by simp; omega
    by_cases hb2 : 60 < m.length
    · have hd2 : decide (60 < (m.length : Int)) = true := by simp; omega
      go_wp2_with fail
      refine (awake_calls _).mono ?_
      rintro e w2 ⟨rfl, hb⟩
      have H2 := Aside0.mk (step_bel H1.out hb)
      clear hb
      go_wp2_with fail
      go_ret
      exact ⟨rfl, H2.out⟩
    · have hd2 : decide (60 < (m.length : Int)) = false := by simp; omega
      have hll : l.length ≤ 60 := by omega
      have hml : m.length ≤ 60 := by omega
      clear hb1 hb2
      by_cases h0 : 0 < l.length
      · have hd3 : decide (0 < (l.length : Int)) = true := by simp; omega
        obtain ⟨ad, rfl, hkc⟩ := read41 HC.out H1.out (l.length - 1) (by omega)
        obtain ⟨xk, hxk⟩ : ∃ xk, xk = (fd l (l.length - 1)).rc.kind := ⟨_, rfl⟩
        have HXK := Aside0.mk hxk
        rw [← hxk] at hkc
        clear hxk
        obtain ⟨n, hn⟩ : ∃ n, l.length = n + 1 := ⟨l.length - 1, by omega⟩
        have hns : (l.length : Int) - 1 = (n : Int) := by omega
        have hns2 : (((l.length : Int) - 1)).toNat = l.length - 1 := by omega
        by_cases h3 : xk = 3
        · have e3 : (xk != 3) = false := by simp; omega
          have HJ := Aside0.mk (groups_join l m (fun _ => by rw [← HXK.out]; exact h3))
          clear h3 hn hns
          go_wp2_with (first | ((with_reducible refine gate_dst (N := 38) rfl ?_); refine apps41 rfl (.tmp 36) (.tmp 37) rfl _ [] l (some ad) l.length c rfl rfl (lit0 w1 W.heap.size k41 41 H1.out.size) (Kd.C_alloc (Kd.C_below HC.out H1.out) _) (w0 := W) (below_alloc H1.out _) (below_alloc H1.out _).size (by simp; omega) ?_; intro v2 w2 h21 h22; have HR2 := Aside0.mk h21; have H2 := Aside0.mk h22; clear h21 h22) | ((with_reducible refine gate_dst (N := 40) rfl ?_); refine apps41 rfl (.tmp 38) (.tmp 39) rfl v2 ([] ++ l) m A1 m.length c1 rfl rfl HR2.out (Kd.C_below HC1.out H2.out) (w0 := W) H2.out H2.out.size (by simp; omega) ?_; intro v3 w3 h31 h32; obtain ⟨A3, c3, rfl, hc3, hC3⟩ := Kd.R_reads h31; obtain ⟨q, hq⟩ : ∃ q, q = ([] ++ l ++ m).length := ⟨_, rfl⟩; rw [← hq] at hC3 ⊢; have HQ := Aside0.mk hq; clear hq; have HC3 := Aside0.mk hC3; have H3 := Aside0.mk h32; clear h31 h32 hc3 hC3))
          have HGC := groups_calls w3 A3 c3 ([] ++ l ++ m) (by rw [← HQ.out]; exact HC3.out) (by simp; omega)
          rw [← HQ.out] at HGC
          refine HGC.mono ?_
          rintro e w4 ⟨vb, gb, rfl, hgb, hRb, _, hb⟩
          have H4 := Aside0.mk (step_bel H3.out hb)
          have HGB := Aside0.mk (show gb.map Prod.fst = groups l ++ groups m from hgb.trans HJ.out)
          have HRB := Aside0.mk hRb
          clear hb hgb hRb HC3 H3 H2 HR2 HJ HGC
          go_wp2_with fail
          refine (groups_calls _ (some ad) c l (Kd.C_alloc (Kd.C_below HC.out H4.out) _) (by omega)).mono ?_
          rintro e w5 ⟨v5, g5, rfl, hg5, hR5, _, hb⟩
          have hs5 := hb.size
          have hs4 : w4.heap.size ≤ (w4.alloc (.cells #[] 28)).heap.size := (below_alloc (Below.refl _ _) _).size
          have H5 := Aside0.mk ((below_alloc (Below.refl w4.heap.size w4) (.cells #[] 28)).trans (hb.mono hs4))
          have HL5 := Aside0.mk (Kd.R_below (lit0 w4 w4.heap.size k28 28 (Nat.le_refl _)) hb)
          have HR5 := Aside0.mk hR5
          have HG5 := Aside0.mk hg5
          have hgl5 : g5.length ≤ 60 := by rw [← List.length_map (f := Prod.fst), hg5]; have := groups_le l; omega
          clear hb hg5 hR5
          go_wp2_with (first | ((with_reducible refine gate_dst (N := 45) rfl ?_); refine apps28 rfl (.tmp 42) (.tmp 44) rfl _ [] v5 g5 hs4 rfl rfl HL5.out HR5.out (w0 := w4) H5.out H5.out.size (by simp; omega) ?_; intro v6 w6 h61 h62; have HR6 := Aside0.mk h61; have H6 := Aside0.mk h62; clear h61 h62))
          have hs6 := H6.out.size
          refine (groups_calls _ A1 c1 m (Kd.C_below HC1.out (step_bel H4.out H6.out)) (by omega)).mono ?_
          rintro e w7 ⟨v7, g7, rfl, hg7, hR7, _, hb⟩
          have H7 := Aside0.mk (H6.out.trans (hb.mono H6.out.size))
          have HR6' := Aside0.mk (Kd.R_below HR6.out hb)
          have HR7 := Aside0.mk hR7
          have HG7 := Aside0.mk hg7
          have hgl7 : g7.length ≤ 60 := by rw [← List.length_map (f := Prod.fst), hg7]; have := groups_le m; omega
          clear hb hg7 hR7 HR6 HR5 HL5 hs5 hs4
          go_wp2_with (first | ((with_reducible refine gate_dst (N := 48) rfl ?_); refine apps28 rfl (.tmp 45) (.tmp 47) rfl v6 ([] ++ g5.map Prod.fst) v7 g7 hs6 rfl rfl HR6'.out HR7.out (w0 := w4) H7.out H7.out.size (by simp; omega) ?_; intro v8 w8 h81 h82; have HR8 := Aside0.mk (show RW w8 w4.heap.size v8 (groups l ++ groups m) by rw [← HG5.out, ← HG7.out]; exact h81); have H8 := Aside0.mk h82; clear h81 h82))
          obtain ⟨Ab, cb, rfl, hcb, hCb⟩ := RG.reads2 (Kd.R_below HRB.out H8.out) HGB.out
          obtain ⟨A8, c8, rfl, hc8, hC8⟩ := Kd.R_reads HR8.out
          obtain ⟨q2, hq2⟩ : ∃ q2, q2 = (groups l ++ groups m).length := ⟨_, rfl⟩
          have HSM := Aside0.mk (same15_calls w8 Ab cb A8 c8 (groups l ++ groups m) hCb hcb hC8 hc8)
          have HB8 := Aside0.mk (step_bel H4.out H8.out)
          rw [← hq2] at hcb hCb HSM ⊢
          have HQ2 := Aside0.mk hq2
          have HCb := Aside0.mk hCb
          clear hCb hC8 hc8 hq2 HR8 HR6' HR7 HRB H7 H6 H5
          go_wp2_with fail
          refine HSM.out.mono ?_
          rintro e w9 ⟨rfl, hb⟩
          have HB9 := Aside0.mk (step_bel HB8.out hb)
          have HCb9 := Aside0.mk (Kd.C_below HCb.out hb)
          clear hb HSM HCb HB8
          go_wp2_with fail
          have HU := users_calls w9 Ab cb (groups l ++ groups m) (by rw [← HQ2.out]; exact HCb9.out) (by rw [← HQ2.out]; exact hcb)
          rw [← HQ2.out] at HU
          refine HU.mono ?_
          rintro e w10 ⟨rfl, hb⟩
          rw [users_add]
          have HB10 := Aside0.mk (step_bel HB9.out hb)
          clear hb HU HCb9 HB9
          obtain ⟨ua, hua⟩ : ∃ ua, ua = users (groups l) := ⟨_, rfl⟩
          obtain ⟨ub, hub⟩ : ∃ ub, ub = users (groups m) := ⟨_, rfl⟩
          rw [← hua, ← hub]
          have hua1 : ua ≤ 60 := by rw [hua]; have := users_le (groups l); have := groups_le l; omega
          have hub1 : ub ≤ 60 := by rw [hub]; have := users_le (groups m); have := groups_le m; omega
          have HUA := Aside0.mk hua
          have HUB := Aside0.mk hub
          clear hua hub
          go_wp2_with fail
          refine (groups_calls _ (some ad) c l (Kd.C_below HC.out HB10.out) (by omega)).mono ?_
          rintro e w11 ⟨v11, g11, rfl, hg11, hR11, _, hb⟩
          have HB11 := Aside0.mk (step_bel HB10.out hb)
          obtain ⟨A11, c11, rfl, hc11, hC11⟩ := RG.reads2 hR11 hg11
          have HU11 := Aside0.mk (users_calls w11 A11 c11 (groups l) hC11 hc11)
          obtain ⟨q11, hq11⟩ : ∃ q11, q11 = (groups l).length := ⟨_, rfl⟩
          rw [← hq11, ← HUA.out] at HU11
          rw [← hq11]
          clear hb hg11 hR11 hc11 hC11 hq11
          go_wp2_with fail
          refine HU11.out.mono ?_
          rintro e w12 ⟨rfl, hb⟩
          have HB12 := Aside0.mk (step_bel HB11.out hb)
          clear hb HU11 HB11
          go_wp2_with fail
          refine (groups_calls _ A1 c1 m (Kd.C_below HC1.out HB12.out) (by omega)).mono ?_
          rintro e w13 ⟨v13, g13, rfl, hg13, hR13, _, hb⟩
          have HB13 := Aside0.mk (step_bel HB12.out hb)
          obtain ⟨A13, c13, rfl, hc13, hC13⟩ := RG.reads2 hR13 hg13
          have HU13 := Aside0.mk (users_calls w13 A13 c13 (groups m) hC13 hc13)
          obtain ⟨q13, hq13⟩ : ∃ q13, q13 = (groups m).length := ⟨_, rfl⟩
          rw [← hq13, ← HUB.out] at HU13
          rw [← hq13]
          clear hb hg13 hR13 hc13 hC13 hq13
          go_wp2_with fail
          refine HU13.out.mono ?_
          rintro e w14 ⟨rfl, hb⟩
          have HB14 := Aside0.mk (step_bel HB13.out hb)
          clear hb HU13 HB13
          have huu : (((ua + ub : Nat) : Int) == ((ua : Int) + (ub : Int))) = true := by simp
          go_wp2_with fail
          go_ret
          exact ⟨rfl, HB14.out⟩
        · have e3 : (xk != 3) = true := by simp; omega
          clear h3 hn hns
          go_wp2_with fail
          refine (awake_calls _).mono ?_
          rintro e w2 ⟨rfl, hb⟩
          have H2 := Aside0.mk (step_bel H1.out hb)
          clear hb
          go_wp2_with fail
          go_ret
          exact ⟨rfl, H2.out⟩
      · have hd3 : decide (0 < (l.length : Int)) = false := decide_eq_false (by omega)
        have HJ := Aside0.mk (groups_join l m (fun h => absurd h h0))
        go_wp2_with (first | ((with_reducible refine gate_dst (N := 38) rfl ?_); refine apps41 rfl (.tmp 36) (.tmp 37) rfl _ [] l A l.length c rfl rfl (lit0 w1 W.heap.size k41 41 H1.out.size) (Kd.C_alloc (Kd.C_below HC.out H1.out) _) (w0 := W) (below_alloc H1.out _) (below_alloc H1.out _).size (by simp; omega) ?_; intro v2 w2 h21 h22; have HR2 := Aside0.mk h21; have H2 := Aside0.mk h22; clear h21 h22) | ((with_reducible refine gate_dst (N := 40) rfl ?_); refine apps41 rfl (.tmp 38) (.tmp 39) rfl v2 ([] ++ l) m A1 m.length c1 rfl rfl HR2.out (Kd.C_below HC1.out H2.out) (w0 := W) H2.out H2.out.size (by simp; omega) ?_; intro v3 w3 h31 h32; obtain ⟨A3, c3, rfl, hc3, hC3⟩ := Kd.R_reads h31; obtain ⟨q, hq⟩ : ∃ q, q = ([] ++ l ++ m).length := ⟨_, rfl⟩; rw [← hq] at hC3 ⊢; have HQ := Aside0.mk hq; clear hq; have HC3 := Aside0.mk hC3; have H3 := Aside0.mk h32; clear h31 h32 hc3 hC3))
        have HGC := groups_calls w3 A3 c3 ([] ++ l ++ m) (by rw [← HQ.out]; exact HC3.out) (by simp; omega)
        rw [← HQ.out] at HGC
        refine HGC.mono ?_
        rintro e w4 ⟨vb, gb, rfl, hgb, hRb, _, hb⟩
        have H4 := Aside0.mk (step_bel H3.out hb)
        have HGB := Aside0.mk (show gb.map Prod.fst = groups l ++ groups m from hgb.trans HJ.out)
        have HRB := Aside0.mk hRb
        clear hb hgb hRb HC3 H3 H2 HR2 HJ HGC
        go_wp2_with fail
        refine (groups_calls _ A c l (Kd.C_alloc (Kd.C_below HC.out H4.out) _) (by omega)).mono ?_
        rintro e w5 ⟨v5, g5, rfl, hg5, hR5, _, hb⟩
        have hs5 := hb.size
        have hs4 : w4.heap.size ≤ (w4.alloc (.cells #[] 28)).heap.size := (below_alloc (Below.refl _ _) _).size
        have H5 := Aside0.mk ((below_alloc (Below.refl w4.heap.size w4) (.cells #[] 28)).trans (hb.mono hs4))
        have HL5 := Aside0.mk (Kd.R_below (lit0 w4 w4.heap.size k28 28 (Nat.le_refl _)) hb)
        have HR5 := Aside0.mk hR5
        have HG5 := Aside0.mk hg5
        have hgl5 : g5.length ≤ 60 := by rw [← List.length_map (f := Prod.fst), hg5]; have := groups_le l; omega
        clear hb hg5 hR5
        go_wp2_with (first | ((with_reducible refine gate_dst (N := 45) rfl ?_); refine apps28 rfl (.tmp 42) (.tmp 44) rfl _ [] v5 g5 hs4 rfl rfl HL5.out HR5.out (w0 := w4) H5.out H5.out.size (by simp; omega) ?_; intro v6 w6 h61 h62; have HR6 := Aside0.mk h61; have H6 := Aside0.mk h62; clear h61 h62))
        have hs6 := H6.out.size
        refine (groups_calls _ A1 c1 m (Kd.C_below HC1.out (step_bel H4.out H6.out)) (by omega)).mono ?_
        rintro e w7 ⟨v7, g7, rfl, hg7, hR7, _, hb⟩
        have H7 := Aside0.mk (H6.out.trans (hb.mono H6.out.size))
        have HR6' := Aside0.mk (Kd.R_below HR6.out hb)
        have HR7 := Aside0.mk hR7
        have HG7 := Aside0.mk hg7
        have hgl7 : g7.length ≤ 60 := by rw [← List.length_map (f := Prod.fst), hg7]; have := groups_le m; omega
        clear hb hg7 hR7 HR6 HR5 HL5 hs5 hs4
        go_wp2_with (first | ((with_reducible refine gate_dst (N := 48) rfl ?_); refine apps28 rfl (.tmp 45) (.tmp 47) rfl v6 ([] ++ g5.map Prod.fst) v7 g7 hs6 rfl rfl HR6'.out HR7.out (w0 := w4) H7.out H7.out.size (by simp; omega) ?_; intro v8 w8 h81 h82; have HR8 := Aside0.mk (show RW w8 w4.heap.size v8 (groups l ++ groups m) by rw [← HG5.out, ← HG7.out]; exact h81); have H8 := Aside0.mk h82; clear h81 h82))
        obtain ⟨Ab, cb, rfl, hcb, hCb⟩ := RG.reads2 (Kd.R_below HRB.out H8.out) HGB.out
        obtain ⟨A8, c8, rfl, hc8, hC8⟩ := Kd.R_reads HR8.out
        obtain ⟨q2, hq2⟩ : ∃ q2, q2 = (groups l ++ groups m).length := ⟨_, rfl⟩
        have HSM := Aside0.mk (same15_calls w8 Ab cb A8 c8 (groups l ++ groups m) hCb hcb hC8 hc8)
        have HB8 := Aside0.mk (step_bel H4.out H8.out)
        rw [← hq2] at hcb hCb HSM ⊢
        have HQ2 := Aside0.mk hq2
        have HCb := Aside0.mk hCb
        clear hCb hC8 hc8 hq2 HR8 HR6' HR7 HRB H7 H6 H5
        go_wp2_with fail
        refine HSM.out.mono ?_
        rintro e w9 ⟨rfl, hb⟩
        have HB9 := Aside0.mk (step_bel HB8.out hb)
        have HCb9 := Aside0.mk (Kd.C_below HCb.out hb)
        clear hb HSM HCb HB8
        go_wp2_with fail
        have HU := users_calls w9 Ab cb (groups l ++ groups m) (by rw [← HQ2.out]; exact HCb9.out) (by rw [← HQ2.out]; exact hcb)
        rw [← HQ2.out] at HU
        refine HU.mono ?_
        rintro e w10 ⟨rfl, hb⟩
        rw [users_add]
        have HB10 := Aside0.mk (step_bel HB9.out hb)
        clear hb HU HCb9 HB9
        obtain ⟨ua, hua⟩ : ∃ ua, ua = users (groups l) := ⟨_, rfl⟩
        obtain ⟨ub, hub⟩ : ∃ ub, ub = users (groups m) := ⟨_, rfl⟩
        rw [← hua, ← hub]
        have hua1 : ua ≤ 60 := by rw [hua]; have := users_le (groups l); have := groups_le l; omega
        have hub1 : ub ≤ 60 := by rw [hub]; have := users_le (groups m); have := groups_le m; omega
        have HUA := Aside0.mk hua
        have HUB := Aside0.mk hub
        clear hua hub
        go_wp2_with fail
        refine (groups_calls _ A c l (Kd.C_below HC.out HB10.out) (by omega)).mono ?_
        rintro e w11 ⟨v11, g11, rfl, hg11, hR11, _, hb⟩
        have HB11 := Aside0.mk (step_bel HB10.out hb)
        obtain ⟨A11, c11, rfl, hc11, hC11⟩ := RG.reads2 hR11 hg11
        have HU11 := Aside0.mk (users_calls w11 A11 c11 (groups l) hC11 hc11)
        obtain ⟨q11, hq11⟩ : ∃ q11, q11 = (groups l).length := ⟨_, rfl⟩
        rw [← hq11, ← HUA.out] at HU11
        rw [← hq11]
        clear hb hg11 hR11 hc11 hC11 hq11
        go_wp2_with fail
        refine HU11.out.mono ?_
        rintro e w12 ⟨rfl, hb⟩
        have HB12 := Aside0.mk (step_bel HB11.out hb)
        clear hb HU11 HB11
        go_wp2_with fail
        refine (groups_calls _ A1 c1 m (Kd.C_below HC1.out HB12.out) (by omega)).mono ?_
        rintro e w13 ⟨v13, g13, rfl, hg13, hR13, _, hb⟩
        have HB13 := Aside0.mk (step_bel HB12.out hb)
        obtain ⟨A13, c13, rfl, hc13, hC13⟩ := RG.reads2 hR13 hg13
        have HU13 := Aside0.mk (users_calls w13 A13 c13 (groups m) hC13 hc13)
        obtain ⟨q13, hq13⟩ : ∃ q13, q13 = (groups m).length := ⟨_, rfl⟩
        rw [← hq13, ← HUB.out] at HU13
        rw [← hq13]
        clear hb hg13 hR13 hc13 hC13 hq13
        go_wp2_with fail
        refine HU13.out.mono ?_
        rintro e w14 ⟨rfl, hb⟩
        have HB14 := Aside0.mk (step_bel HB13.out hb)
        clear hb HU13 HB13
        have huu : (((ua + ub : Nat) : Int) == ((ua : Int) + (ub : Int))) = true := by simp
        go_wp2_with fail
        go_ret
        exact ⟨rfl, HB14.out⟩
end Go.Proofs.Ytkkmmbbnaafhlaa.Roll
