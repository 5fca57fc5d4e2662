/- The walks of layer 7: a sector read. -/
import Derived.Test.YtmkkkenpjealdaaLeafRef
namespace Go.Proofs.Ytmkkkenpjealdaa.LeafWalks
set_option linter.unusedSimpArgs false
open Go.RowKit Go.Proofs.YtmkkkenpjealdaaW.PrintWords Go.Proofs.YtmkkkenpjealdaaW.PrintLast Go.Proofs.YtmkkkenpjealdaaW.PrintMore PlainWord CrcPlain PlainSec CrcMem CrcWalks CrcRef Arr SecWord SecMem SecRef

/-- A leaf of which k places are read. -/
def leafSome (p : List Int) (k : Nat) : Leaf := ⟨getN p 1 8, getN p 9 4, upTo (leafOf p).ps k⟩
theorem leafSome_length (p : List Int) (k : Nat) : (leafSome p k).ps.length = 10 := by unfold leafSome; rw [upTo_length, leafOf_length]
theorem leafSome_all (p : List Int) : leafSome p 10 = leafOf p := by
  unfold leafSome
  have := upTo_all (leafOf p).ps
  rw [leafOf_length] at this
  rw [this]; rfl
theorem leafOf_place (p : List Int) (k : Nat) (h : k < 10) : (leafOf p).ps.getD k 0 = getN p ((13 + 4 * k : Nat) : Int) 4 := by
  have : (leafOf p).ps.getD k 0 = getN p (13 + 4 * (k : Int)) 4 := getD_range _ _ _ h
  rw [this]; congr 1
theorem leafOf_wf (p : List Int) (hp : Bytes p) : wfI (leafOf p).ps := by
  intro x hx
  simp only [leafOf, List.mem_map] at hx
  obtain ⟨i, _, rfl⟩ := hx
  have := getN_bound hp (13 + 4 * (i : Int)) 4
  have p4 : (256 : Int) ^ 4 = 4294967296 := by decide
  omega
/-- A place written in a variable that holds a leaf. -/
theorem LB.setPlace {w : World} {g : Nat} {L : Leaf} (h : LB w g L) (k : Nat) (x : Int) : LB (w.setCell ⟨g, 2 + k, none⟩ (.int .i64 x)) g ⟨L.gen, L.idx, L.ps.set k x⟩ := by
  have := h.set (2 + k) (.int .i64 x)
  have e : (leafC L).set (2 + k) (.int .i64 x) = leafC ⟨L.gen, L.idx, L.ps.set k x⟩ := by
    unfold leafC
    rw [List.set_append_right _ _ (by simp)]
    simp only [List.length_cons, List.length_nil]
    rw [show 2 + k - (0 + 1 + 1) = k by omega, encs_set]
  rwa [e] at this
section
variable {ops : Array Oper} {rest : List Oper} {o : Oper} {a : Act} {Q : Exit → Act → World → Prop} {W : World}
theorem build24z (hgd : o.guard = none) (ho : o.op = .build 24 #[]) (h : wpList Try.prog ops Q rest (a.put o.dst (.agg (leafC leaf0).toArray)) W) : wpList Try.prog ops Q (o :: rest) a W :=
  Kd.event_run hgd (by simp only [execOp, ho, List.map_toArray, List.map_nil]; kernel_rfl) h
theorem build24 (hgd : o.guard = none) (x y : Operand) (ho : o.op = .build 24 #[(0, x), (1, y)]) (g i : Int) (hx : a.eval x = .int .i64 g) (hy : a.eval y = .int .i64 i) (h : wpList Try.prog ops Q rest (a.put o.dst (.agg (leafC ⟨g, i, zeros 10⟩).toArray)) W) : wpList Try.prog ops Q (o :: rest) a W :=
  Kd.event_run hgd (by simp only [execOp, ho, List.map_toArray, List.map_cons, List.map_nil, hx, hy]; kernel_rfl) h
end
theorem size28' {l : List Int} (hl : l.length = 64) : (Try.prog.info? 28).map (·.size) = some (encs (Value.int .u8) l).length := by rw [size28]; simp [encs, hl]
theorem eqg28 : Try.prog.eqGuardType Try.prog.depth 28 = false := by kernel_rfl
theorem wf_u8 {l : List Int} (h : Bytes l) : ∀ x ∈ l, (Lit.int .u8 x).wf = true := fun x hx => by
  have := h x hx
  simp [Lit.wf, IntKind.min, IntKind.max, IntKind.signed, IntKind.bits]
  omega
theorem eq28 {l m : List Int} (hl : l.length = 64) (hm : m.length = 64) (bl : Bytes l) (bm : Bytes m) (w : World) : (Op.equal 28 (.agg (encs (Value.int .u8) l).toArray) (.agg (encs (Value.int .u8) m).toArray)).run Try.prog w = .ok (decide (l = m)) w :=
  run_equal_cells (P := Try.prog) (T := 28) (m := 3) (by decide) (by kernel_rfl) Try.underlying28 rfl (by rw [show (encs (Value.int .u8) l).length = 64 by simp [encs, hl]]; kernel_rfl) (by rw [show (encs (Value.int .u8) m).length = 64 by simp [encs, hm]]; kernel_rfl)
    (lits_ints (D := 0) Try.underlying28 Try.underlying5 (by kernel_rfl) (by kernel_rfl) hl (wf_u8 bl)) (lits_ints (D := 0) Try.underlying28 Try.underlying5 (by kernel_rfl) (by kernel_rfl) hm (wf_u8 bm)) (by rw [decide_eq_true_eq, ints_lit_inj]) w
set_option maxHeartbeats 4000000 in
theorem read_calls (w : World) (p : List Int) (hp : Bytes p) (hl : p.length = 64) : Calls Try.prog 24 #[.agg (encs (Value.int .u8) p).toArray] w fun e w' => e = .returned (.tuple #[.agg (leafC (leafRead p).1).toArray, .int .i64 (leafRead p).2]) ∧ Below w.heap.size w w' := by
  have HW := Aside0.mk (Keeps.refl w)
  have HP := Aside0.mk hp
  clear hp
  go_enter Try.func24, Try.ntmps24
  go_wp2_with (first | ((with_reducible refine gate_dst (N := 1) rfl ?_); refine box28 rfl (.tmp 0) rfl p rfl ?_; intro w1 a1 h1 h2 h3; have H1 := Aside0.mk (HW.out.new h3 h2); clear h2 h3) | ((with_reducible refine gate_dst (N := 2) rfl ?_); refine alloc24 rfl rfl ?_; intro w2 a2 h4 h5 h6; have H2 := Aside0.mk (H1.out.new h6 h5); clear h5 h6))
  have hb1 := h1
  have hb2 : w.heap.size ≤ a2 := by have := H1.out.size; omega
  have hne : a1 ≠ a2 := by have := H1.out.head.lt; omega
  have HC := Aside0.mk (BB.readsAll H2.out.tail.head (by rw [hl]; decide))
  rw [hl] at HC
  refine (CrcWalks.right_calls _ _ _ _ _ HC.out (by omega) HP.out (by rw [hl]; decide)).mono ?_
  rintro e w3 ⟨rfl, rfl⟩
  have h24 : (leafC leaf0).length = 12 := rfl
  by_cases hr : rightB p = true
  · rw [hr]
    have hb8 := getN_bound HP.out 1 8
    have hb4 := getN_bound HP.out 9 4
    have p8 : (256 : Int) ^ 8 = 18446744073709551616 := by decide
    have p4 : (256 : Int) ^ 4 = 4294967296 := by decide
    rw [p8] at hb8
    rw [p4] at hb4
    obtain ⟨hb80, hb81⟩ := hb8
    obtain ⟨hb40, hb41⟩ := hb4
    clear p8 p4
    have hc0 := Blk.encAt H2.out.tail.head (0 : Int) 0 (by omega)
    have HL0 := Aside0.mk (show leafSome p 0 = ⟨getN p 1 8, getN p 9 4, zeros 10⟩ by unfold leafSome; rw [upTo_zero, leafOf_length])
    obtain ⟨G, hG⟩ : ∃ G, G = getN p 1 8 := ⟨_, rfl⟩
    obtain ⟨I, hI⟩ : ∃ I, I = getN p 9 4 := ⟨_, rfl⟩
    obtain ⟨m, hm⟩ : ∃ m, m = p.getD 0 0 := ⟨_, rfl⟩
    have hmb := HP.out.getD 0
    rw [← hm] at hc0 hmb
    have HG := Aside0.mk hG
    have HI := Aside0.mk hI
    have HM := Aside0.mk hm
    rw [← hG] at hb80 hb81
    rw [← hI] at hb40 hb41
    rw [← hG, ← hI] at HL0
    clear hG hI hm
    go_wp2_with fail
    refine (get_calls _ 64 64 p _ HC.out HP.out 1 8 (by omega) (by omega) (by omega)).mono ?_
    rintro e w3 ⟨rfl, rfl⟩
    rw [show getN p ((1 : Nat) : Int) 8 = G from HG.out.symm]
    go_wp2_with fail
    refine (get_calls _ 64 64 p _ HC.out HP.out 9 4 (by omega) (by omega) (by omega)).mono ?_
    rintro e w3 ⟨rfl, rfl⟩
    rw [show getN p ((9 : Nat) : Int) 4 = I from HI.out.symm]
    by_cases hbad : m ≠ 128 ∨ 1099511627776 < G
    · have hrd : leafRead p = (leaf0, 7) := by
        unfold leafRead
        rw [if_pos hr, if_neg]
        rintro ⟨e1, e2, _⟩
        obtain ⟨⟨_, e3, _⟩, _⟩ := of_decide_eq_true e2
        rcases hbad with h | h
        · exact h (by rw [HM.out]; exact e1)
        · have : G ≤ 1099511627776 := by rw [HG.out]; exact e3
          omega
      have HR := Aside0.mk hrd
      clear hrd
      by_cases hm1 : m = 128
      · have hd1 : decide (1099511627776 < G) = true := by simp; omega
        have hd2 : ((128 : Int) != 128) = false := rfl
        subst hm1
        clear hbad
        go_wp2_with (first | ((with_reducible refine gate_dst (N := 33) rfl ?_); refine build24z rfl rfl ?_) | ((with_reducible refine gate_store (t := 24) (p := 2) rfl ?_); refine store24 rfl rfl (.tmp 2) (.tmp 33) rfl a2 rfl leaf0 rfl rfl H2.out.head rfl ?_; intro w4 h6 h7 h8; have H3 := Aside0.mk (H2.out.put h7 hb2 (by simp; omega) h6); clear h6 h7))
        refine bodyPost_ret (results_ct rfl _ _ a2 24 _ (0, 0) _ rfl H3.out.head Try.underlying24 rfl (size24' leaf0 rfl)) rfl ?_
        exact ⟨by rw [HR.out]; rfl, H3.out.below⟩
      · have hd2 : (m != 128) = true := by simp; exact hm1
        clear hbad
        go_wp2_with (first | ((with_reducible refine gate_dst (N := 33) rfl ?_); refine build24z rfl rfl ?_) | ((with_reducible refine gate_store (t := 24) (p := 2) rfl ?_); refine store24 rfl rfl (.tmp 2) (.tmp 33) rfl a2 rfl leaf0 rfl rfl H2.out.head rfl ?_; intro w4 h6 h7 h8; have H3 := Aside0.mk (H2.out.put h7 hb2 (by simp; omega) h6); clear h6 h7))
        refine bodyPost_ret (results_ct rfl _ _ a2 24 _ (0, 0) _ rfl H3.out.head Try.underlying24 rfl (size24' leaf0 rfl)) rfl ?_
        exact ⟨by rw [HR.out]; rfl, H3.out.below⟩
    · have hm1 : m = 128 := by omega
      have hG1 : G ≤ 1099511627776 := by omega
      clear hbad
      subst hm1
      have hd1 : decide (1099511627776 < G) = false := by simp; omega
      have hd2 : ((128 : Int) != 128) = false := rfl
      go_wp2_with (first | ((with_reducible refine gate_dst (N := 38) rfl ?_); refine build24 rfl (.tmp 35) (.tmp 37) rfl G I rfl rfl ?_; rw [← HL0.out]) | ((with_reducible refine gate_dst (N := 8) rfl ?_); refine alloc24 rfl rfl ?_; intro w3 a3 h7 h8 h9; have H3 := Aside0.mk (H2.out.new h9 h8); have hb3 : w.heap.size ≤ a3 := (by have := H2.out.size; omega); have hn31 : a2 ≠ a3 := (by have := H2.out.head.lt; omega); have hn32 : a1 ≠ a3 := (by have := H2.out.tail.head.lt; omega); clear h8 h9) | ((with_reducible refine gate_store (t := 24) (p := 8) rfl ?_); refine store24 rfl rfl (.tmp 8) (.tmp 38) rfl a3 rfl (leafSome p 0) rfl (leafSome_length p 0) H3.out.head rfl ?_; intro w4 h10 h11 h12; have H4 := Aside0.mk (H3.out.put h11 hb3 (by simp; omega) h10); clear h10 h11))
      go_loopw [39] (fun i wr => ∃ k : Nat, k ≤ 10 ∧ i = .int .i64 k ∧ Aside0 (Keeps w [(a3, 24, leafC (leafSome p k)), (a2, 24, leafC leaf0), (a1, 28, encs (Value.int .u8) p)] wr)) (fun i _ => 10 - (intOf i).toNat)
      case atStart => exact ⟨0, by omega, rfl, H4⟩
      case round =>
        clear H4 H3 hc0
        obtain ⟨k, hk, rfl, HK⟩ := hrel
        by_cases hlt : k < 10
        · have HC2 := Aside0.mk (BB.readsAll HK.out.tail.tail.head (by rw [hl]; decide))
          rw [hl] at HC2
          have hc := LB.place HK.out.head k (by rw [leafSome_length]; exact hlt)
          have hf := HK.out.head.frozen (2 + k)
          have hb4' := getN_bound HP.out ((13 + 4 * k : Nat) : Int) 4
          have p4 : (256 : Int) ^ 4 = 4294967296 := by decide
          rw [p4] at hb4'
          obtain ⟨hb42, hb43⟩ := hb4'
          obtain ⟨x, hx⟩ : ∃ x, x = getN p ((13 + 4 * k : Nat) : Int) 4 := ⟨_, rfl⟩
          have HX := Aside0.mk hx
          rw [← hx] at hb42 hb43
          clear hx p4
          go_wp2_with fail
          rw [show 13 + 4 * (k : Int) = ((13 + 4 * k : Nat) : Int) by omega]
          refine (get_calls _ 64 64 p _ HC2.out HP.out (13 + 4 * k) 4 (by omega) (by omega) (by omega)).mono ?_
          rintro e w5 ⟨rfl, rfl⟩
          rw [← HX.out]
          go_wp2_with fail
          go_roundw
          case rel => exact ⟨k + 1, by omega, by go_num, ⟨HK.out.put (grown_set _ a3 (2 + k) _) hb3 (by simp; omega) (by
            have := LB.setPlace HK.out.head k x
            have e : (⟨(leafSome p k).gen, (leafSome p k).idx, (leafSome p k).ps.set k x⟩ : Leaf) = leafSome p (k + 1) := by
              unfold leafSome
              have := upTo_succ (leafOf p).ps k (by rw [leafOf_length]; exact hlt)
              rw [leafOf_place p k hlt, ← HX.out] at this
              rw [this]
            rw [e] at this
            exact this)⟩⟩
          case measure => simp [intOf]; omega
        · obtain rfl : k = 10 := by omega
          rw [leafSome_all] at HK
          have hrd : ∀ b : Bool, leafOk (leafOf p) = true → b = decide (leafLay (leafOf p) = p) → leafRead p = if b = true then (leafOf p, 0) else (leaf0, 7) := by
            intro b h1 h2
            unfold leafRead
            rw [if_pos hr, h2]
            by_cases h3 : leafLay (leafOf p) = p
            · rw [if_pos ⟨HM.out.symm, h1, h3⟩, if_pos (by rw [decide_eq_true h3])]
            · rw [if_neg (fun h => h3 h.2.2), if_neg (by rw [decide_eq_false h3]; decide)]
          have hrd0 : leafOk (leafOf p) = false → leafRead p = (leaf0, 7) := by
            intro h
            unfold leafRead
            rw [if_pos hr, if_neg (fun g => by rw [h] at g; exact absurd g.2.1 (by decide))]
          have hll := leafLay_length _ (leafOf_length p)
          have hlb := leafLay_bytes (leafOf p)
          have h10 := leafOf_length p
          have hwf := leafOf_wf p HP.out
          go_wp2_with fail
          cases hok : leafOk (leafOf p)
          · have HR := Aside0.mk (hrd0 hok)
            clear hrd hrd0
            refine wp_region_held_drew (S := (fun w' => Keeps w [(a3, 24, leafC (leafOf p)), (a2, 24, leafC leaf0), (a1, 28, encs (Value.int .u8) p)] w')) (by kernel_rfl) (by exact HK.out.drew) (fun hHeld => ?_)
            refine wpAnyH_tk (i := 0) (v := _) 56 rfl rfl (by kernel_rfl) (by kernel_rfl) (by kernel_rfl) (fun _ _ _ h => h) (yields_load (by rfl) 24 (.tmp 8) rfl a3 rfl (fun _ h => h.head) Try.underlying24 rfl (size24' _ h10)) hHeld ?_
            (try simp only [Act.put, List.setIfInBounds_toArray, List.set_cons_zero, List.set_cons_succ])
            refine wpAnyH_one (i := 1) (by kernel_rfl) rfl (fun K hK => ?_)
            go_simp
            go_wp2_with ((go_at_call 19; refine (right_calls _ (leafOf p) h10 hwf).mono ?_; rintro e wx ⟨rfl, hb⟩; rw [hok]; have hHX := hHeld.step hb))
            refine hK.out _ _ (by exact hHX) (fun hHeld => ?_)
            clear hK K
            refine wpAnyH_tk (i := 2) (v := ?vz1) 58 rfl rfl (by kernel_rfl) (by kernel_rfl) (by kernel_rfl) (fun _ _ _ h => h) (Or.inl ⟨by rfl, ?yz1⟩) hHeld ?rz1
            case yz1 => (intro w hSw; go_simp; try with_reducible rfl)
            (try simp only [Act.put, List.setIfInBounds_toArray, List.set_cons_zero, List.set_cons_succ])
            refine wpAnyH_tk (i := 3) (v := ?vz2) 59 rfl rfl (by kernel_rfl) (by kernel_rfl) (by kernel_rfl) (fun _ _ _ h => h) (Or.inl ⟨by rfl, ?yz2⟩) hHeld ?rz2
            case yz2 => (intro w hSw; go_simp; try with_reducible rfl)
            (try simp only [Act.put, List.setIfInBounds_toArray, List.set_cons_zero, List.set_cons_succ])
            refine wpAnyH_tk (i := 4) (v := undef) 60 rfl rfl (by kernel_rfl) (by kernel_rfl) (by kernel_rfl) (fun _ _ _ h => h) (yields_not (by rfl)) hHeld ?_
            (try simp only [Act.put, List.setIfInBounds_toArray, List.set_cons_zero, List.set_cons_succ])
            refine wpAnyH_tk (i := 5) (v := undef) 61 rfl rfl (by kernel_rfl) (by kernel_rfl) (by kernel_rfl) (fun _ _ _ h => h) (yields_not (by rfl)) hHeld ?_
            (try simp only [Act.put, List.setIfInBounds_toArray, List.set_cons_zero, List.set_cons_succ])
            refine wpAnyH_tk (i := 6) (v := undef) 62 rfl rfl (by kernel_rfl) (by kernel_rfl) (by kernel_rfl) (fun _ _ _ h => h) (yields_not (by rfl)) hHeld ?_
            (try simp only [Act.put, List.setIfInBounds_toArray, List.set_cons_zero, List.set_cons_succ])
            refine wpAnyH_tk (i := 7) (v := undef) 63 rfl rfl (by kernel_rfl) (by kernel_rfl) (by kernel_rfl) (fun _ _ _ h => h) (yields_not (by rfl)) hHeld ?_
            (try simp only [Act.put, List.setIfInBounds_toArray, List.set_cons_zero, List.set_cons_succ])
            refine wpAnyH_tk (i := 8) (v := ?vz3) 64 rfl rfl (by kernel_rfl) (by kernel_rfl) (by kernel_rfl) (fun _ _ _ h => h) (Or.inl ⟨by rfl, ?yz3⟩) hHeld ?rz3
            case yz3 => (intro w hSw; go_simp; try with_reducible rfl)
            (try simp only [Act.put, List.setIfInBounds_toArray, List.set_cons_zero, List.set_cons_succ])
            refine wpAnyH_done (by kernel_rfl) ?_ _
            skip
            go_wp2_with (first | ((with_reducible refine gate_dst (N := 65) rfl ?_); refine build24z rfl rfl ?_) | ((with_reducible refine gate_store (t := 24) (p := 2) rfl ?_); refine store24 rfl rfl (.tmp 2) (.tmp 65) rfl a2 rfl leaf0 rfl rfl hHeld.tail.head rfl ?_; intro w5 h6 h7 h8; have HZ := Aside0.mk (Keeps.put1 hHeld h7 hb2 (by simp; omega) (by simp; omega) h6); clear h6 h7))
            refine bodyPost_ret (results_ct rfl _ _ a2 24 _ (0, 0) _ rfl HZ.out.tail.head Try.underlying24 rfl (size24' leaf0 rfl)) rfl ?_
            exact ⟨by rw [HR.out]; rfl, HZ.out.below⟩
          · obtain ⟨b, hbd⟩ : ∃ b, b = decide (leafLay (leafOf p) = p) := ⟨_, rfl⟩
            have HR := Aside0.mk (hrd b hok hbd)
            have HE := Aside0.mk (eq28 hll hl hlb HP.out)
            rw [← hbd] at HE
            clear hrd hrd0 hbd
            refine wp_region_held_drew (S := (fun w' => Keeps w [(a3, 24, leafC (leafOf p)), (a2, 24, leafC leaf0), (a1, 28, encs (Value.int .u8) p)] w')) (by kernel_rfl) (by exact HK.out.drew) (fun hHeld => ?_)
            refine wpAnyH_tk (i := 0) (v := _) 56 rfl rfl (by kernel_rfl) (by kernel_rfl) (by kernel_rfl) (fun _ _ _ h => h) (yields_load (by rfl) 24 (.tmp 8) rfl a3 rfl (fun _ h => h.head) Try.underlying24 rfl (size24' _ h10)) hHeld ?_
            (try simp only [Act.put, List.setIfInBounds_toArray, List.set_cons_zero, List.set_cons_succ])
            refine wpAnyH_one (i := 1) (by kernel_rfl) rfl (fun K hK => ?_)
            go_simp
            go_wp2_with ((go_at_call 19; refine (right_calls _ (leafOf p) h10 hwf).mono ?_; rintro e wx ⟨rfl, hb⟩; rw [hok]; have hHX := hHeld.step hb))
            refine hK.out _ _ (by exact hHX) (fun hHeld => ?_)
            clear hK K
            refine wpAnyH_tk (i := 2) (v := ?vz4) 58 rfl rfl (by kernel_rfl) (by kernel_rfl) (by kernel_rfl) (fun _ _ _ h => h) (Or.inl ⟨by rfl, ?yz4⟩) hHeld ?rz4
            case yz4 => (intro w hSw; go_simp; try with_reducible rfl)
            (try simp only [Act.put, List.setIfInBounds_toArray, List.set_cons_zero, List.set_cons_succ])
            refine wpAnyH_tk (i := 3) (v := ?vz5) 59 rfl rfl (by kernel_rfl) (by kernel_rfl) (by kernel_rfl) (fun _ _ _ h => h) (Or.inl ⟨by rfl, ?yz5⟩) hHeld ?rz5
            case yz5 => (intro w hSw; go_simp; try with_reducible rfl)
            (try simp only [Act.put, List.setIfInBounds_toArray, List.set_cons_zero, List.set_cons_succ])
            refine wpAnyH_tk (i := 4) (v := _) 60 rfl rfl (by kernel_rfl) (by kernel_rfl) (by kernel_rfl) (fun _ _ _ h => h) (yields_load (by rfl) 24 (.tmp 8) rfl a3 rfl (fun _ h => h.head) Try.underlying24 rfl (size24' _ h10)) hHeld ?_
            (try simp only [Act.put, List.setIfInBounds_toArray, List.set_cons_zero, List.set_cons_succ])
            refine wpAnyH_tk (i := 6) (v := _) 62 rfl rfl (by kernel_rfl) (by kernel_rfl) (by kernel_rfl) (fun _ _ _ h => h) (yields_load (by rfl) 28 (.tmp 1) rfl a1 rfl (fun _ h => h.tail.tail.head) Try.underlying28 rfl (size28' hl)) hHeld ?_
            (try simp only [Act.put, List.setIfInBounds_toArray, List.set_cons_zero, List.set_cons_succ])
            refine wpAnyH_one (i := 5) (by kernel_rfl) rfl (fun K hK => ?_)
            go_simp
            go_wp2_with ((go_at_call 21; refine (lay_calls _ (leafOf p) h10 hok).mono ?_; rintro e wx ⟨rfl, hb⟩; have hHX := hHeld.step hb))
            refine hK.out _ _ (by exact hHX) (fun hHeld => ?_)
            clear hK K
            refine wpAnyH_tk (i := 7) (v := _) 63 rfl rfl (by kernel_rfl) (by kernel_rfl) (by kernel_rfl) (fun _ _ _ h => h) (yields_neq (by rfl) 28 28 (.tmp 61) (.tmp 62) rfl (encs (Value.int .u8) (leafLay (leafOf p))) (encs (Value.int .u8) p) rfl rfl b HE.out eqg28 rfl) hHeld ?_
            (try simp only [Act.put, List.setIfInBounds_toArray, List.set_cons_zero, List.set_cons_succ])
            refine wpAnyH_tk (i := 8) (v := ?vz6) 64 rfl rfl (by kernel_rfl) (by kernel_rfl) (by kernel_rfl) (fun _ _ _ h => h) (Or.inl ⟨by rfl, ?yz6⟩) hHeld ?rz6
            case yz6 => (intro w hSw; go_simp; try with_reducible rfl)
            (try simp only [Act.put, List.setIfInBounds_toArray, List.set_cons_zero, List.set_cons_succ])
            refine wpAnyH_done (by kernel_rfl) ?_ _
            skip
            cases b
            · go_wp2_with (first | ((with_reducible refine gate_dst (N := 65) rfl ?_); refine build24z rfl rfl ?_) | ((with_reducible refine gate_store (t := 24) (p := 2) rfl ?_); refine store24 rfl rfl (.tmp 2) (.tmp 65) rfl a2 rfl leaf0 rfl rfl hHeld.tail.head rfl ?_; intro w5 h6 h7 h8; have HZ := Aside0.mk (Keeps.put1 hHeld h7 hb2 (by simp; omega) (by simp; omega) h6); clear h6 h7))
              refine bodyPost_ret (results_ct rfl _ _ a2 24 _ (0, 0) _ rfl HZ.out.tail.head Try.underlying24 rfl (size24' leaf0 rfl)) rfl ?_
              exact ⟨by rw [HR.out]; rfl, HZ.out.below⟩
            · go_wp2_with (first | ((with_reducible refine gate_dst (N := 66) rfl ?_); refine load24 rfl (.tmp 8) rfl a3 rfl h10 hHeld.head ?_) | ((with_reducible refine gate_store (t := 24) (p := 2) rfl ?_); refine store24 rfl rfl (.tmp 2) (.tmp 66) rfl a2 rfl (leafOf p) rfl h10 hHeld.tail.head rfl ?_; intro w5 h6 h7 h8; have HZ := Aside0.mk (Keeps.put1 hHeld h7 hb2 (by simp; omega) (by simp; omega) h6); clear h6 h7))
              refine bodyPost_ret (results_ct rfl _ _ a2 24 _ (0, 0) _ rfl HZ.out.tail.head Try.underlying24 rfl (size24' (leafOf p) h10)) rfl ?_
              exact ⟨by rw [HR.out]; rfl, HZ.out.below⟩
  · have hr0 : rightB p = false := by simpa using hr
    have hrd : leafRead p = (leaf0, 8) := by unfold leafRead; rw [if_neg hr]
    rw [hr0]
    go_wp2_with (first | ((with_reducible refine gate_dst (N := 15) rfl ?_); refine build24z rfl rfl ?_) | ((with_reducible refine gate_store (t := 24) (p := 2) rfl ?_); refine store24 rfl rfl (.tmp 2) (.tmp 15) rfl a2 rfl leaf0 rfl rfl H2.out.head rfl ?_; intro w4 h6 h7 h8; have H3 := Aside0.mk (H2.out.put h7 hb2 (by simp; omega) h6); clear h6 h7))
    refine bodyPost_ret (results_ct rfl _ _ a2 24 _ (0, 0) _ rfl H3.out.head Try.underlying24 rfl (size24' leaf0 rfl)) rfl ?_
    exact ⟨by rw [hrd]; rfl, H3.out.below⟩
end Go.Proofs.Ytmkkkenpjealdaa.LeafWalks
