/- Layer 7's statements: the answers that the document fixes. -/
import Derived.Test.YtmkkkenpjealdaaLeafRefRead
namespace Go.Proofs.Ytmkkkenpjealdaa.LeafWalks
set_option linter.unusedSimpArgs false
open Go.RowKit Go.Proofs.YtmkkkenpjealdaaW.PrintWords Go.Proofs.YtmkkkenpjealdaaW.PrintLast Go.Proofs.YtmkkkenpjealdaaW.PrintMore PlainWord CrcPlain PlainSec CrcMem CrcWalks CrcRef Arr SecWord SecMem SecRef

/-- A leaf's numbers have their kind. -/
def leafWf (L : Leaf) : Prop := (-9223372036854775808 ≤ L.gen ∧ L.gen ≤ 9223372036854775807) ∧ (-9223372036854775808 ≤ L.idx ∧ L.idx ≤ 9223372036854775807) ∧ wfI L.ps
theorem wf_i64 {x : Int} (h : -9223372036854775808 ≤ x ∧ x ≤ 9223372036854775807) : (Lit.int .i64 x).wf = true := by
  simp [Lit.wf, IntKind.min, IntKind.max, IntKind.signed, IntKind.bits]
  omega
theorem eqg24 : Try.prog.eqGuardType Try.prog.depth 24 = false := by kernel_rfl
theorem lits24 (L : Leaf) (hl : L.ps.length = 10) (hw : leafWf L) : Try.prog.keyLits 4 24 (leafC L) = some ([Lit.int .i64 L.gen, Lit.int .i64 L.idx] ++ L.ps.map (Lit.int .i64)) := by
  obtain ⟨hg, hi, hp⟩ := hw
  have h1 := lits_int (P := Try.prog) (D := 2) (e := 3) (k := .i64) Try.underlying3 (wf_i64 hg)
  have h2 := lits_int (P := Try.prog) (D := 2) (e := 3) (k := .i64) Try.underlying3 (wf_i64 hi)
  have h3 := lits_ints (P := Try.prog) (D := 1) (T := 22) (e := 3) (n := 10) (k := .i64) Try.underlying22 Try.underlying3 (by kernel_rfl) (by kernel_rfl) hl (fun x hx => wf_i64 (hp x hx))
  have hlen : (leafC L).length = Try.prog.cellsOf 24 := by rw [leafC_length L hl]; kernel_rfl
  have c3 : Try.prog.cellsOf 3 = 1 := by kernel_rfl
  have c22 : Try.prog.cellsOf 22 = 10 := by kernel_rfl
  have e1 : ((leafC L).drop 0).take 1 = [Value.int .i64 L.gen] := rfl
  have e2 : ((leafC L).drop 1).take 1 = [Value.int .i64 L.idx] := rfl
  have e3 : ((leafC L).drop 2).take 10 = encs (Value.int .i64) L.ps := by
    show (encs (Value.int .i64) L.ps).take 10 = _
    rw [List.take_of_length_le (by simp [encs, hl])]
  unfold Program.keyLits
  rw [Try.underlying24]
  show (if _ then _ else _) = _
  rw [if_pos ⟨hlen, by decide +kernel⟩]
  simp only [List.mapM_cons, List.mapM_nil, c3, c22]
  rw [e1, e2, e3, h1, h2, h3]
  simp
theorem eq24 {L M : Leaf} (hl : L.ps.length = 10) (hm : M.ps.length = 10) (wl : leafWf L) (wm : leafWf M) {b : Bool} (hb : b = true ↔ L = M) (w : World) : (Op.equal 24 (.agg (leafC L).toArray) (.agg (leafC M).toArray)).run Try.prog w = .ok b w :=
  run_equal_cells (P := Try.prog) (T := 24) (m := 5) (by decide) (by kernel_rfl) Try.underlying24 rfl (by rw [leafC_length L hl]; kernel_rfl) (by rw [leafC_length M hm]; kernel_rfl) (lits24 L hl wl) (lits24 M hm wm) (by
    rw [hb]
    constructor
    · rintro rfl; rfl
    · intro h
      have h0 := h
      simp only [List.cons_append, List.nil_append, List.cons.injEq] at h
      obtain ⟨h1, h2, h3⟩ := h
      have e1 := (Lit.int.inj h1).2
      have e2 := (Lit.int.inj h2).2
      have e3 := ints_lit_inj.1 h3
      cases L; cases M; simp_all) w
theorem leaf0_wf : leafWf leaf0 := ⟨by decide, by decide, fun x hx => by obtain rfl := List.eq_of_mem_replicate hx; decide⟩
theorem leafOk_wf {L : Leaf} (h : leafOk L = true) : leafWf L := by
  obtain ⟨⟨h1, h2, h3, h4⟩, hp⟩ := of_decide_eq_true h
  exact ⟨by omega, by omega, fun x hx => by have := hp x hx; omega⟩
theorem leafOf_wf' (p : List Int) (hp : Bytes p) (h : getN p 1 8 ≤ 9223372036854775807) : leafWf (leafOf p) := by
  have h8 := (getN_bound hp 1 8).1
  have h4 := getN_bound hp 9 4
  have p4 : (256 : Int) ^ 4 = 4294967296 := by decide
  exact ⟨⟨by show _ ≤ getN p 1 8; omega, h⟩, ⟨by show _ ≤ getN p 9 4; omega, by show getN p 9 4 ≤ _; omega⟩, leafOf_wf p hp⟩
theorem leafRead_wf (p : List Int) : leafWf (leafRead p).1 ∧ (leafRead p).1.ps.length = 10 := by
  unfold leafRead
  split
  · split
    · rename_i h
      exact ⟨leafOk_wf h.2.1, leafOf_length p⟩
    · exact ⟨leaf0_wf, rfl⟩
  · exact ⟨leaf0_wf, rfl⟩
def leaf1 : Leaf := ⟨3, 2, 258 :: zeros 9⟩
theorem leaf1_ok : leafOk leaf1 = true := by decide +kernel
theorem right_zeros : rightB (zeros 64) = false := by decide +kernel
section
variable {ops : Array Oper} {rest : List Oper} {o : Oper} {a : Act} {Q : Exit → Act → World → Prop} {W : World}
theorem build28z (hgd : o.guard = none) (ho : o.op = .build 28 #[]) (h : wpList Try.prog ops Q rest (a.put o.dst (.agg (encs (Value.int .u8) (zeros 64)).toArray)) W) : wpList Try.prog ops Q (o :: rest) a W :=
  Kd.event_run hgd (by simp only [execOp, ho, List.map_toArray, List.map_nil]; kernel_rfl) h
end
set_option maxHeartbeats 2000000 in
theorem awake_calls (w : World) : Calls Try.prog 18 #[] w fun e w' => e = .returned (.bool true) ∧ Below w.heap.size w w' := by
  have HW := Aside0.mk (Keeps.refl w)
  have hl1 : leaf1.ps.length = 10 := rfl
  have hok := leaf1_ok
  have hll := leafLay_length leaf1 hl1
  have hlb := leafLay_bytes leaf1
  have hrd := leafRead_lay leaf1 hl1 hok
  have hrz : leafRead (zeros 64) = (leaf0, 8) := by unfold leafRead; rw [right_zeros]; rfl
  have hz64 := zeros_length 64
  have hzb := zeros_bytes 64
  obtain ⟨L, hL⟩ : ∃ L, L = leaf1 := ⟨_, rfl⟩
  obtain ⟨Z, hZ⟩ : ∃ Z, Z = zeros 64 := ⟨_, rfl⟩
  have hwf : leafWf L := by rw [hL]; exact leafOk_wf hok
  have hg : ∀ i v, (leafLay leaf1).getD i 0 = v → (leafLay L).getD i 0 = v := by rw [hL]; exact fun _ _ h => h
  have p0 := hg 0 128 (by decide +kernel)
  have p1 := hg 1 3 (by decide +kernel)
  have p9 := hg 9 2 (by decide +kernel)
  have p13 := hg 13 2 (by decide +kernel)
  have p14 := hg 14 1 (by decide +kernel)
  have HL := Aside0.mk hL
  have HZ := Aside0.mk hZ
  rw [← hL] at hl1 hok hll hlb hrd
  rw [← hZ] at hrz hz64 hzb
  have HRD := Aside0.mk hrd
  have HRZ := Aside0.mk hrz
  have HOK := Aside0.mk hok
  have HE := Aside0.mk (eq24 hl1 hl1 hwf hwf (b := true) (by simp))
  clear hL hZ hrd hrz hok hg
  go_enter Try.func18, Try.ntmps18
  go_wp2_with (first | ((with_reducible refine gate_dst (N := 1) rfl ?_); refine alloc24 rfl rfl ?_; intro w1 a1 h1 h2 h3; have H1 := Aside0.mk (HW.out.new h3 h2); clear h2 h3) | ((with_reducible refine gate_store (t := 24) (p := 1) rfl ?_); refine store24 rfl rfl (.tmp 1) (.tmp 8) rfl a1 rfl L (by rw [HL.out]; rfl) hl1 H1.out.head rfl ?_; intro w2 h4 h5 h6; have H2 := Aside0.mk (H1.out.put h5 h1 (by simp) h4); clear h4 h5) | ((with_reducible refine gate_dst (N := 9) rfl ?_); refine load24 rfl (.tmp 1) rfl a1 rfl hl1 H2.out.head ?_))
  refine (lay_calls w2 L hl1 HOK.out).mono ?_
  rintro e w3 ⟨rfl, hb⟩
  have H3 := Aside0.mk (H2.out.step hb)
  clear hb H2 H1
  go_wp2_with (first | ((with_reducible refine gate_dst (N := 2) rfl ?_); refine alloc28 rfl rfl ?_; intro w4 a2 h7 h8 h9; obtain ⟨Y, hY⟩ : ∃ Y : List Int, Y = zeros 64 := ⟨_, rfl⟩; rw [← hY] at h8; have hYl : Y.length = 64 := (by rw [hY, zeros_length]); clear hY; have H4 := Aside0.mk (H3.out.new h9 h8); have hb2 : w.heap.size ≤ a2 := Nat.le_trans H3.out.size h7; have hn2 : a1 ≠ a2 := (by have := H3.out.head.lt; omega); clear h8 h9) | ((with_reducible refine gate_store (t := 28) (p := 2) rfl ?_); refine store28 rfl rfl (.tmp 2) (.tmp 10) rfl a2 rfl (leafLay L) rfl hll H4.out.head hYl ?_; intro w5 h10 h11 h12; have H5 := Aside0.mk (H4.out.put h11 hb2 (by simp; omega) h10); clear h10 h11) | ((with_reducible refine gate_dst (N := 12) rfl ?_); refine load28 rfl (.tmp 2) rfl a2 rfl H5.out.head hll ?_))
  refine (read_calls w5 (leafLay L) hlb hll).mono ?_
  rintro e w6 ⟨rfl, hb⟩
  rw [HRD.out]
  have H6 := Aside0.mk (H5.out.step hb)
  clear hb H5 H4 H3
  go_wp2_with (first | ((with_reducible refine gate_dst (N := 3) rfl ?_); refine alloc24 rfl rfl ?_; intro w7 a3 h7 h8 h9; have H7 := Aside0.mk (H6.out.new h9 h8); have hb3 : w.heap.size ≤ a3 := Nat.le_trans H6.out.size h7; have hn3 : a1 ≠ a3 := (by have := H6.out.tail.head.lt; omega); have hn4 : a2 ≠ a3 := (by have := H6.out.head.lt; omega); clear h8 h9) | ((with_reducible refine gate_store (t := 24) (p := 3) rfl ?_); refine store24 rfl rfl (.tmp 3) (.tmp 14) rfl a3 rfl L rfl hl1 H7.out.head rfl ?_; intro w8 h10 h11 h12; have H8 := Aside0.mk (H7.out.put h11 hb3 (by simp; omega) h10); clear h10 h11) | ((with_reducible refine gate_dst (N := 17) rfl ?_); refine build28z rfl rfl ?_; rw [← HZ.out]))
  refine (read_calls w8 Z hzb hz64).mono ?_
  rintro e w9 ⟨rfl, hb⟩
  rw [HRZ.out]
  have H9 := Aside0.mk (H8.out.step hb)
  clear hb H8 H7 H6
  go_wp2_with (first | ((with_reducible refine gate_dst (N := 5) rfl ?_); refine alloc24 rfl rfl ?_; intro w10 a4 h7 h8 h9; have H10 := Aside0.mk (H9.out.new h9 h8); have hb4 : w.heap.size ≤ a4 := Nat.le_trans H9.out.size h7; have hn5 : a1 ≠ a4 := (by have := H9.out.tail.tail.head.lt; omega); have hn6 : a2 ≠ a4 := (by have := H9.out.tail.head.lt; omega); have hn7 : a3 ≠ a4 := (by have := H9.out.head.lt; omega); clear h8 h9) | ((with_reducible refine gate_store (t := 24) (p := 5) rfl ?_); refine store24 rfl rfl (.tmp 5) (.tmp 19) rfl a4 rfl leaf0 rfl rfl H10.out.head rfl ?_; intro w11 h10 h11 h12; have H11 := Aside0.mk (H10.out.put h11 hb4 (by simp; omega) h10).tail; clear h10 h11) | ((with_reducible refine gate_dst (N := 21) rfl ?_); refine load24 rfl (.tmp 1) rfl a1 rfl hl1 H11.out.tail.tail.head ?_))
  refine (right_calls w11 L hl1 hwf.2.2).mono ?_
  rintro e w12 ⟨rfl, hb⟩
  rw [HOK.out]
  have H12 := Aside0.mk (H11.out.step hb)
  clear hb H11 H10 H9
  have hc : ∀ i, i < 64 → w12.cell? ⟨a2, i, none⟩ = some (.int .u8 ((leafLay L).getD i 0)) := fun i hi => Blk.encAt H12.out.tail.head (0 : Int) i (by omega)
  have c0 := hc 0 (by omega)
  have c1 := hc 1 (by omega)
  have c9 := hc 9 (by omega)
  have c13 := hc 13 (by omega)
  have c14 := hc 14 (by omega)
  rw [p0] at c0
  rw [p1] at c1
  rw [p9] at c9
  rw [p13] at c13
  rw [p14] at c14
  clear hc p0 p1 p9 p13 p14
  go_wp2_with (first | ((with_reducible refine gate_dst (N := 53) rfl ?_); refine gate_guard (by rfl) ?_; refine load24 (L := L) rfl (.tmp 3) rfl a3 rfl hl1 H12.out.head ?_) | ((with_reducible refine gate_dst (N := 54) rfl ?_); refine gate_guard (by rfl) ?_; refine load24 (L := L) rfl (.tmp 1) rfl a1 rfl hl1 H12.out.tail.tail.head ?_) | ((with_reducible refine gate_dst (N := 55) rfl ?_); refine gate_guard (by rfl) ?_; refine wpl_eql rfl 24 24 (.tmp 53) (.tmp 54) rfl (leafC L) (leafC L) rfl rfl true HE.out eqg24 rfl ?_))
  go_ret
  exact ⟨rfl, H12.out.below⟩
end Go.Proofs.Ytmkkkenpjealdaa.LeafWalks
