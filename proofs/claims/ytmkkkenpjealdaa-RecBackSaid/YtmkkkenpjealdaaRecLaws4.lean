/- The walks of layer 6's statements: RecBack. -/
import Derived.Test.YtmkkkenpjealdaaRecLaws3
namespace Go.Proofs.Ytmkkkenpjealdaa.RecLaws
set_option linter.unusedSimpArgs false
set_option linter.unusedVariables false
open Go.RowKit Go.Proofs.YtmkkkenpjealdaaW.PrintWords Go.Proofs.YtmkkkenpjealdaaW.PrintLast Go.Proofs.YtmkkkenpjealdaaW.PrintMore PlainWord CrcPlain PlainSec CrcMem CrcWalks CrcRef Arr SecWord SecMem SecRef LeafWalks PageLaws RecWalks

theorem dec51 : Dec.Dec Try.prog 51 (Dec.ints .u8 4) (fun l => ∀ x ∈ l, (Lit.int .u8 x).wf = true) := Dec.dec_ints Try.underlying51 Try.underlying5 (by kernel_rfl) (by kernel_rfl)
theorem four_cells {w : World} {p : List Int} {cs : Array Value} (h : (Dec.ints .u8 4).K w p cs.toList) : cs = (encs (Value.int .u8) p).toArray ∧ p.length = 4 := by
  obtain ⟨h1, h2⟩ := h
  exact ⟨by cases cs; simp at h2; rw [h2]; rfl, h1⟩
/-- A sector, n bytes of it from k on turned by others. -/
def burstL (p s : List Int) (k n : Nat) : List Int := (List.range p.length).map fun j => if k ≤ j ∧ j < k + n then xor8 (p.getD j 0) (s.getD (j - k) 0) else p.getD j 0
theorem burstL_length (p s : List Int) (k n : Nat) : (burstL p s k n).length = p.length := by simp [burstL]
theorem burstL_getD (p s : List Int) (k n j : Nat) (h : j < p.length) : (burstL p s k n).getD j 0 = if k ≤ j ∧ j < k + n then xor8 (p.getD j 0) (s.getD (j - k) 0) else p.getD j 0 := getD_range _ _ _ h
theorem burstL_zero (p s : List Int) (k : Nat) : burstL p s k 0 = p := by
  apply ext_getD (burstL_length _ _ _ _)
  intro j hj
  rw [burstL_length] at hj
  rw [burstL_getD _ _ _ _ _ hj, if_neg (by omega)]
theorem burstL_next (p s : List Int) (k n : Nat) (h : k + n < p.length) : (burstL p s k n).getD (k + n) 0 = p.getD (k + n) 0 := by
  rw [burstL_getD _ _ _ _ _ h, if_neg (by omega)]
theorem burstL_succ (p s : List Int) (k n : Nat) (h : k + n < p.length) : (burstL p s k n).set (k + n) (xor8 (p.getD (k + n) 0) (s.getD n 0)) = burstL p s k (n + 1) := by
  apply ext_getD (by simp [burstL_length])
  intro j hj
  rw [List.length_set, burstL_length] at hj
  rw [getD_set _ _ _ _ (by rw [burstL_length]; exact h), burstL_getD _ _ _ _ _ hj, burstL_getD _ _ _ _ _ hj]
  by_cases e : k + n = j
  · rw [if_pos e, if_pos (by omega), ← e, show k + n - k = n by omega]
  · rw [if_neg e]
    by_cases h1 : k ≤ j ∧ j < k + n
    · rw [if_pos h1, if_pos (by omega)]
    · rw [if_neg h1, if_neg (by omega)]
theorem burstL_bytes {p : List Int} (hp : Bytes p) (s : List Int) (k n : Nat) : Bytes (burstL p s k n) := by
  intro y hy
  simp only [burstL, List.mem_map] at hy
  obtain ⟨j, _, rfl⟩ := hy
  split
  · exact xor8_bound _ _
  · exact hp.getD _
/-- Of a sector that is right, with some bytes turned, nothing is read. -/
theorem recRead_burst (p s : List Int) (hp : Bytes p) (hl : p.length = 64) (hr : rightB p = true) (k : Nat) (hk : k ≤ 60) (hne : burstL p s k 4 ≠ p) : recRead (burstL p s k 4) = (rec0, 8) := by
  have hb := right_tears hp (burstL_bytes hp s k 4) hl (by rw [burstL_length, hl]) hr k (by omega) (fun i hi => by
    by_cases h : i < p.length
    · rw [burstL_getD _ _ _ _ _ h, if_neg (by omega)]
    · rw [List.getD_eq_getElem?_getD, List.getD_eq_getElem?_getD, List.getElem?_eq_none (by omega), List.getElem?_eq_none (by rw [burstL_length]; omega)]) hne
  unfold recRead
  rw [if_neg (by rw [hb]; decide)]
section
variable {ops : Array Oper} {o : Oper} {a : Act} {Q : Exit → Act → World → Prop} {W : World}
/-- A cell read, in a region that draws, the world being known. -/
theorem step_read {P : Program} {Kc : Act → World → Prop} (N : Tmp) (hd : o.dst = some N) (T : TypeId) (p : Operand) (ho : o.op = .load T p) (ad : Addr) (hp : a.eval p = .pointer (some ad)) {v : Value} (hc : W.cell? ad = some v) {d : TypeDesc} (hu : P.underlying T = some d) (hwd : wideT d = false)
    (h : Kc (a.put (some N) v) W) : Oper.wp P o a W Kc Q := by
  have h2 : (isAgg T).run P W = .ok false W := by rw [run_isAgg hu, hwd]
  have hrun : (execOp a.eval o).run P W = .ok (.value v) W := by
    unfold execOp
    simp only [ho, hp, Instr.loadAt, Instr.sureAddr, Sem.run_bind, Sem.run_pure, Result.andThen_ok, loadVar, h2]
    simp [hc]
  unfold Oper.wp
  rw [hrun]
  show Kc (a.put o.dst v) _
  rw [hd]
  exact h
/-- A cell written, in a region that draws. -/
theorem step_cell {P : Program} {Kc : Act → World → Prop} (hN : o.dst = none) (T : TypeId) (p x : Operand) (ho : o.op = .store T p x) (g i : Nat) (hp : a.eval p = .pointer (some ⟨g, i, none⟩)) (v : Value) (hx : a.eval x = v) (h1 : v.oneCell' = true)
    (hi : (P.info? T).map (·.size) = some 1) {t : TypeId} {cs : List Value} (hb : Blk W g t cs) (hfit : i < cs.length)
    (h : Kc a (W.setCell ⟨g, i, none⟩ v)) : Oper.wp P o a W Kc Q := by
  obtain ⟨ii, hii, his⟩ := Option.map_eq_some_iff.1 hi
  have hc : v.cells = #[v] := by
    unfold Value.cells
    cases v <;> simp_all [Value.oneCell']
  have hst : (storeCells (⟨g, i, none⟩ : Addr) [v]).run P W = .ok () (W.setCell ⟨g, i, none⟩ v) := by
    have h2 : W.cell? ⟨g, i, none⟩ = some cs[i] := hb.cell (by rw [List.getElem?_eq_getElem hfit])
    have h3 := hb.frozen i
    have := run_storeCells_cells (P := P) g i [v] 0 W (fun j hj => by
      obtain rfl : j = 0 := by simp at hj; omega
      simp only [Nat.add_zero]
      rw [h2]; rfl) (fun j hj => by
      obtain rfl : j = 0 := by simp at hj; omega
      simpa using h3) (by simpa using h1)
    simpa [World.setCells] using this
  have hrun : (execOp a.eval o).run P W = .ok .skip (W.setCell ⟨g, i, none⟩ v) := by
    simp [execOp, ho, hp, hx, Instr.storeAt, Instr.sureAddr, storeVar, sizeOf, typeInfo, hii, his, hc, hst]
  unfold Oper.wp
  rw [hrun]
  have e2 : a.put o.dst undef = a := by rw [hN]; rfl
  show Kc (a.put o.dst undef) _
  rw [e2]
  exact h
end
section
variable {ops : Array Oper} {rest : List Oper} {o : Oper} {a : Act} {Q : Exit → Act → World → Prop} {W : World}
theorem box51 (hgd : o.guard = none) (x : Operand) (ho : o.op = .box 51 x) (l : List Int) (hx : a.eval x = .agg (encs (Value.int .u8) l).toArray) (h : ∀ w1 g, W.heap.size ≤ g → BB w1 g 51 l → W.grownBy w1 none → wpList Try.prog ops Q rest (a.put o.dst (.pointer (some ⟨g, 0, none⟩))) w1) : wpList Try.prog ops Q (o :: rest) a W :=
  wpl_box hgd 51 x ho _ hx _ rfl h
end
set_option maxRecDepth 10000 in
set_option maxHeartbeats 4000000 in
theorem back_walk (W : World) (L : Rec) (cs : Array Value) (hK : kRec.K W L cs.toList) (hG : gRec L) (t : Int) (ht : (Lit.int .u8 t).wf = true) (S : List Int) (cs' : Array Value) (hK' : (Dec.ints .u8 4).K W S cs'.toList) (hG' : ∀ x ∈ S, (Lit.int .u8 x).wf = true) : Calls Try.prog 9 #[.agg cs, .int .u8 t, .agg cs'] W (Holds W) := by
  obtain ⟨rfl, hl⟩ := rec_cells hK
  obtain ⟨rfl, hs⟩ := four_cells hK'
  have hw := rec_wf hG
  have hld := hw.data
  have ht2 : 0 ≤ t ∧ t ≤ 255 := by
    have := Bytes.of_wf (l := [t]) (by simpa using ht)
    exact this t (by simp)
  have HS := Aside0.mk (Bytes.of_wf hG')
  have HW := Aside0.mk (Keeps.refl W)
  clear hK hG hK' hG' ht
  go_enter Try.func9, Try.ntmps9
  go_wp2_with (first | ((with_reducible refine gate_dst (N := 3) rfl ?_); refine box43 rfl (.tmp 0) rfl L rfl ?_; intro w1 a1 h1 h2 h3; have H1 := Aside0.mk (HW.out.new h3 h2); clear h2 h3) | ((with_reducible refine gate_dst (N := 5) rfl ?_); refine box51 rfl (.tmp 2) rfl S rfl ?_; intro w2 a2 h4 h5 h6; have H2 := Aside0.mk (H1.out.new h6 h5); have hn := (show a1 ≠ a2 by have := H1.out.head.lt; omega); have hb2 : W.heap.size ≤ a2 := Nat.le_trans H1.out.size h4; clear h5 h6))
  refine (RecWalks.awake_calls _).mono ?_
  rintro e w3 ⟨rfl, hb⟩
  have H3 := Aside0.mk (H2.out.step hb)
  clear hb H2 H1
  go_wp2_with ((with_reducible refine gate_dst (N := 18) rfl ?_); refine gate_guard (by rfl) ?_; refine load43 (r := L) rfl (.tmp 3) rfl a1 rfl hl H3.out.tail.head ?_)
  refine (RecWalks.right_calls _ L hl hld).mono ?_
  rintro e w4 ⟨rfl, hb⟩
  have H4 := Aside0.mk (H3.out.step hb)
  clear hb H3
  cases hbl : recOk L
  · go_wp2_with fail
    refine (RecWalks.awake_calls _).mono ?_
    rintro e w5 ⟨rfl, hb⟩
    have H5 := Aside0.mk (H4.out.step hb)
    clear hb
    go_wp2_with fail
    go_ret
    exact ⟨rfl, H5.out.below⟩
  · have hll := recLay_length L hl
    have HLB := Aside0.mk (recLay_bytes L hld)
    have HBL := Aside0.mk hbl
    have HRD := Aside0.mk (recRead_lay L hl hld hbl)
    have HRR := Aside0.mk (recLay_right L hld)
    have HE1 := Aside0.mk (eq43 hl hl hw hw (b := true) (by simp))
    clear hbl
    go_wp2_with ((with_reducible refine gate_dst (N := 23) rfl ?_); refine load43 (r := L) rfl (.tmp 3) rfl a1 rfl hl H4.out.tail.head ?_)
    refine (RecWalks.lay_calls _ L hl hld HBL.out).mono ?_
    rintro e w5 ⟨rfl, hb⟩
    have H5 := Aside0.mk (H4.out.step hb)
    clear hb H4
    obtain ⟨p, hp⟩ : ∃ p, p = recLay L := ⟨_, rfl⟩
    rw [← hp] at hll HLB HRD HRR
    rw [← hp]
    clear hp
    go_wp2_with (first | ((with_reducible refine gate_dst (N := 7) rfl ?_); refine alloc28 rfl rfl ?_; intro w6 a3 h7 h8 h9; obtain ⟨Y, hY⟩ : ∃ Y : List Int, Y = zeros 64 := ⟨_, rfl⟩; rw [← hY] at h8; have hYl : Y.length = 64 := (by rw [hY, zeros_length]); clear hY; have H6 := Aside0.mk (H5.out.new h9 h8); have hb3 : W.heap.size ≤ a3 := Nat.le_trans H5.out.size h7; have hn3 : a1 ≠ a3 := (by have := H5.out.tail.head.lt; omega); have hn4 : a2 ≠ a3 := (by have := H5.out.head.lt; omega); clear h8 h9) | ((with_reducible refine gate_store (t := 28) (p := 7) rfl ?_); refine store28 rfl rfl (.tmp 7) (.tmp 24) rfl a3 rfl p rfl hll H6.out.head hYl ?_; intro w7 h10 h11 h12; have H7 := Aside0.mk (H6.out.put h11 hb3 (by simp; omega) h10); clear h10 h11) | ((with_reducible refine gate_dst (N := 26) rfl ?_); refine load28 rfl (.tmp 7) rfl a3 rfl H7.out.head hll ?_))
    refine (RecWalks.read_calls _ p HLB.out hll).mono ?_
    rintro e w8 ⟨rfl, hb⟩
    rw [HRD.out]
    have H8 := Aside0.mk (H7.out.step hb)
    clear hb H7 H6 H5
    go_wp2_with (first | ((with_reducible refine gate_dst (N := 8) rfl ?_); refine alloc43 rfl rfl ?_; intro w9 a4 h7 h8 h9; have H9 := Aside0.mk (H8.out.new h9 h8); have hb4 : W.heap.size ≤ a4 := Nat.le_trans H8.out.size h7; have hn5 : a1 ≠ a4 := (by have := H8.out.tail.tail.head.lt; omega); have hn6 : a2 ≠ a4 := (by have := H8.out.tail.head.lt; omega); have hn7 : a3 ≠ a4 := (by have := H8.out.head.lt; omega); clear h8 h9) | ((with_reducible refine gate_store (t := 43) (p := 8) rfl ?_); refine store43 rfl rfl (.tmp 8) (.tmp 28) rfl a4 rfl L rfl hl H9.out.head rfl ?_; intro w10 h10 h11 h12; have H10 := Aside0.mk (H9.out.put h11 hb4 (by simp; omega) h10); clear h10 h11) | ((with_reducible refine gate_dst (N := 30) rfl ?_); refine load28 rfl (.tmp 7) rfl a3 rfl H10.out.tail.head hll ?_) | ((with_reducible refine gate_dst (N := 10) rfl ?_); refine alloc28 rfl rfl ?_; intro w11 a5 h7 h8 h9; obtain ⟨Y2, hY2⟩ : ∃ Y : List Int, Y = zeros 64 := ⟨_, rfl⟩; rw [← hY2] at h8; have hY2l : Y2.length = 64 := (by rw [hY2, zeros_length]); clear hY2; have H11 := Aside0.mk (H10.out.new h9 h8); have hb5 : W.heap.size ≤ a5 := Nat.le_trans H10.out.size h7; have hn8 : a1 ≠ a5 := (by have := H10.out.tail.tail.tail.head.lt; omega); have hn9 : a2 ≠ a5 := (by have := H10.out.tail.tail.head.lt; omega); have hn10 : a3 ≠ a5 := (by have := H10.out.tail.head.lt; omega); have hn11 : a4 ≠ a5 := (by have := H10.out.head.lt; omega); clear h8 h9) | ((with_reducible refine gate_store (t := 28) (p := 10) rfl ?_); refine store28 rfl rfl (.tmp 10) (.tmp 30) rfl a5 rfl p rfl hll H11.out.head hY2l ?_; intro w12 h10 h11 h12; have H12 := Aside0.mk (H11.out.put h11 hb5 (by simp; omega) h10); clear h10 h11))
    obtain ⟨k, hk⟩ : ∃ k : Nat, t % 61 = k := ⟨(t % 61).toNat, by omega⟩
    have hk60 : k ≤ 60 := by omega
    rw [hk]
    clear hk ht2 H8 H9 H10 H11
    go_loopw [12] (fun i wr => ∃ n : Nat, n ≤ 4 ∧ i = .int .i64 n ∧ Aside0 (Keeps W [(a5, 28, encs (Value.int .u8) (burstL p S k n)), (a4, 43, recC L), (a3, 28, encs (Value.int .u8) p), (a2, 51, encs (Value.int .u8) S), (a1, 43, recC L)] wr)) (fun i _ => 4 - (intOf i).toNat)
    case atStart => exact ⟨0, by omega, rfl, ⟨by rw [burstL_zero]; exact H12.out⟩⟩
    case round =>
      clear H12
      obtain ⟨n, hn4', rfl, HK⟩ := hrel
      by_cases hlt : n < 4
      · have HSU := Aside0.mk (burstL_succ p S k n (by omega))
        have HNX := Aside0.mk (burstL_next p S k n (by omega))
        have hbl := burstL_length p S k n
        have HXD := Aside0.mk (show ∀ x y : Int, Go.bits .xor .u8 x y = xor8 x y from fun _ _ => rfl)
        obtain ⟨x, hx⟩ : ∃ x, x = p.getD (k + n) 0 := ⟨_, rfl⟩
        obtain ⟨y, hy⟩ : ∃ y, y = S.getD n 0 := ⟨_, rfl⟩
        rw [← hx, ← hy] at HSU
        rw [← hx] at HNX
        have HY := Aside0.mk hy
        clear hx hy
        go_upto_region 10 with (fail)
        have HC1 := Aside0.mk (show wr.drew.cell? ⟨a5, k + n, none⟩ = some (.int .u8 x) by have := Blk.encAt HK.out.drew.head (0 : Int) (k + n) (by omega); rwa [HNX.out] at this)
        have HC2 := Aside0.mk (show wr.drew.cell? ⟨a2, n, none⟩ = some (.int .u8 y) by have := Blk.encAt HK.out.drew.tail.tail.tail.head (0 : Int) n (by omega); rwa [← HY.out] at this)
        obtain ⟨j, hj⟩ : ∃ j, j = k + n := ⟨_, rfl⟩
        have hj64 : j < 64 := by omega
        have HWR := Aside0.mk (show IntKind.i64.wrap ((k : Int) + (n : Int)) = (j : Int) by rw [IntKind.wrap_i64]; omega)
        rw [← hj] at HC1 HSU
        have HJ := Aside0.mk hj
        clear hj
        refine wp_region_held_drew (S := (fun w' => Keeps W [] w')) (by kernel_rfl) (by exact HK.out.drew.tail.tail.tail.tail.tail) (fun hHeld => ?_)
        refine wpAnyH_tk (i := 0) (v := ?vz1) 38 rfl rfl (by kernel_rfl) (by kernel_rfl) (by kernel_rfl) (fun _ _ _ h => h) (Or.inl ⟨by rfl, ?yz1⟩) hHeld ?rz1
        case yz1 => (intro w hSw; go_simp; try with_reducible rfl)
        (try simp only [Act.put, List.setIfInBounds_toArray, List.set_cons_zero, List.set_cons_succ])
        refine wpAnyH_tk (i := 1) (v := ?vz2) 39 rfl rfl (by kernel_rfl) (by kernel_rfl) (by kernel_rfl) (fun _ _ _ h => h) (Or.inl ⟨by rfl, ?yz2⟩) hHeld ?rz2
        case yz2 => (intro w hSw; go_simp; try with_reducible rfl)
        (try simp only [Act.put, List.setIfInBounds_toArray, List.set_cons_zero, List.set_cons_succ])
        refine wpAnyH_tk (i := 2) (v := _) 40 rfl rfl (by kernel_rfl) (by kernel_rfl) (by kernel_rfl) (fun _ _ _ h => h) (show YieldsIf Try.prog _ _ _ (.int .i64 (j : Int)) _ from Or.inl ⟨(by rfl), fun w hSw => by go_simp; rw [HWR.out]⟩) hHeld ?_
        (try simp only [Act.put, List.setIfInBounds_toArray, List.set_cons_zero, List.set_cons_succ])
        refine wpAnyH_tk (i := 3) (v := _) 41 rfl rfl (by kernel_rfl) (by kernel_rfl) (by kernel_rfl) (fun _ _ _ h => h) (show YieldsIf Try.prog _ _ _ (.pointer (some ⟨a5, j, none⟩)) _ from Or.inl ⟨(by rfl), fun w hSw => by go_simp; try (intro hh; omega)⟩) hHeld ?_
        (try simp only [Act.put, List.setIfInBounds_toArray, List.set_cons_zero, List.set_cons_succ])
        refine wpAnyH_tk (i := 5) (v := ?vz3) 43 rfl rfl (by kernel_rfl) (by kernel_rfl) (by kernel_rfl) (fun _ _ _ h => h) (Or.inl ⟨by rfl, ?yz3⟩) hHeld ?rz3
        case yz3 => (intro w hSw; go_simp; try with_reducible rfl)
        (try simp only [Act.put, List.setIfInBounds_toArray, List.set_cons_zero, List.set_cons_succ])
        refine wpAnyH_tk (i := 6) (v := _) 44 rfl rfl (by kernel_rfl) (by kernel_rfl) (by kernel_rfl) (fun _ _ _ h => h) (show YieldsIf Try.prog _ _ _ (.pointer (some ⟨a2, n, none⟩)) _ from Or.inl ⟨(by rfl), fun w hSw => by go_simp; try (intro hh; omega)⟩) hHeld ?_
        (try simp only [Act.put, List.setIfInBounds_toArray, List.set_cons_zero, List.set_cons_succ])
        refine wpAnyH_ready (rs := [4, 7]) (by kernel_rfl) (by simp) (AllReadyH.cons rfl (fun K hK => ?_) (AllReadyH.cons rfl (fun K hK => ?_) AllReadyH.nil))
        · skip
          rw [if_pos (by rfl)]
          refine step_read 42 rfl 5 (.tmp 41) rfl ⟨a5, j, none⟩ rfl HC1.out Try.underlying5 rfl ?_
          refine hK.out _ _ (by exact hHeld) (fun hHeld => ?_)
          clear hK K
          (try simp only [Act.put, List.setIfInBounds_toArray, List.set_cons_zero, List.set_cons_succ])
          refine wpAnyH_one (i := 7) (by kernel_rfl) rfl (fun K hK => ?_)
          rw [if_pos (by rfl)]
          refine step_read 45 rfl 5 (.tmp 44) rfl ⟨a2, n, none⟩ rfl HC2.out Try.underlying5 rfl ?_
          refine hK.out _ _ (by exact hHeld) (fun hHeld => ?_)
          clear hK K
          (try simp only [Act.put, List.setIfInBounds_toArray, List.set_cons_zero, List.set_cons_succ])
          refine wpAnyH_tk (i := 8) (v := ?vz4) 46 rfl rfl (by kernel_rfl) (by kernel_rfl) (by kernel_rfl) (fun _ _ _ h => h) (Or.inl ⟨by rfl, ?yz4⟩) hHeld ?rz4
          case yz4 => (intro w hSw; go_simp; try with_reducible rfl)
          (try simp only [Act.put, List.setIfInBounds_toArray, List.set_cons_zero, List.set_cons_succ])
          refine wpAnyH_tk (i := 9) (v := _) 47 rfl rfl (by kernel_rfl) (by kernel_rfl) (by kernel_rfl) (fun _ _ _ h => h) (show YieldsIf Try.prog _ _ _ (.pointer (some ⟨a5, j, none⟩)) _ from Or.inl ⟨(by rfl), fun w hSw => by go_simp; try (intro hh; omega)⟩) hHeld ?_
          (try simp only [Act.put, List.setIfInBounds_toArray, List.set_cons_zero, List.set_cons_succ])
          refine wpAnyH_one (i := 10) (by kernel_rfl) rfl (fun K hK => ?_)
          rw [if_pos (by rfl)]
          refine step_cell rfl 5 (.tmp 47) (.tmp 46) rfl a5 j rfl (.int .u8 (xor8 x y)) rfl rfl size5 HK.out.drew.head (by simp [encs, hbl]; omega) ?_; have hHX := HK.out.drew.put (grown_set _ a5 j _) hb5 (by simp; omega) (by have := Blk.encSet HK.out.drew.head j (xor8 x y); rw [HSU.out] at this; exact this)
          refine hK.out _ _ (by exact hHX.tail.tail.tail.tail.tail) (fun hHeld => ?_)
          clear hK K
          (try simp only [Act.put, List.setIfInBounds_toArray, List.set_cons_zero, List.set_cons_succ])
          refine wpAnyH_done (by kernel_rfl) ?_ _
          (go_wp2_with fail; go_roundw; (case rel => exact ⟨n + 1, by omega, by go_num, ⟨hHX⟩⟩); (case measure => simp [intOf]; omega))
        · skip
          rw [if_pos (by rfl)]
          refine step_read 45 rfl 5 (.tmp 44) rfl ⟨a2, n, none⟩ rfl HC2.out Try.underlying5 rfl ?_
          refine hK.out _ _ (by exact hHeld) (fun hHeld => ?_)
          clear hK K
          (try simp only [Act.put, List.setIfInBounds_toArray, List.set_cons_zero, List.set_cons_succ])
          refine wpAnyH_one (i := 4) (by kernel_rfl) rfl (fun K hK => ?_)
          rw [if_pos (by rfl)]
          refine step_read 42 rfl 5 (.tmp 41) rfl ⟨a5, j, none⟩ rfl HC1.out Try.underlying5 rfl ?_
          refine hK.out _ _ (by exact hHeld) (fun hHeld => ?_)
          clear hK K
          (try simp only [Act.put, List.setIfInBounds_toArray, List.set_cons_zero, List.set_cons_succ])
          refine wpAnyH_tk (i := 8) (v := ?vz5) 46 rfl rfl (by kernel_rfl) (by kernel_rfl) (by kernel_rfl) (fun _ _ _ h => h) (Or.inl ⟨by rfl, ?yz5⟩) hHeld ?rz5
          case yz5 => (intro w hSw; go_simp; try with_reducible rfl)
          (try simp only [Act.put, List.setIfInBounds_toArray, List.set_cons_zero, List.set_cons_succ])
          refine wpAnyH_tk (i := 9) (v := _) 47 rfl rfl (by kernel_rfl) (by kernel_rfl) (by kernel_rfl) (fun _ _ _ h => h) (show YieldsIf Try.prog _ _ _ (.pointer (some ⟨a5, j, none⟩)) _ from Or.inl ⟨(by rfl), fun w hSw => by go_simp; try (intro hh; omega)⟩) hHeld ?_
          (try simp only [Act.put, List.setIfInBounds_toArray, List.set_cons_zero, List.set_cons_succ])
          refine wpAnyH_one (i := 10) (by kernel_rfl) rfl (fun K hK => ?_)
          rw [if_pos (by rfl)]
          refine step_cell rfl 5 (.tmp 47) (.tmp 46) rfl a5 j rfl (.int .u8 (xor8 x y)) rfl rfl size5 HK.out.drew.head (by simp [encs, hbl]; omega) ?_; have hHX := HK.out.drew.put (grown_set _ a5 j _) hb5 (by simp; omega) (by have := Blk.encSet HK.out.drew.head j (xor8 x y); rw [HSU.out] at this; exact this)
          refine hK.out _ _ (by exact hHX.tail.tail.tail.tail.tail) (fun hHeld => ?_)
          clear hK K
          (try simp only [Act.put, List.setIfInBounds_toArray, List.set_cons_zero, List.set_cons_succ])
          refine wpAnyH_done (by kernel_rfl) ?_ _
          (go_wp2_with fail; go_roundw; (case rel => exact ⟨n + 1, by omega, by go_num, ⟨hHX⟩⟩); (case measure => simp [intOf]; omega))
      · obtain rfl : n = 4 := by omega
        have hql := (burstL_length p S k 4).trans hll
        have HQB := Aside0.mk (burstL_bytes HLB.out S k 4)
        have HQR := Aside0.mk (fun h => recRead_burst p S HLB.out hll HRR.out k hk60 h)
        obtain ⟨q, hq⟩ : ∃ q, q = burstL p S k 4 := ⟨_, rfl⟩
        rw [← hq] at hql HQB HQR HK
        clear hq
        have HE2 := Aside0.mk (eq28 hql hll HQB.out HLB.out)
        obtain ⟨hwx, hxl⟩ := recRead_wf HQB.out hql
        have HQ2 := Aside0.mk (show (decide (q = p) || ((recRead q).2 == 8)) = true by
          by_cases h : q = p
          · rw [decide_eq_true h]; rfl
          · rw [HQR.out h]; simp)
        obtain ⟨X, hX⟩ : ∃ X, X = (recRead q).1 := ⟨_, rfl⟩
        obtain ⟨c, hc⟩ : ∃ c, c = (recRead q).2 := ⟨_, rfl⟩
        obtain ⟨d, hd⟩ : ∃ d, d = decide (q = p) := ⟨_, rfl⟩
        have HX := Aside0.mk hX
        have HC := Aside0.mk hc
        rw [← hX] at hxl
        rw [← hc, ← hd] at HQ2
        rw [← hd] at HE2
        clear hX hc hd hwx HQR
        go_wp2_with ((with_reducible refine gate_dst (N := 49) rfl ?_); refine load28 rfl (.tmp 10) rfl a5 rfl HK.out.head hql ?_)
        refine (RecWalks.read_calls _ q HQB.out hql).mono ?_
        rintro e w13 ⟨rfl, hb⟩
        rw [← HX.out, ← HC.out]
        have HK2 := Aside0.mk (HK.out.step hb)
        clear hb HK
        go_upto_region 12 with (first | ((with_reducible refine gate_dst (N := 13) rfl ?_); refine alloc43 rfl rfl ?_; intro w14 a6 h7 h8 h9; have H14 := Aside0.mk (HK2.out.new h9 h8); have hb6 : W.heap.size ≤ a6 := Nat.le_trans HK2.out.size h7; have hn12 : a1 ≠ a6 := (by have := HK2.out.tail.tail.tail.tail.head.lt; omega); have hn13 : a2 ≠ a6 := (by have := HK2.out.tail.tail.tail.head.lt; omega); have hn14 : a3 ≠ a6 := (by have := HK2.out.tail.tail.head.lt; omega); have hn15 : a4 ≠ a6 := (by have := HK2.out.tail.head.lt; omega); have hn16 : a5 ≠ a6 := (by have := HK2.out.head.lt; omega); clear h8 h9) | ((with_reducible refine gate_store (t := 43) (p := 13) rfl ?_); refine store43 rfl rfl (.tmp 13) (.tmp 51) rfl a6 rfl X rfl hxl H14.out.head rfl ?_; intro w15 h10 h11 h12; have H15 := Aside0.mk (H14.out.put h11 hb6 (by simp; omega) h10).tail; clear h10 h11))
        cases d
        · have hc8 : c = 8 := by have := HQ2.out; simpa using this
          subst hc8
          go_wp2_with (first | ((with_reducible refine gate_dst (N := 56) rfl ?_); refine gate_guard (by rfl) ?_; refine load43 (r := L) rfl (.tmp 8) rfl a4 rfl hl H15.out.tail.head ?_) | ((with_reducible refine gate_dst (N := 57) rfl ?_); refine gate_guard (by rfl) ?_; refine load43 (r := L) rfl (.tmp 3) rfl a1 rfl hl H15.out.tail.tail.tail.tail.head ?_) | ((with_reducible refine gate_dst (N := 58) rfl ?_); refine gate_guard (by rfl) ?_; refine wpl_eql rfl 43 43 (.tmp 56) (.tmp 57) rfl (recC L) (recC L) rfl rfl true HE1.out eqg43 rfl ?_) | ((with_reducible refine gate_dst (N := 61) rfl ?_); refine gate_guard (by rfl) ?_; refine load28 rfl (.tmp 10) rfl a5 rfl H15.out.head hql ?_) | ((with_reducible refine gate_dst (N := 62) rfl ?_); refine gate_guard (by rfl) ?_; refine load28 rfl (.tmp 7) rfl a3 rfl H15.out.tail.tail.head hll ?_) | ((with_reducible refine gate_dst (N := 63) rfl ?_); refine gate_guard (by rfl) ?_; refine wpl_eql rfl 28 28 (.tmp 61) (.tmp 62) rfl (encs (Value.int .u8) q) (encs (Value.int .u8) p) rfl rfl false HE2.out eqg28 rfl ?_))
          go_ret
          exact ⟨by simp, H15.out.below⟩
        · go_wp2_with (first | ((with_reducible refine gate_dst (N := 56) rfl ?_); refine gate_guard (by rfl) ?_; refine load43 (r := L) rfl (.tmp 8) rfl a4 rfl hl H15.out.tail.head ?_) | ((with_reducible refine gate_dst (N := 57) rfl ?_); refine gate_guard (by rfl) ?_; refine load43 (r := L) rfl (.tmp 3) rfl a1 rfl hl H15.out.tail.tail.tail.tail.head ?_) | ((with_reducible refine gate_dst (N := 58) rfl ?_); refine gate_guard (by rfl) ?_; refine wpl_eql rfl 43 43 (.tmp 56) (.tmp 57) rfl (recC L) (recC L) rfl rfl true HE1.out eqg43 rfl ?_) | ((with_reducible refine gate_dst (N := 61) rfl ?_); refine gate_guard (by rfl) ?_; refine load28 rfl (.tmp 10) rfl a5 rfl H15.out.head hql ?_) | ((with_reducible refine gate_dst (N := 62) rfl ?_); refine gate_guard (by rfl) ?_; refine load28 rfl (.tmp 7) rfl a3 rfl H15.out.tail.tail.head hll ?_) | ((with_reducible refine gate_dst (N := 63) rfl ?_); refine gate_guard (by rfl) ?_; refine wpl_eql rfl 28 28 (.tmp 61) (.tmp 62) rfl (encs (Value.int .u8) q) (encs (Value.int .u8) p) rfl rfl true HE2.out eqg28 rfl ?_))
          go_ret
          exact ⟨by simp, H15.out.below⟩
end Go.Proofs.Ytmkkkenpjealdaa.RecLaws
