/- The walks of layer 9: all leaves; the same numbers. -/
import Derived.Test.YtkkmmbbnaafhlaaTabWalks2
import Derived.Test.YtkkmmbbnaafhlaaDec
namespace Go.Proofs.Ytkkmmbbnaafhlaa.Tab
set_option linter.unusedSimpArgs false
set_option linter.unusedVariables false
open Go.RowKit Go.Proofs.YtkkmmbbnaafhlaaW.PrintWords Go.Proofs.YtkkmmbbnaafhlaaW.PrintLast Go.Proofs.YtkkmmbbnaafhlaaW.PrintMore Arr

structure Leaf where
  gen : Int
  idx : Int
  ps : List Int
def leafC (L : Leaf) : List Value := [.int .i64 L.gen, .int .i64 L.idx] ++ encs (Value.int .i64) L.ps
def leaf0 : Leaf := ⟨0, 0, zeros 10⟩
def k58 : Kd Leaf := Kd.iso (Kd.pair (Kd.int .i64) (Kd.pair (Kd.int .i64) (Dec.ints .i64 10))) (fun L : Leaf => (L.gen, L.idx, L.ps))
theorem k58_mkM (w : World) (base : Nat) (ok : Nat → Prop) (L : Leaf) (h : L.ps.length = 10) : k58.M w base ok L (leafC L) :=
  ⟨[.int .i64 L.gen], [.int .i64 L.idx] ++ encs (Value.int .i64) L.ps, rfl, rfl, ⟨[.int .i64 L.idx], encs (Value.int .i64) L.ps, rfl, rfl, ⟨h, rfl⟩⟩⟩
theorem k58_openM {w : World} {base : Nat} {ok : Nat → Prop} {L : Leaf} {cs : List Value} (h : k58.M w base ok L cs) : cs = leafC L ∧ L.ps.length = 10 := by
  obtain ⟨c1, c2, h1, h2, c3, c4, h3, h4, h5, h6⟩ := h
  refine ⟨?_, h5⟩
  rw [h1, h2, h3, h4, h6]
  rfl
/-- A row of leaves of the call's own. -/
abbrev RL (w : World) (B : Nat) (v : Value) (l : List Leaf) : Prop := Kd.R k58 58 w B (fun _ => True) v l
theorem info58 : (Try.prog.info? 58).map (fun i => (i.zero, i.size, i.bytes)) = some (some (.agg (leafC leaf0).toArray), k58.sz, 96) := by kernel_rfl
section
variable {ops : Array Oper} {rest : List Oper} {o : Oper} {a : Act} {Q : Exit → Act → World → Prop} {w0 W : World} {B : Nat}
theorem app_leaf (hgd : o.guard = none) (s x : Operand) (ho : o.op = .call { callee := .builtin .append, args := #[s, x], argTypes := #[54, 54] })
    (v : Value) (l : List Leaf) (g i a0 a1 a2 a3 a4 a5 a6 a7 a8 a9 : Int) (hs : a.eval s = v) (hx : a.eval x = .slice (some ⟨W.heap.size, 0, none⟩) 1 1) (HO : RL W B v l) (HB : Below B w0 W) (hb : B ≤ W.heap.size) (hl : l.length ≤ 1000)
    (h : ∀ v1 w1, RL w1 B v1 (l ++ [⟨g, i, [a0, a1, a2, a3, a4, a5, a6, a7, a8, a9]⟩]) → Below B w0 w1 → B ≤ w1.heap.size → wpList Try.prog ops Q rest (a.put o.dst v1) w1) : wpList Try.prog ops Q (o :: rest) a (W.alloc (.cells #[.int .i64 g, .int .i64 i, .int .i64 a0, .int .i64 a1, .int .i64 a2, .int .i64 a3, .int .i64 a4, .int .i64 a5, .int .i64 a6, .int .i64 a7, .int .i64 a8, .int .i64 a9] 58)) :=
  Kd.R_append k58 (w0 := w0) B hgd s x 54 58 (.agg (leafC leaf0).toArray) 96 ho Try.underlying54 info58 rfl (by decide) (by omega) v l ⟨g, i, [a0, a1, a2, a3, a4, a5, a6, a7, a8, a9]⟩ (leafC ⟨g, i, [a0, a1, a2, a3, a4, a5, a6, a7, a8, a9]⟩) (fun _ => True) (fun _ => False) hs hx (k58_mkM _ _ _ _ rfl) (fun _ hk => hk.elim) (fun _ _ => trivial) HO HB hb (by omega)
    fun v1 w1 h1 h2 h3 _ => h v1 w1 h1 h2 (Nat.le_trans hb h3.size)
end
theorem alloc_size (w : World) (o : Obj) : (w.alloc o).heap.size = w.heap.size + 1 := by
  unfold World.alloc
  exact Array.size_push _
/-- The leaves of a table. -/
def leafAt (gen : Int) (ps : List Int) (i : Nat) : Leaf := ⟨gen, i, (ps.drop (10 * i)).take 10⟩
def leavesTo (gen : Int) (ps : List Int) (k : Nat) : List Leaf := (List.range k).map (leafAt gen ps)
theorem leavesTo_succ (gen : Int) (ps : List Int) (k : Nat) : leavesTo gen ps (k + 1) = leavesTo gen ps k ++ [leafAt gen ps k] := by simp [leavesTo, List.range_succ]
theorem leavesTo_length (gen : Int) (ps : List Int) (k : Nat) : (leavesTo gen ps k).length = k := by simp [leavesTo]
theorem ten (l : List Int) (h : l.length = 10) : ∃ a0 a1 a2 a3 a4 a5 a6 a7 a8 a9, l = [a0, a1, a2, a3, a4, a5, a6, a7, a8, a9] := by
  match l, h with
  | [a0, a1, a2, a3, a4, a5, a6, a7, a8, a9], _ => exact ⟨a0, a1, a2, a3, a4, a5, a6, a7, a8, a9, rfl⟩
theorem size85 : (Try.prog.info? 85).map (·.size) = some 10 := by kernel_rfl
theorem getD_drop (l : List Int) (a j : Nat) : (l.drop a).getD j 0 = l.getD (a + j) 0 := by
  rw [List.getD_eq_getElem?_getD, List.getElem?_drop, ← List.getD_eq_getElem?_getD]
/-- A leaf's places, read. -/
theorem load85 {ops : Array Oper} {rest : List Oper} {o : Oper} {a : Act} {Q : Exit → Act → World → Prop} {W : World} (hgd : o.guard = none) (p : Operand) (ho : o.op = .load 85 p) (lb k : Nat) (hp : a.eval p = .pointer (some ⟨lb, k * 10, none⟩)) {ps : List Int} {T : TypeId} (hb : Blk W lb T (encs (Value.int .i64) ps)) (hk : 10 * k + 10 ≤ ps.length) (l : List Int) (hl : l = (ps.drop (10 * k)).take 10)
    (h : wpList Try.prog ops Q rest (a.put o.dst (.agg (encs (Value.int .i64) l).toArray)) W) : wpList Try.prog ops Q (o :: rest) a W := by
  have hll : l.length = 10 := by rw [hl, List.length_take, List.length_drop]; omega
  refine wpl_load hgd 85 p ho ⟨lb, k * 10, none⟩ hp (encs (Value.int .i64) l) Try.underlying85 rfl (by rw [encsLen, hll]; exact size85) (fun j v hv => ?_) h
  have hj : j < l.length := by have := (List.getElem?_eq_some_iff.1 hv).1; simpa [encs] using this
  rw [addr_at, hb.encAt (0 : Int) (k * 10 + j) (by omega)]
  rw [encs_at (enc := Value.int .i64) (0 : Int) l j hj, hl, getD_take (by omega), getD_drop, Nat.mul_comm] at hv
  exact hv
theorem load85t {ops : Array Oper} {rest : List Oper} {o : Oper} {a : Act} {Q : Exit → Act → World → Prop} {W : World} (hgd : o.guard = none) (p : Operand) (ho : o.op = .load 85 p) (lb k : Nat) (hp : a.eval p = .pointer (some ⟨lb, k * 10, none⟩)) {ps : List Int} {T : TypeId} (hb : Blk W lb T (encs (Value.int .i64) ps)) (hk : 10 * k + 10 ≤ ps.length) (a0 a1 a2 a3 a4 a5 a6 a7 a8 a9 : Int) (hl : [a0, a1, a2, a3, a4, a5, a6, a7, a8, a9] = (ps.drop (10 * k)).take 10)
    (h : wpList Try.prog ops Q rest (a.put o.dst (.agg #[.int .i64 a0, .int .i64 a1, .int .i64 a2, .int .i64 a3, .int .i64 a4, .int .i64 a5, .int .i64 a6, .int .i64 a7, .int .i64 a8, .int .i64 a9])) W) : wpList Try.prog ops Q (o :: rest) a W := load85 hgd p ho lb k hp hb hk _ hl h
set_option maxRecDepth 10000 in
set_option maxHeartbeats 4000000 in
theorem leaves_calls (w : World) (t lb db n : Nat) (ps : List Int) (ds : List Bool) (h : TabAt w t lb db n ps ds) (gen : Int) : Calls Try.prog 25 #[.pointer (some ⟨t, 0, none⟩), .int .i64 gen] w fun e w' => ∃ v, e = .returned v ∧ RL w' w.heap.size v (leavesTo gen ps (pg n)) ∧ Below w.heap.size w w' := by
  have HT := Aside0.mk h
  have hpl := pg_le h.hn
  have hps := h.hps
  have HX := Aside0.mk (Below.refl w.heap.size w)
  have HN := Aside0.mk (Kd.R_nil k58 58 w w.heap.size (fun _ => True))
  have hc1 := h.c1
  clear h
  go_enter Try.func25, Try.ntmps25
  go_wp2_with fail
  obtain ⟨p, hp⟩ : ∃ p, p = pg n := ⟨_, rfl⟩
  rw [← hp] at hpl hps hc1
  rw [← hp]
  have HPG := Aside0.mk hp
  clear hp
  go_loopw [5, 13] (fun v i wr => ∃ k : Nat, k ≤ p ∧ i = .int .i64 k ∧ Aside0 (RL wr w.heap.size v (leavesTo gen ps k)) ∧ Aside0 (Below w.heap.size w wr)) (fun _ i _ => p - (intOf i).toNat)
  case atStart => exact ⟨0, by omega, rfl, HN, HX⟩
  case round =>
    clear HN HX hc1
    obtain ⟨k, hk, rfl, HO, HX⟩ := hrel
    have hS := HX.out.size
    by_cases hlt : k < p
    · have hd : decide ((k : Int) < p) = true := by simp; omega
      have HTk := Aside0.mk (HT.out.below' HX.out)
      have HS := Aside0.mk (leavesTo_succ gen ps k)
      have hlen := leavesTo_length gen ps k
      obtain ⟨l, hl⟩ : ∃ l, l = (ps.drop (10 * k)).take 10 := ⟨_, rfl⟩
      obtain ⟨a0, a1, a2, a3, a4, a5, a6, a7, a8, a9, ht⟩ := ten l (by rw [hl, List.length_take, List.length_drop]; omega)
      have HLA := Aside0.mk (show leafAt gen ps k = ⟨gen, k, [a0, a1, a2, a3, a4, a5, a6, a7, a8, a9]⟩ by unfold leafAt; rw [← hl, ht])
      have HL := Aside0.mk (show [a0, a1, a2, a3, a4, a5, a6, a7, a8, a9] = (ps.drop (10 * k)).take 10 by rw [← hl, ht])
      clear hl ht
      go_upto_region 5 with ((with_reducible refine gate_dst (N := 17) rfl ?_); refine load85t rfl (.tmp 16) rfl lb k rfl HTk.out.lv (by omega) a0 a1 a2 a3 a4 a5 a6 a7 a8 a9 HL.out ?_)
      go_wp2_with (at_builtin; refine app_leaf rfl (.tmp 18) (.tmp 23) rfl u5 (leavesTo gen ps k) gen k a0 a1 a2 a3 a4 a5 a6 a7 a8 a9 rfl (by rw [show ∀ o, (wr.alloc o).heap.size = wr.heap.size + 1 from fun o => alloc_size wr o]; rfl) (Kd.R_grown HO.out (World.grownBy_alloc wr _ none) (fun _ _ e => by cases e)) (HX.out.alloc hS _) (Nat.le_trans hS (by rw [alloc_size]; omega)) (by omega) ?_; intro v3 w3 h7 h8 h9; rw [← HLA.out, ← HS.out] at h7; have H7 := Aside0.mk h7; have H8 := Aside0.mk h8; clear h7 h8)
      go_roundw
      case rel => exact ⟨k + 1, by omega, by go_num, H7, H8⟩
      case measure => simp [intOf]; omega
    · obtain rfl : k = p := by omega
      have hd : decide ((k : Int) < k) = false := by simp
      go_wp2_with fail
      go_ret
      exact ⟨_, rfl, by rw [← HPG.out]; exact HO.out, HX.out⟩
set_option maxHeartbeats 2000000 in
theorem same_calls (w : World) (A1 : Option Addr) (m1 c1 : Nat) (x : List Int) (h1 : CI w A1 m1 x) (A2 : Option Addr) (m2 c2 : Nat) (y : List Int) (h2 : CI w A2 m2 y) (hl1 : x.length ≤ 1000000) (hl2 : y.length ≤ 1000000) : Calls Try.prog 15 #[.slice A1 m1 c1, .slice A2 m2 c2] w fun e w' => e = .returned (.bool (decide (x = y))) ∧ Below w.heap.size w w' := by
  obtain rfl := Kd.C_len h1
  obtain rfl := Kd.C_len h2
  have HR1 := Aside0.mk h1
  have HR2 := Aside0.mk h2
  have HW := Aside0.mk (Below.refl w.heap.size w)
  clear h1 h2
  go_enter Try.func15, Try.ntmps15
  by_cases hll : x.length = y.length
  · have hd : ((x.length : Int) != (y.length : Int)) = false := by simp; omega
    go_wp2_with fail
    go_loopw [5] (fun i wr => ∃ k : Nat, k ≤ x.length ∧ i = .int .i64 k ∧ Aside0 (∀ j, j < k → x.getD j 0 = y.getD j 0) ∧ Aside0 (Drawn0 w wr)) (fun i _ => x.length - (intOf i).toNat)
    case atStart => exact ⟨0, by omega, rfl, ⟨fun j h2 => by omega⟩, ⟨Drawn0.refl w⟩⟩
    case round =>
      obtain ⟨k, hk, rfl, HEq, HD⟩ := hrel
      obtain ⟨wd, hwd⟩ := HD.out.out
      subst hwd
      by_cases hlt : k < x.length
      · have hd2 : decide ((k : Int) < x.length) = true := by simp; omega
        obtain ⟨ad, rfl, hx⟩ := Kd.at_int HR1.out (k : Int) (by omega) (by omega)
        obtain ⟨ad2, rfl, hy⟩ := Kd.at_int HR2.out (k : Int) (by omega) (by omega)
        rw [Int.toNat_natCast] at hx hy
        obtain ⟨b, hb⟩ : ∃ b, b = rd x (k : Int) := ⟨_, rfl⟩
        obtain ⟨b', hb'⟩ : ∃ b', b' = rd y (k : Int) := ⟨_, rfl⟩
        rw [← hb] at hx
        rw [← hb'] at hy
        have HB := Aside0.mk (hb.trans (show rd x (k : Int) = x.getD k 0 from rfl))
        have HB' := Aside0.mk (hb'.trans (show rd y (k : Int) = y.getD k 0 from rfl))
        clear hb hb'
        go_wp2_with fail
        go_quiet (fail)
        go_wp2_with fail
        · have hne : (b != b') = true := by assumption
          go_ret
          refine ⟨?_, (pw_below_drewN (pw_below_drewN HW.out _) _)⟩
          rw [decide_eq_false (fun hxy : x = y => by
            have e : b = b' := by rw [HB.out, HB'.out, hxy]
            simp [e] at hne)]
          rfl
        · have heq : (b != b') = false := by assumption
          go_roundw
          case rel => exact ⟨k + 1, by omega, by go_num, ⟨fun j h2 => by
            by_cases e : j = k
            · rw [e, ← HB.out, ← HB'.out]; simpa using heq
            · exact HEq.out j (by omega)⟩, ⟨⟨⟨_, rfl⟩⟩⟩⟩
          case measure => simp [intOf]; omega
      · obtain rfl : k = x.length := by omega
        have hd2 : decide ((x.length : Int) < x.length) = false := by simp
        go_wp2
        go_ret
        refine ⟨?_, (pw_below_drewN HW.out _)⟩
        rw [decide_eq_true (ext_getD hll HEq.out)]
        rfl
  · have hd : ((x.length : Int) != (y.length : Int)) = true := by simp; omega
    go_wp2_with fail
    go_ret
    exact ⟨by rw [decide_eq_false (fun h => hll (by rw [h]))]; rfl, HW.out⟩
end Go.Proofs.Ytkkmmbbnaafhlaa.Tab
