/- Layer 25: walks of hex, number, data, fields. -/
import Derived.Test.YtagpldkgkchfcaaDoorTxtB
namespace Go.Proofs.YtagpldkgkchfcaaDoor.Txt
section
set_option linter.unusedSimpArgs false
set_option linter.unusedVariables false
open Go.RowKit Go.Proofs.YtagpldkgkchfcaaDoorW.PrintWords Go.Proofs.YtagpldkgkchfcaaDoorW.PrintLast Go.Proofs.YtagpldkgkchfcaaDoorW.PrintMore Arr PTextPrints

theorem hexD_take (d : List Int) (k : Nat) (h : k < d.length) : hexD (d.take (k + 1)) = hexD (d.take k) ++ hex1 (d.getD k 0) := by
  have e : d.take (k + 1) = d.take k ++ [d.getD k 0] := by
    rw [List.take_add_one, List.getElem?_eq_getElem h, List.getD_eq_getElem?_getD, List.getElem?_eq_getElem h]; rfl
  rw [e]
  unfold hexD
  rw [List.flatMap_append]
  simp
theorem bt_digits (n : Int) (h0 : 0 ≤ n) (h1 : n ≤ 15) : bt ⟨#[48, 49, 50, 51, 52, 53, 54, 55, 56, 57, 97, 98, 99, 100, 101, 102]⟩ n = ((hx n).toNat : Int) := by
  have h : ∀ i : Fin 16, bt ⟨#[48, 49, 50, 51, 52, 53, 54, 55, 56, 57, 97, 98, 99, 100, 101, 102]⟩ (i.val : Int) = ((hx (i.val : Int)).toNat : Int) := by decide +kernel
  have := h ⟨n.toNat, by omega⟩
  rwa [show ((n.toNat : Nat) : Int) = n from by omega] at this
theorem dig_at (n : Int) (h0 : 0 ≤ n) (h1 : n ≤ 15) (h : n.toNat < (⟨#[48, 49, 50, 51, 52, 53, 54, 55, 56, 57, 97, 98, 99, 100, 101, 102]⟩ : ByteArray).size) : ((((⟨#[48, 49, 50, 51, 52, 53, 54, 55, 56, 57, 97, 98, 99, 100, 101, 102]⟩ : ByteArray)[n.toNat]'h).toNat : Nat) : Int) = ((hx n).toNat : Int) := by
  rw [bt_at, bt_digits n h0 h1]
theorem and15 (x : Int) (h0 : 0 ≤ x) (h1 : x ≤ 255) : Go.bits .and .u8 x 15 = x % 16 := by
  have h : ∀ i : Fin 256, Go.bits .and .u8 (i.val : Int) 15 = (i.val : Int) % 16 := by decide +kernel
  have := h ⟨x.toNat, by omega⟩
  rwa [show ((x.toNat : Nat) : Int) = x from by omega] at this
theorem info33 : (Tryd.prog.info? 33).map (·.size) = some 32 := by kernel_rfl
theorem size5 : (Tryd.prog.info? 5).map (·.size) = some 1 := by kernel_rfl
set_option maxRecDepth 10000 in
set_option maxHeartbeats 1000000 in
theorem hex_calls (w : World) (d : List Int) (hl : d.length = 32) (hd : ∀ x ∈ d, 0 ≤ x ∧ x ≤ 255) : Calls Tryd.prog 51 #[.agg (encs (Value.int .u8) d).toArray] w fun e w' => e = .returned (.string ⟨(hexD d).toArray⟩) ∧ Below w.heap.size w w' := by
  have HD := Aside0.mk hd
  have HW := Aside0.mk (Below.refl w.heap.size w)
  clear hd
  go_enter Tryd.func51, Tryd.ntmps51
  go_wp2_with (first | ((with_reducible refine gate_dst (N := 1) rfl ?_); refine wpl_box rfl 33 (.tmp 0) rfl _ rfl (encs (Value.int .u8) d) rfl ?_; intro w1 g h1 h2 h3; have H2 := Aside0.mk h2; have H3 := Aside0.mk (below_new HW.out HW.out.size h3); clear h2 h3) | ((with_reducible refine gate_dst (N := 6) rfl ?_); refine wpl_loadAll rfl 33 (.tmp 1) rfl g rfl (H2.out.alloc _) Tryd.underlying33 rfl (by rw [show (encs (Value.int .u8) d).length = 32 by simp [encs, hl]]; exact info33) ?_))
  have hs1 := H3.out.size
  have HS1 := Aside0.mk hs1
  go_loopw [7, 5] (fun i _ wr => ∃ k : Nat, k ≤ 32 ∧ i = .int .i64 k ∧ Aside0 (Lib.IsBuilder 63 5 w1.heap.size w1.heap.size (Lib.byteCells (hexD (d.take k))) wr) ∧ Aside0 (Below w.heap.size w wr) ∧ w1.heap.size ≤ wr.heap.size) (fun i _ _ => 32 - (intOf i).toNat)
  case atStart => exact ⟨0, by omega, rfl, ⟨Lib.fresh_isBuilder 63 5 w1⟩, ⟨H3.out.alloc hs1 _⟩, by simp⟩
  case round =>
    obtain ⟨k, hk, rfl, HB, HBW, hsz⟩ := hrel
    by_cases hlt : k < 32
    · have hx := HD.out (d.getD k 0) (by rw [List.getD_eq_getElem?_getD, List.getElem?_eq_getElem (by omega)]; exact List.getElem_mem _)
      obtain ⟨hx0, hx1⟩ := hx
      have HT := Aside0.mk (hexD_take d k (by omega))
      have HN := Aside0.mk (by have := hexD_length (d.take k); rw [List.length_take] at this; exact (show (hexD (d.take k)).length = 2 * k by omega))
      obtain ⟨x, hx⟩ : ∃ x, x = d.getD k 0 := ⟨_, rfl⟩
      have HX := Aside0.mk hx.symm
      rw [← hx] at HT hx0 hx1
      clear hx
      go_wp2_with (first | ((with_reducible refine gate_dst (N := 9) rfl ?_); refine wpl_index rfl 33 (.tmp 6) (.tmp 7) rfl (Value.int .u8) (0 : Int) d rfl k rfl Tryd.underlying33 hl.symm (by omega) Tryd.underlying5 rfl size5 ?_; rw [HX.out]))
      rw [dig_at (x / 16) (by omega) (by omega)]
      refine (writeByte _ _ _ _ _ HB.out (by rw [Lib.byteCells_length, HN.out]; omega) hsz).mono ?_
      rintro e w2 ⟨rfl, h2, h3⟩
      have HB2 := Aside0.mk h2
      have HBW2 := Aside0.mk (HBW.out.trans (h3.mono HS1.out))
      have hs2 := h3.size
      clear h2 h3
      have ha := and15 x hx0 hx1
      go_wp2_with fail
      rw [dig_at (x % 16) (by omega) (by omega)]
      clear ha
      refine (writeByte _ _ _ _ _ HB2.out (by rw [List.length_append, Lib.byteCells_length, HN.out]; simp; omega) (by omega)).mono ?_
      rintro e w3 ⟨rfl, h2, h3⟩
      have HB3 := Aside0.mk (show Lib.IsBuilder 63 5 w1.heap.size w1.heap.size (Lib.byteCells (hexD (d.take (k + 1)))) w3 by
        rw [HT.out]
        simpa [Lib.byteCells, hex1] using h2)
      have HBW3 := Aside0.mk (HBW2.out.trans (h3.mono HS1.out))
      have hs3 := h3.size
      clear h2 h3
      go_wp2_with fail
      go_roundw
      case rel => exact ⟨k + 1, by omega, by go_num, HB3, HBW3, by omega⟩
      case measure => simp [intOf]; omega
    · obtain rfl : k = 32 := by omega
      have hne : hexD (d.take 32) ≠ [] := fun e => by have := hexD_length (d.take 32); rw [e, List.length_take] at this; simp at this; omega
      have HF := Aside0.mk (show d.take 32 = d from by rw [List.take_of_length_le (by omega)])
      go_wp2_with (go_at_call 29; refine (Tryd.Builder_String _ _ _ _ HB.out hne).mono ?_; rintro e w2 ⟨rfl, h2⟩)
      go_ret
      rw [HF.out]
      exact ⟨rfl, HBW.out.trans (h2.mono HS1.out)⟩
end
section
set_option linter.unusedSimpArgs false
set_option linter.unusedVariables false
open Go.RowKit Go.Proofs.YtagpldkgkchfcaaDoorW.PrintWords Go.Proofs.YtagpldkgkchfcaaDoorW.PrintLast Go.Proofs.YtagpldkgkchfcaaDoorW.PrintMore Arr PTextPrints

def ints (l : Bs) : List Int := l.map fun b => (b.toNat : Int)
theorem ints_len (l : Bs) : (ints l).length = l.length := by simp [ints]
theorem ints_app (a b : Bs) : ints (a ++ b) = ints a ++ ints b := by simp [ints]
theorem str_ints (l : Bs) : strOfNums (ints l) = ⟨l.toArray⟩ := by
  unfold strOfNums ints
  rw [List.map_map]
  congr 2
  exact (List.map_congr_left (fun b _ => by simp)).trans (List.map_id l)
section
variable {ops : Array Oper} {o : Oper} {a : Act} {Q : Exit → Act → World → Prop} {w0 W : World} {B : Nat} {Kc : Act → World → Prop}
theorem step_lit2 (N : Tmp) (hd : o.dst = some N) (x y : Operand) (ho : o.op = .buildSlice 61 2 #[(0, x), (1, y)]) (p q : Int) (hx : a.eval x = .int .u8 p) (hy : a.eval y = .int .u8 q)
    (h : Kc (a.put (some N) (.slice (some ⟨W.heap.size, 0, none⟩) 2 2)) (W.alloc (.cells (nums .u8 [p, q]).toArray 5))) : Oper.wp Tryd.prog o a W Kc Q := by
  have hrun : (execOp a.eval o).run Tryd.prog W = .ok (.value (.slice (some ⟨W.heap.size, 0, none⟩) 2 2)) (W.alloc (.cells (nums .u8 [p, q]).toArray 5)) := by
    simp only [execOp, ho, List.map_toArray, List.map_cons, List.map_nil, hx, hy]
    kernel_rfl
  unfold Oper.wp
  rw [hrun]
  show Kc (a.put o.dst _) _
  rw [hd]
  exact h
theorem C_lit (W : World) (k : IntKind) (e : TypeId) (l : List Int) (hl : l.length ≤ 1000) : Kd.C (Kd.int k) (W.alloc (.cells (nums k l).toArray e)) (some ⟨W.heap.size, 0, none⟩) l.length l := by
  have h : Kd.R (Kd.int k) e (W.alloc (.cells (nums k l).toArray e)) W.heap.size (fun _ => True) (.slice (some ⟨W.heap.size, 0, none⟩) l.length l.length) l :=
    Kd.R_of_own (own_lit W W.heap.size e k l (Nat.le_refl _) (by omega)) (fun _ _ => trivial)
  exact (Kd.R_reads' h).2.2
theorem step_app61 (N : Tmp) (hd : o.dst = some N) (s x : Operand) (ho : o.op = .call { callee := .builtin .append, args := #[s, x], argTypes := #[61, 61] }) (hg : o.guard = none)
    (v : Value) (l ys : List Int) (A : Option Addr) (m c : Nat) (hs : a.eval s = v) (hx : a.eval x = .slice A m c) (HO : Kd.R (Kd.int .u8) 5 W B (fun _ => True) v l) (HC : Kd.C (Kd.int .u8) W A m ys) (HB : Below B w0 W) (hb : B ≤ W.heap.size) (hl : l.length + m ≤ 1000000)
    (h : ∀ v1 w1, Kd.R (Kd.int .u8) 5 w1 B (fun _ => True) v1 (l ++ ys) → Below B w0 w1 → W.grownBy w1 v.ownBlock → Kc (a.put (some N) v1) w1) : Oper.wp Tryd.prog o a W Kc Q := by
  have hw : Region.wanted o (yielded #[] a.tmps) = true := by simp [Region.wanted, hg]
  have := Kd.R_append_rows_step (P := Tryd.prog) (ops := #[]) (o := o) (a := a) (Q := Q) (Kc := Kc) (Kd.int .u8) (w0 := w0) B hw s x 61 5 (.int .u8 0) 1 ho Tryd.underlying61 infoByte rfl (by decide) (by omega) v l ys A m c (fun _ => True) (fun _ => False) hs hx HO HC (fun x cs h => h) (fun _ hk => hk.elim) (fun _ _ => trivial) HB hb (by omega)
    (fun v1 w1 h1 h2 h3 _ => by rw [hd]; exact h v1 w1 h1 h2 h3)
  rwa [if_pos hw] at this
end
theorem quo16 (x : Int) (h0 : 0 ≤ x) (h1 : x ≤ 255) : IntKind.u8.wrap (x.tdiv 16) = x / 16 := by
  rw [Int.tdiv_eq_ediv_of_nonneg h0]
  have h : ∀ i : Fin 256, IntKind.u8.wrap ((i.val : Int) / 16) = (i.val : Int) / 16 := by decide +kernel
  have := h ⟨x.toNat, by omega⟩
  rwa [show ((x.toNat : Nat) : Int) = x from by omega] at this
theorem rem16 (x : Int) (h0 : 0 ≤ x) (h1 : x ≤ 255) : IntKind.u8.wrap (x.tmod 16) = x % 16 := by
  rw [Int.tmod_eq_emod_of_nonneg h0]
  have h : ∀ i : Fin 256, IntKind.u8.wrap ((i.val : Int) % 16) = (i.val : Int) % 16 := by decide +kernel
  have := h ⟨x.toNat, by omega⟩
  rwa [show ((x.toNat : Nat) : Int) = x from by omega] at this
theorem yields_quo {ops : Array Oper} {S : World → Prop} {o : Oper} {a : Act} (hw : Region.wanted o (yielded ops a.tmps) = true) (i : Operand) (ho : o.op = .binOp .quo 5 i (.const (.int .u8 16)) 5) (x : Int) (h0 : 0 ≤ x) (h1 : x ≤ 255) (hi : a.eval i = .int .u8 x) : YieldsIf Tryd.prog ops S o (.int .u8 (x / 16)) a :=
  Or.inl ⟨hw, fun w hS => by
    have hq := quo16 x h0 h1
    have h5 := Tryd.underlying5
    unfold execOp
    simp only [ho, hi]
    go_simp⟩
theorem yields_rem {ops : Array Oper} {S : World → Prop} {o : Oper} {a : Act} (hw : Region.wanted o (yielded ops a.tmps) = true) (i : Operand) (ho : o.op = .binOp .rem 5 i (.const (.int .u8 16)) 5) (x : Int) (h0 : 0 ≤ x) (h1 : x ≤ 255) (hi : a.eval i = .int .u8 x) : YieldsIf Tryd.prog ops S o (.int .u8 (x % 16)) a :=
  Or.inl ⟨hw, fun w hS => by
    have hq := Int.tmod_eq_emod_of_nonneg h0 (b := 16)
    have h5 := Tryd.underlying5
    unfold execOp
    simp only [ho, hi]
    go_simp⟩
theorem yields_dig {ops : Array Oper} {S : World → Prop} {o : Oper} {a : Act} (hw : Region.wanted o (yielded ops a.tmps) = true) (i : Operand) (ho : o.op = .index 9 (.const (.string ⟨#[48, 49, 50, 51, 52, 53, 54, 55, 56, 57, 97, 98, 99, 100, 101, 102]⟩)) i) (n : Int) (h0 : 0 ≤ n) (h1 : n ≤ 15) (hi : a.eval i = .int .u8 n) : YieldsIf Tryd.prog ops S o (.int .u8 ((hx n).toNat : Int)) a :=
  Or.inl ⟨hw, fun w hS => by
    have hd := dig_at n h0 h1
    unfold execOp
    simp only [ho, hi]
    go_simp
    intro h; omega⟩
set_option maxRecDepth 10000 in
set_option maxHeartbeats 1000000 in
theorem rhex_calls (w : World) (d : List Int) (hl : d.length = 32) (hd : ∀ x ∈ d, 0 ≤ x ∧ x ≤ 255) : Calls Tryd.prog 24 #[.agg (encs (Value.int .u8) d).toArray] w fun e w' => e = .returned (.string ⟨(hexD d).toArray⟩) ∧ Below w.heap.size w w' := by
  have HD := Aside0.mk hd
  have HW := Aside0.mk (Below.refl w.heap.size w)
  clear hd
  go_enter Tryd.func24, Tryd.ntmps24
  go_wp2_with (first | ((with_reducible refine gate_dst (N := 1) rfl ?_); refine wpl_box rfl 33 (.tmp 0) rfl _ rfl (encs (Value.int .u8) d) rfl ?_; intro w1 g h1 h2 h3; have H2 := Aside0.mk h2; have H3 := Aside0.mk (below_new HW.out HW.out.size h3); clear h2 h3))
  have HS1 := Aside0.mk H3.out.size
  go_loopw [3, 4] (fun v i wr => ∃ k : Nat, k ≤ 32 ∧ i = .int .i64 k ∧ Aside0 (Kd.R (Kd.int .u8) 5 wr w1.heap.size (fun _ => True) v (ints (hexD (d.take k)))) ∧ Aside0 (Blk wr g 33 (encs (Value.int .u8) d)) ∧ Aside0 (Below w1.heap.size w1 wr)) (fun _ i _ => 32 - (intOf i).toNat)
  case atStart => exact ⟨0, by omega, rfl, ⟨Kd.R_nil _ _ _ _ _⟩, H2, ⟨Below.refl _ _⟩⟩
  case round =>
    obtain ⟨k, hk, rfl, HR, HB, HBW⟩ := hrel
    rename Value => v
    by_cases hlt : k < 32
    · have hx := HD.out (d.getD k 0) (by rw [List.getD_eq_getElem?_getD, List.getElem?_eq_getElem (by omega)]; exact List.getElem_mem _)
      obtain ⟨hx0, hx1⟩ := hx
      have HT := Aside0.mk (hexD_take d k (by omega))
      have HN := Aside0.mk (by have := hexD_length (d.take k); rw [List.length_take] at this; exact (show (hexD (d.take k)).length = 2 * k by omega))
      obtain ⟨x, hx⟩ : ∃ x, x = d.getD k 0 := ⟨_, rfl⟩
      rename World => wr
      have hc : wr.cell? ⟨g, k, none⟩ = some (.int .u8 x) := by rw [hx]; exact HB.out.encAt (0 : Int) k (by omega)
      rw [← hx] at HT hx0 hx1
      have HX := Aside0.mk hx
      clear hx
      go_upto_region 5 with (fail)
      refine wp_region_held_drew (S := (fun w' => w'.cell? ⟨g, k, none⟩ = some (.int .u8 x))) (by kernel_rfl) (by exact hc) (fun hHeld => ?_)
      refine wpAnyH_tk (i := 0) (v := ?vz1) 9 rfl rfl (by kernel_rfl) (by kernel_rfl) (by kernel_rfl) (fun _ _ _ h => h) (Or.inl ⟨by rfl, ?yz1⟩) hHeld ?rz1
      case yz1 => (intro w hSw; go_simp; try (first | with_reducible rfl | (rw [if_neg (by omega)]; try with_reducible rfl)))
      (try simp only [Act.put, List.setIfInBounds_toArray, List.set_cons_zero, List.set_cons_succ])
      refine wpAnyH_tk (i := 1) (v := ?vz2) 10 rfl rfl (by kernel_rfl) (by kernel_rfl) (by kernel_rfl) (fun _ _ _ h => h) (Or.inl ⟨by rfl, ?yz2⟩) hHeld ?rz2
      case yz2 => (intro w hSw; go_simp; try (first | with_reducible rfl | (rw [if_neg (by omega)]; try with_reducible rfl)))
      (try simp only [Act.put, List.setIfInBounds_toArray, List.set_cons_zero, List.set_cons_succ])
      refine wpAnyH_tk (i := 2) (v := ?vz3) 11 rfl rfl (by kernel_rfl) (by kernel_rfl) (by kernel_rfl) (fun _ _ _ h => h) (Or.inl ⟨by rfl, ?yz3⟩) hHeld ?rz3
      case yz3 => (intro w hSw; go_simp; try (first | with_reducible rfl | (rw [if_neg (by omega)]; try with_reducible rfl)))
      (try simp only [Act.put, List.setIfInBounds_toArray, List.set_cons_zero, List.set_cons_succ])
      refine wpAnyH_tk (i := 3) (v := _) 12 rfl rfl (by kernel_rfl) (by kernel_rfl) (by kernel_rfl) (fun _ _ _ h => h) (yields_cell (by rfl) 5 (.tmp 11) rfl ⟨g, k, none⟩ rfl (v := .int .u8 x) (fun w h => h) Tryd.underlying5 rfl) hHeld ?_
      (try simp only [Act.put, List.setIfInBounds_toArray, List.set_cons_zero, List.set_cons_succ])
      refine wpAnyH_tk (i := 4) (v := _) 13 rfl rfl (by kernel_rfl) (by kernel_rfl) (by kernel_rfl) (fun _ _ _ h => h) (yields_quo (by rfl) (.tmp 12) rfl x hx0 hx1 rfl) hHeld ?_
      (try simp only [Act.put, List.setIfInBounds_toArray, List.set_cons_zero, List.set_cons_succ])
      refine wpAnyH_tk (i := 5) (v := _) 14 rfl rfl (by kernel_rfl) (by kernel_rfl) (by kernel_rfl) (fun _ _ _ h => h) (yields_dig (by rfl) (.tmp 13) rfl (x / 16) (by omega) (by omega) rfl) hHeld ?_
      (try simp only [Act.put, List.setIfInBounds_toArray, List.set_cons_zero, List.set_cons_succ])
      refine wpAnyH_tk (i := 6) (v := ?vz4) 15 rfl rfl (by kernel_rfl) (by kernel_rfl) (by kernel_rfl) (fun _ _ _ h => h) (Or.inl ⟨by rfl, ?yz4⟩) hHeld ?rz4
      case yz4 => (intro w hSw; go_simp; try (first | with_reducible rfl | (rw [if_neg (by omega)]; try with_reducible rfl)))
      (try simp only [Act.put, List.setIfInBounds_toArray, List.set_cons_zero, List.set_cons_succ])
      refine wpAnyH_tk (i := 7) (v := ?vz5) 16 rfl rfl (by kernel_rfl) (by kernel_rfl) (by kernel_rfl) (fun _ _ _ h => h) (Or.inl ⟨by rfl, ?yz5⟩) hHeld ?rz5
      case yz5 => (intro w hSw; go_simp; try (first | with_reducible rfl | (rw [if_neg (by omega)]; try with_reducible rfl)))
      (try simp only [Act.put, List.setIfInBounds_toArray, List.set_cons_zero, List.set_cons_succ])
      refine wpAnyH_tk (i := 8) (v := _) 17 rfl rfl (by kernel_rfl) (by kernel_rfl) (by kernel_rfl) (fun _ _ _ h => h) (yields_cell (by rfl) 5 (.tmp 16) rfl ⟨g, k, none⟩ rfl (v := .int .u8 x) (fun w h => h) Tryd.underlying5 rfl) hHeld ?_
      (try simp only [Act.put, List.setIfInBounds_toArray, List.set_cons_zero, List.set_cons_succ])
      refine wpAnyH_tk (i := 9) (v := _) 18 rfl rfl (by kernel_rfl) (by kernel_rfl) (by kernel_rfl) (fun _ _ _ h => h) (yields_rem (by rfl) (.tmp 17) rfl x hx0 hx1 rfl) hHeld ?_
      (try simp only [Act.put, List.setIfInBounds_toArray, List.set_cons_zero, List.set_cons_succ])
      refine wpAnyH_tk (i := 10) (v := _) 19 rfl rfl (by kernel_rfl) (by kernel_rfl) (by kernel_rfl) (fun _ _ _ h => h) (yields_dig (by rfl) (.tmp 18) rfl (x % 16) (by omega) (by omega) rfl) hHeld ?_
      (try simp only [Act.put, List.setIfInBounds_toArray, List.set_cons_zero, List.set_cons_succ])
      refine wpAnyH_one (i := 11) (by kernel_rfl) rfl (fun K hK => ?_)
      rw [if_pos (by rfl)]
      refine step_lit2 20 rfl (.tmp 14) (.tmp 19) rfl ((hx (x / 16)).toNat : Int) ((hx (x % 16)).toNat : Int) rfl rfl ?_
      refine hK.out _ _ (by rw [World.cell?_alloc_old _ _ _ (by exact Nat.ne_of_lt (World.block_lt_of_cell? _ _ hHeld))]; exact hHeld) (fun hHeld => ?_)
      clear hK K
      (try simp only [Act.put, List.setIfInBounds_toArray, List.set_cons_zero, List.set_cons_succ])
      refine wpAnyH_one (i := 12) (by kernel_rfl) rfl (fun K hK => ?_)
      rw [if_pos (by rfl)]
      refine step_app61 21 rfl (.tmp 9) (.tmp 20) rfl rfl _ _ [((hx (x / 16)).toNat : Int), ((hx (x % 16)).toNat : Int)] (some ⟨wr.drew.heap.size, 0, none⟩) 2 2 rfl rfl (Kd.R_alloc (Kd.R_drew HR.out) _) (C_lit _ .u8 5 [((hx (x / 16)).toNat : Int), ((hx (x % 16)).toNat : Int)] (by simp)) (w0 := w1) ((below_drew HBW.out).alloc HBW.out.size _) (by simp; have := HBW.out.size; omega) (by rw [ints_len, HN.out]; omega) ?_; intro v2 w2 h2 h3 h4; have hB2 := (HB.out.drew.alloc (.cells (nums .u8 [((hx (x / 16)).toNat : Int), ((hx (x % 16)).toNat : Int)]).toArray 5)).grown h4 (own_ne (Kd.own_of_R HR.out) HB.out (by decide))
      refine hK.out _ _ (by rw [HX.out]; exact hB2.encAt (0 : Int) k (by omega)) (fun hHeld => ?_)
      clear hK K
      (try simp only [Act.put, List.setIfInBounds_toArray, List.set_cons_zero, List.set_cons_succ])
      refine wpAnyH_tk (i := 13) (v := ?vz6) 3 rfl rfl (by kernel_rfl) (by kernel_rfl) (by kernel_rfl) (fun _ _ _ h => h) (Or.inl ⟨by rfl, ?yz6⟩) hHeld ?rz6
      case yz6 => (intro w hSw; go_simp; try (first | with_reducible rfl | (rw [if_neg (by omega)]; try with_reducible rfl)))
      (try simp only [Act.put, List.setIfInBounds_toArray, List.set_cons_zero, List.set_cons_succ])
      refine wpAnyH_done (by kernel_rfl) ?_ _
      skip
      have HR2 := Aside0.mk (show Kd.R (Kd.int .u8) 5 w2 w1.heap.size (fun _ => True) v2 (ints (hexD (d.take (k + 1)))) by
        rw [HT.out, ints_app]; exact h2)
      have HB2 := Aside0.mk hB2
      have HBW2 := Aside0.mk h3
      clear h2 h3 h4 hB2 hHeld hc
      go_wp2_with fail
      go_roundw
      case rel => exact ⟨k + 1, by omega, by go_num, HR2, HB2, HBW2⟩
      case measure => simp [intOf]; omega
    · obtain rfl : k = 32 := by omega
      have HF := Aside0.mk (show d.take 32 = d from by rw [List.take_of_length_le (by omega)])
      rw [HF.out] at HR
      have hcv := own_string (P := Tryd.prog) Tryd.underlying61 Tryd.underlying5 Tryd.underlying9 (Kd.own_of_R HR.out)
      go_wp2_with fail
      go_ret
      rw [str_ints]
      exact ⟨rfl, H3.out.trans (HBW.out.mono HS1.out)⟩
end
section
set_option linter.unusedSimpArgs false
set_option linter.unusedVariables false
open Go.RowKit Go.Proofs.YtagpldkgkchfcaaDoorW.PrintWords Go.Proofs.YtagpldkgkchfcaaDoorW.PrintLast Go.Proofs.YtagpldkgkchfcaaDoorW.PrintMore Arr PTextPrints

def NumEnds (w : World) (s : ByteArray) (e : Ending) (w' : World) : Prop := ∃ v : Int, e = .returned (.tuple #[.int .i64 v, .bool (numOf s.data.toList).isSome]) ∧ (∀ n, numOf s.data.toList = some n → v = (n : Int)) ∧ (-9223372036854775808 ≤ v ∧ v ≤ 9223372036854775807) ∧ Below w.heap.size w w'
theorem bytes_bel (w : World) (e : TypeId) (s : ByteArray) : Below w.heap.size w (Lib.bytesWorld w e s) := bytes_below (Below.refl _ _) (Nat.le_refl _) e s
set_option maxHeartbeats 1000000 in
theorem num_bad (w : World) (s : ByteArray) (v : Int) (tp : TypeId) (hv : -9223372036854775808 ≤ v ∧ v ≤ 9223372036854775807) (hn : numOf s.data.toList = none)
    (hc : Calls Tryd.prog 45 #[.string s] w fun e w' => ∃ N, e = .returned (.tuple #[.int .i64 v, .iface tp (.pointer (some ⟨N, 0, none⟩))]) ∧ Below w.heap.size w w') : Calls Tryd.prog 33 #[.string s] w (NumEnds w s) := by
  have HN := Aside0.mk hn
  obtain ⟨hv0, hv1⟩ := hv
  clear hn
  go_enter Tryd.func33, Tryd.ntmps33
  go_wp2_with (go_at_call 45; refine hc.mono ?_; rintro e w1 ⟨N, rfl, hb⟩)
  go_ret2
  unfold NumEnds
  rw [HN.out]
  exact ⟨v, rfl, (fun n h => by cases h), ⟨hv0, hv1⟩, hb⟩
set_option maxHeartbeats 1000000 in
theorem number_calls (w : World) (hE : Env w) (s : ByteArray) (hs : s.size ≤ 281474976710656) : Calls Tryd.prog 33 #[.string s] w (NumEnds w s) := by
  obtain ⟨t1, p1, hv1⟩ := hE.syn
  obtain ⟨t2, p2, hv2⟩ := hE.rng
  rcases h : Lib.atoiAll s.data.toList with v | _ | _
  · have hb := Lib.atoiAll_bounds h
    have HA := Aside0.mk h
    have HC := Aside0.mk (Tryd.strconv_Atoi_ok s (by omega) v h w)
    have HE := Aside0.mk hE
    have hN : numOf s.data.toList = if 0 ≤ v ∧ v ≤ 999999 ∧ Lib.itoa v = s.data.toList then some v.toNat else none := by unfold numOf; rw [h]
    have HN := Aside0.mk hN
    obtain ⟨b0, b1⟩ := hb
    clear h hN hE hv1 hv2
    have bel : ∀ w1, (w1 = w ∨ ∃ t, w1 = Lib.bytesWorld w 5 t) → Below w.heap.size w w1 := by
      rintro w1 (rfl | ⟨t, rfl⟩)
      · exact Below.refl _ _
      · exact bytes_bel _ _ _
    have BEL := Aside0.mk bel
    clear bel
    by_cases h0 : 0 ≤ v
    · by_cases h1 : v ≤ 999999
      · by_cases h2 : Lib.itoa v = s.data.toList
        · have hq : (Lib.itoa v == s.toList) = true := by
            rw [h2, Lib.toList_data]; simp
          have HF := Aside0.mk (show numOf s.data.toList = some v.toNat by rw [HN.out, if_pos ⟨h0, h1, h2⟩])
          clear h2
          go_enter Tryd.func33, Tryd.ntmps33
          go_wp2_with (first | (go_at_call 45; refine HC.out.mono ?_; rintro e w1 ⟨rfl, hb⟩; have hb1 := Aside0.mk (BEL.out _ hb); clear hb) | (go_at_call 37; refine (itoa_calls v (by omega) (by omega) _ (HE.out.below hb1.out).pow).mono ?_; rintro e w2 ⟨rfl, hb2⟩; have HB2 := Aside0.mk (hb1.out.trans (hb2.mono hb1.out.size)); clear hb2))
          go_ret2
          unfold NumEnds
          rw [HF.out]
          exact ⟨v, rfl, (fun n h => by injection h with h; omega), ⟨b0, b1⟩, HB2.out⟩
        · have hq : (Lib.itoa v == s.toList) = false := by
            rw [Lib.toList_data, beq_eq_false_iff_ne]
            exact h2
          have HF := Aside0.mk (show numOf s.data.toList = none by rw [HN.out, if_neg (fun h => h2 h.2.2)])
          clear h2
          go_enter Tryd.func33, Tryd.ntmps33
          go_wp2_with (first | (go_at_call 45; refine HC.out.mono ?_; rintro e w1 ⟨rfl, hb⟩; have hb1 := Aside0.mk (BEL.out _ hb); clear hb) | (go_at_call 37; refine (itoa_calls v (by omega) (by omega) _ (HE.out.below hb1.out).pow).mono ?_; rintro e w2 ⟨rfl, hb2⟩; have HB2 := Aside0.mk (hb1.out.trans (hb2.mono hb1.out.size)); clear hb2))
          go_ret2
          unfold NumEnds
          rw [HF.out]
          exact ⟨v, rfl, (fun n h => by cases h), ⟨b0, b1⟩, HB2.out⟩
      · have HF := Aside0.mk (show numOf s.data.toList = none by rw [HN.out, if_neg (fun h => h1 h.2.1)])
        go_enter Tryd.func33, Tryd.ntmps33
        go_wp2_with (first | (go_at_call 45; refine HC.out.mono ?_; rintro e w1 ⟨rfl, hb⟩; have hb1 := Aside0.mk (BEL.out _ hb); clear hb))
        go_ret2
        unfold NumEnds
        rw [HF.out]
        exact ⟨v, rfl, (fun n h => by cases h), ⟨b0, b1⟩, hb1.out⟩
    · have HF := Aside0.mk (show numOf s.data.toList = none by rw [HN.out, if_neg (fun h => h0 h.1)])
      go_enter Tryd.func33, Tryd.ntmps33
      go_wp2_with (first | (go_at_call 45; refine HC.out.mono ?_; rintro e w1 ⟨rfl, hb⟩; have hb1 := Aside0.mk (BEL.out _ hb); clear hb))
      go_ret2
      unfold NumEnds
      rw [HF.out]
      exact ⟨v, rfl, (fun n h => by cases h), ⟨b0, b1⟩, hb1.out⟩
  · refine num_bad w s 0 115 (by omega) (by unfold numOf; rw [h]) ((Tryd.strconv_Atoi_syntax_var s hs h t1 p1 w hv1).mono ?_)
    rintro e w1 ⟨N, rfl, _, _, h3⟩
    exact ⟨N, rfl, h3⟩
  · refine num_bad w s _ 115 (by have := Lib.atoiSat_bounds s.data.toList; omega) (by unfold numOf; rw [h]) ((Tryd.strconv_Atoi_range_var s hs h t2 p2 w hv2).mono ?_)
    rintro e w1 ⟨N, rfl, _, _, h3⟩
    exact ⟨N, rfl, h3⟩
end
section
set_option linter.unusedSimpArgs false
set_option linter.unusedVariables false
open Go.RowKit Go.Proofs.YtagpldkgkchfcaaDoorW.PrintWords Go.Proofs.YtagpldkgkchfcaaDoorW.PrintLast Go.Proofs.YtagpldkgkchfcaaDoorW.PrintMore Arr PTextPrints

def nv (s : Bs) (i : Nat) : Int := (hv (s.getD i 0)).getD 0
def Df (s : Bs) (i j : Nat) : Int := if 2 * j + 1 < i then 16 * nv s (2 * j) + nv s (2 * j + 1) else if 2 * j < i then nv s (2 * j) else 0
def DL (s : Bs) (i : Nat) : List Int := (List.range 32).map (Df s i)
theorem DL_len (s : Bs) (i : Nat) : (DL s i).length = 32 := by simp [DL]
theorem DL_zero (s : Bs) : DL s 0 = zeros 32 := by
  unfold DL zeros
  apply List.ext_getElem (by simp)
  intro j h1 h2
  rw [List.getElem_replicate]
  simp [Df]
theorem DL_get (s : Bs) (i j : Nat) (h : j < 32) : (DL s i).getD j 0 = Df s i j := by
  unfold DL
  rw [List.getD_eq_getElem?_getD, List.getElem?_eq_getElem (by simpa using h)]
  simp
theorem DL_even (s : Bs) (q : Nat) (h : q < 32) : (DL s (2 * q)).set q (nv s (2 * q)) = DL s (2 * q + 1) ∧ Df s (2 * q) q = 0 := by
  refine ⟨?_, by unfold Df; rw [if_neg (by omega), if_neg (by omega)]⟩
  unfold DL
  apply List.ext_getElem (by simp)
  intro j h1 h2
  simp only [List.getElem_set, List.getElem_map, List.getElem_range]
  unfold Df
  by_cases e : q = j
  · subst e
    rw [if_pos rfl, if_neg (by omega), if_pos (by omega)]
  · rw [if_neg e]
    by_cases h : 2 * j + 1 < 2 * q
    · rw [if_pos h, if_pos (by omega)]
    · rw [if_neg h, if_neg (by omega), if_neg (by omega), if_neg (by omega)]
theorem DL_odd (s : Bs) (q : Nat) (h : q < 32) : (DL s (2 * q + 1)).set q (16 * nv s (2 * q) + nv s (2 * q + 1)) = DL s (2 * q + 2) ∧ Df s (2 * q + 1) q = nv s (2 * q) := by
  refine ⟨?_, by unfold Df; rw [if_neg (by omega), if_pos (by omega)]⟩
  unfold DL
  apply List.ext_getElem (by simp)
  intro j h1 h2
  simp only [List.getElem_set, List.getElem_map, List.getElem_range]
  unfold Df
  by_cases e : q = j
  · subst e
    rw [if_pos rfl, if_pos (by omega)]
  · rw [if_neg e]
    by_cases h : 2 * j + 1 < 2 * q + 1
    · rw [if_pos h, if_pos (by omega)]
    · rw [if_neg h, if_neg (by omega), if_neg (by omega), if_neg (by omega)]
theorem nv_range (s : Bs) (i : Nat) : 0 ≤ nv s i ∧ nv s i ≤ 15 := by
  unfold nv
  cases h : hv (s.getD i 0) with
  | none => simp
  | some n => have := hv_some h; simp; omega
theorem DL_step (s : Bs) (k q : Nat) (hq : q = k / 2) (hk : k < 64) : (DL s k).set q (16 * Df s k q + nv s k) = DL s (k + 1) ∧ 0 ≤ Df s k q ∧ Df s k q ≤ 15 := by
  have hn := nv_range s (2 * q)
  rcases (by omega : k = 2 * q ∨ k = 2 * q + 1) with e | e
  · subst e
    obtain ⟨h1, h2⟩ := DL_even s q (by omega)
    rw [h2]
    exact ⟨by simpa using h1, by omega, by omega⟩
  · subst e
    obtain ⟨h1, h2⟩ := DL_odd s q (by omega)
    rw [h2]
    exact ⟨h1, hn.1, hn.2⟩
theorem unhex_all : ∀ (n : Nat) (s : Bs), s.length = 2 * n → (∀ i, i < s.length → (hv (s.getD i 0)).isSome = true) → unhex s = some ((List.range n).map fun j => 16 * nv s (2 * j) + nv s (2 * j + 1))
  | 0, s, hl, _ => by
    obtain rfl : s = [] := List.length_eq_zero_iff.1 (by omega)
    rfl
  | n + 1, s, hl, h => by
    match s, hl, h with
    | a :: b :: r, hl, h =>
      have h0 := h 0 (by simp)
      have h1 := h 1 (by simp)
      have ih := unhex_all n r (by simp at hl; omega) (fun i hi => by have := h (i + 2) (by simp; omega); simpa using this)
      simp only [List.getD_cons_zero, List.getD_cons_succ] at h0 h1
      obtain ⟨x, hx⟩ := Option.isSome_iff_exists.1 h0
      obtain ⟨y, hy⟩ := Option.isSome_iff_exists.1 h1
      unfold unhex
      rw [hx, hy, ih]
      simp only
      rw [List.range_succ_eq_map, List.map_cons, List.map_map]
      congr 2
      · simp [nv, hx, hy]
theorem unhex_none : ∀ (m : Nat) (s : Bs), s.length ≤ m → (∃ i, i < s.length ∧ hv (s.getD i 0) = none) → unhex s = none := by
  intro m
  induction m with
  | zero => intro s hs ⟨i, hi, _⟩; omega
  | succ m ih =>
    intro s hs ⟨i, hi, h⟩
    match s, hs, hi, h with
    | [], _, hi, _ => simp at hi
    | [_], _, _, _ => rfl
    | a :: b :: r, hs, hi, h =>
      unfold unhex
      match i, hi, h with
      | 0, _, h => simp only [List.getD_cons_zero] at h; rw [h]
      | 1, _, h => simp only [List.getD_cons_succ, List.getD_cons_zero] at h; rw [h]; split <;> simp_all
      | i + 2, hi, h =>
        rw [ih r (by simp at hs; omega) ⟨i, by simp at hi; omega, by simpa using h⟩]
        split <;> simp_all
theorem Df_range (s : Bs) (i j : Nat) : 0 ≤ Df s i j ∧ Df s i j ≤ 255 := by
  have h1 := nv_range s (2 * j)
  have h2 := nv_range s (2 * j + 1)
  unfold Df
  split
  · omega
  · split <;> omega
theorem or16 (x k : Int) (hx : 0 ≤ x ∧ x ≤ 15) (hk : 0 ≤ k ∧ k ≤ 15) : Go.bits .or .u8 (16 * x) k = 16 * x + k := by
  have h : ∀ i j : Fin 16, Go.bits .or .u8 (16 * (i.val : Int)) (j.val : Int) = 16 * (i.val : Int) + (j.val : Int) := by decide +kernel
  have := h ⟨x.toNat, by omega⟩ ⟨k.toNat, by omega⟩
  rwa [show ((x.toNat : Nat) : Int) = x from by omega, show ((k.toNat : Nat) : Int) = k from by omega] at this
abbrev DB (w : World) (g : Nat) (d : List Int) : Prop := Blk w g 33 (encs (Value.int .u8) d)
theorem zero33 : (Tryd.prog.info? 33).map (·.zero) = some (some (.agg (encs (Value.int .u8) (zeros 32)).toArray)) := by kernel_rfl
theorem encs_one (k : IntKind) (d : List Int) : ∀ v ∈ encs (Value.int k) d, v.oneCell' = true := by
  intro v hv
  unfold encs at hv
  obtain ⟨x, _, rfl⟩ := List.mem_map.1 hv
  rfl
theorem size33 (d : List Int) (hl : d.length = 32) : (Tryd.prog.info? 33).map (·.size) = some (encs (Value.int .u8) d).length := by
  rw [show (encs (Value.int .u8) d).length = 32 by simp [encs, hl]]; exact info33
section
variable {ops : Array Oper} {rest : List Oper} {o : Oper} {a : Act} {Q : Exit → Act → World → Prop} {w0 W : World} {B : Nat}
theorem alloc33 (hgd : o.guard = none) (ho : o.op = .alloc 33)
    (h : ∀ w1 g, W.heap.size ≤ g → DB w1 g (zeros 32) → W.grownBy w1 none → wpList Tryd.prog ops Q rest (a.put o.dst (.pointer (some ⟨g, 0, none⟩))) w1) : wpList Tryd.prog ops Q (o :: rest) a W :=
  wpl_alloc hgd 33 ho _ zero33 _ rfl h
theorem load33 (hgd : o.guard = none) (p : Operand) (ho : o.op = .load 33 p) (g : Nat) (hp : a.eval p = .pointer (some ⟨g, 0, none⟩)) (d : List Int) (hl : d.length = 32) (hb : DB W g d)
    (h : wpList Tryd.prog ops Q rest (a.put o.dst (.agg (encs (Value.int .u8) d).toArray)) W) : wpList Tryd.prog ops Q (o :: rest) a W :=
  wpl_loadAll hgd 33 p ho g hp hb Tryd.underlying33 rfl (size33 d hl) h
theorem store33 (hgd : o.guard = none) (hN : o.dst = none) (p x : Operand) (ho : o.op = .store 33 p x) (g : Nat) (hp : a.eval p = .pointer (some ⟨g, 0, none⟩)) (d : List Int) (hl : d.length = 32) (hx : a.eval x = .agg (encs (Value.int .u8) d).toArray) {m : List Int} (hm : m.length = 32) (hb : DB W g m)
    (h : ∀ w1, DB w1 g d → W.grownBy w1 (some g) → w1.heap.size = W.heap.size → wpList Tryd.prog ops Q rest a w1) : wpList Tryd.prog ops Q (o :: rest) a W :=
  wpl_storeAll hgd hN 33 p x ho g hp (encs (Value.int .u8) d) hx (size33 d hl) (encs_one .u8 d) hb (by simp [encs, hl, hm]) h
end
theorem idx_calls (c : UInt8) (w : World) : Calls Tryd.prog 64 #[.string ⟨#[48, 49, 50, 51, 52, 53, 54, 55, 56, 57, 97, 98, 99, 100, 101, 102]⟩, .int .u8 (c.toNat : Int)] w fun e w' => e = .returned (.int .i64 (Lib.indexByte digits c)) ∧ w' = w := by
  have h := Tryd.strings_IndexByte ⟨#[48, 49, 50, 51, 52, 53, 54, 55, 56, 57, 97, 98, 99, 100, 101, 102]⟩ (c.toNat : Int) w
  refine h.mono fun e w' ⟨he, hw⟩ => ⟨?_, hw⟩
  rw [he]
  have : ((c.toNat : Int).toNat).toUInt8 = c := by simp
  rw [this]
  rfl
def DataEnds (w : World) (s : ByteArray) (e : Ending) (w' : World) : Prop := ∃ d : List Int, e = .returned (.tuple #[.agg (encs (Value.int .u8) d).toArray, .bool (dataOf s.data.toList).isSome]) ∧ d.length = 32 ∧ (∀ d', dataOf s.data.toList = some d' → d = d') ∧ Below w.heap.size w w'
set_option maxRecDepth 10000 in
set_option maxHeartbeats 2000000 in
theorem data_calls (w : World) (s : ByteArray) : Calls Tryd.prog 47 #[.string s] w (DataEnds w s) := by
  have HK := Aside0.mk (Keeps.refl w)
  by_cases hl : s.size = 64
  · have HL := Aside0.mk hl
    have hl2 : ((s.size : Int) == 64) = true := by rw [beq_iff_eq]; omega
    have hl3 : ((s.size : Int) != 64) = false := by rw [bne_eq_false_iff_eq]; omega
    have hl4 : (s.size : Int) = 64 := by omega
    have hsz : s.size ≤ 64 := by omega
    have hsz2 : 64 ≤ s.size := by omega
    clear hl
    go_enter Tryd.func47, Tryd.ntmps47
    go_wp2_with (first | ((with_reducible refine gate_dst (N := 2) rfl ?_); refine alloc33 rfl rfl ?_; intro w1 rg h1 h2 h3; have HK1 := Aside0.mk (HK.out.new h3 h2); have HR1 := Aside0.mk h1; clear h2 h3) | ((with_reducible refine gate_dst (N := 4) rfl ?_); refine alloc33 rfl rfl ?_; intro w2 dg h4 h5 h6; have HK2 := Aside0.mk (HK1.out.new h6 h5); have HD2 := Aside0.mk h4; clear h5 h6))
    have HNE := Aside0.mk (show dg ≠ rg by have a1 := HK1.out.head.lt; have a2 := HD2.out; omega)
    have HDG := Aside0.mk (show w.heap.size ≤ dg from Nat.le_trans HK1.out.size HD2.out)
    have hdd := HK2.out.head
    clear h4 h1
    go_loopw [5, 6, 13] (fun _ _ i wr => ∃ k : Nat, k ≤ 64 ∧ i = .int .i64 k ∧ Aside0 (∀ j, j < k → (hv (s.data.toList.getD j 0)).isSome = true) ∧ Aside0 (Keeps w [(dg, 33, encs (Value.int .u8) (DL s.data.toList k)), (rg, 33, encs (Value.int .u8) (zeros 32))] wr)) (fun _ _ i _ => 64 - (intOf i).toNat)
    case atStart => exact ⟨0, by omega, rfl, ⟨fun j hj => by omega⟩, by rw [DL_zero]; exact HK2⟩
    case round =>
      obtain ⟨k, hk, rfl, HS, HB⟩ := hrel
      rename World => wr
      by_cases hlt : k < 64
      · obtain ⟨c, hc⟩ : ∃ c : UInt8, c = s.data.toList.getD k 0 := ⟨_, rfl⟩
        have hsk : ∀ h : k < s.size, s[k]'h = c := fun h => by
          rw [hc, List.getD_eq_getElem?_getD, List.getElem?_eq_getElem (by rw [← Lib.size_eq]; exact h)]; rfl
        obtain ⟨kx, hkx⟩ : ∃ kx, kx = Lib.indexByte digits c := ⟨_, rfl⟩
        have HI := Aside0.mk (fun w' => by have := idx_calls c w'; rw [← hkx] at this; exact this)
        by_cases hneg : kx < 0
        · have HN := Aside0.mk (show dataOf s.data.toList = none by
            unfold dataOf
            rw [if_pos (by rw [← Lib.size_eq]; exact HL.out)]
            exact unhex_none _ _ (Nat.le_refl _) ⟨k, by rw [← Lib.size_eq]; omega, by rw [← hc]; unfold hv; rw [← hkx, if_pos hneg]⟩)
          clear hkx hc
          go_wp2_with (first | (go_at_call 64; refine (HI.out _).mono ?_; rintro e w' ⟨rfl, rfl⟩) | ((with_reducible refine gate_dst (N := 22) rfl ?_); refine load33 rfl (.tmp 4) rfl dg rfl (DL s.data.toList k) (DL_len _ _) HB.out.head ?_) | (refine store33 rfl rfl (.tmp 2) (.tmp 22) rfl rg rfl (DL s.data.toList k) (DL_len _ _) rfl (m := zeros 32) rfl HB.out.tail.head ?_; intro w3 h7 h8 h9; have HK3 := Aside0.mk (HB.out.put1 h8 HR1.out HNE.out (by simp) h7); clear h7 h8 h9))
          refine bodyPost_ret (results_ct rfl _ _ rg 33 _ (0, 0) _ rfl HK3.out.tail.head Tryd.underlying33 rfl (by rw [List.size_toArray]; exact size33 _ (DL_len _ _))) rfl ?_
          unfold DataEnds
          rw [HN.out]
          exact ⟨_, rfl, DL_len _ _, (fun d' h => by cases h), HK3.out.below⟩
        · have hh : hv c = some kx := by unfold hv; rw [← hkx, if_neg hneg]
          obtain ⟨k0, k1, _⟩ := hv_some hh
          have HS2 := Aside0.mk (show ∀ j, j < k + 1 → (hv (s.data.toList.getD j 0)).isSome = true from fun j hj => by
            rcases Nat.lt_or_ge j k with h | h
            · exact HS.out j h
            · obtain rfl : j = k := by omega
              rw [← hc, hh]; rfl)
          obtain ⟨q, hq⟩ : ∃ q, q = k / 2 := ⟨_, rfl⟩
          obtain ⟨y, hy⟩ : ∃ y, y = Df s.data.toList k q := ⟨_, rfl⟩
          have hst := DL_step s.data.toList k q hq hlt
          rw [show nv s.data.toList k = kx by unfold nv; rw [← hc, hh]; rfl, ← hy] at hst
          obtain ⟨s1, y0, y1⟩ := hst
          have hcell : wr.cell? ⟨dg, q, none⟩ = some (.int .u8 y) := by
            rw [hy, ← DL_get s.data.toList k q (by omega)]
            exact HB.out.head.encAt (0 : Int) q (by rw [DL_len]; omega)
          have hfz : wr.frozen? ⟨dg, q, none⟩ = false := HB.out.head.frozen q
          have HST := Aside0.mk s1
          have hq2 : (k : Int) / 2 = (q : Int) := by omega
          have hql : q < 32 := by omega
          have HO := Aside0.mk (show Go.bits .or .u8 (y * 16) kx = 16 * y + kx by rw [Int.mul_comm]; exact or16 y kx ⟨y0, y1⟩ ⟨k0, k1⟩)
          clear hkx hc hh s1 hy hq
          go_wp2_with (first | (go_at_call 64; refine (HI.out _).mono ?_; rintro e w' ⟨rfl, rfl⟩))
          rw [HO.out]
          refine ⟨⟨k + 1, by omega, by go_num, HS2, ?_⟩, by simp [intOf]; omega⟩
          exact ⟨HB.out.put (grown_set _ _ _ _) HDG.out (by simpa using HNE.out.symm) (by have := HB.out.head.encSet q (16 * y + kx); rwa [HST.out] at this)⟩
      · obtain rfl : k = 64 := by omega
        have HN := Aside0.mk (show dataOf s.data.toList = some (DL s.data.toList 64) by
          unfold dataOf
          rw [if_pos (by rw [← Lib.size_eq]; exact HL.out), unhex_all 32 _ (by rw [← Lib.size_eq]; exact HL.out) (fun i hi => HS.out i (by rw [← Lib.size_eq] at hi; omega))]
          congr 1)
        go_wp2_with (first | ((with_reducible refine gate_dst (N := 35) rfl ?_); refine load33 rfl (.tmp 4) rfl dg rfl (DL s.data.toList 64) (DL_len _ _) HB.out.head ?_) | (refine store33 rfl rfl (.tmp 2) (.tmp 35) rfl rg rfl (DL s.data.toList 64) (DL_len _ _) rfl (m := zeros 32) rfl HB.out.tail.head ?_; intro w3 h7 h8 h9; have HK3 := Aside0.mk (HB.out.put1 h8 HR1.out HNE.out (by simp) h7); clear h7 h8 h9))
        refine bodyPost_ret (results_ct rfl _ _ rg 33 _ (0, 0) _ rfl HK3.out.tail.head Tryd.underlying33 rfl (by rw [List.size_toArray]; exact size33 _ (DL_len _ _))) rfl ?_
        unfold DataEnds
        rw [HN.out]
        exact ⟨_, rfl, DL_len _ _, (fun d' h => by injection h), HK3.out.below⟩
  · have HF := Aside0.mk (show dataOf s.data.toList = none by unfold dataOf; rw [if_neg (by rw [← Lib.size_eq]; exact hl)])
    have hl2 : ((s.size : Int) == 64) = false := by rw [beq_eq_false_iff_ne]; omega
    have hl3 : ((s.size : Int) != 64) = true := by rw [bne_iff_ne]; omega
    clear hl
    go_enter Tryd.func47, Tryd.ntmps47
    go_wp2_with (first | ((with_reducible refine gate_dst (N := 2) rfl ?_); refine alloc33 rfl rfl ?_; intro w1 rg h1 h2 h3; have HK1 := Aside0.mk (HK.out.new h3 h2); have HR1 := Aside0.mk h1; clear h2 h3) | ((with_reducible refine gate_dst (N := 4) rfl ?_); refine alloc33 rfl rfl ?_; intro w2 dg h4 h5 h6; have HK2 := Aside0.mk (HK1.out.new h6 h5); have HD2 := Aside0.mk h4; clear h5 h6) | ((with_reducible refine gate_dst (N := 10) rfl ?_); refine load33 rfl (.tmp 4) rfl dg rfl (zeros 32) rfl HK2.out.head ?_) | (refine store33 rfl rfl (.tmp 2) (.tmp 10) rfl rg rfl (zeros 32) rfl rfl (m := zeros 32) rfl HK2.out.tail.head ?_; intro w3 h7 h8 h9; have HK3 := Aside0.mk (HK2.out.put1 h8 HR1.out (by have a1 := HK1.out.head.lt; have a2 := h4; show dg ≠ rg; omega) (by simp) h7); clear h7 h8 h9))
    refine bodyPost_ret (results_ct rfl _ _ rg 33 _ (0, 0) _ rfl HK3.out.tail.head Tryd.underlying33 rfl (by rw [List.size_toArray]; exact size33 (zeros 32) rfl)) rfl ?_
    unfold DataEnds
    rw [HF.out]
    exact ⟨zeros 32, rfl, rfl, (fun d' h => by cases h), HK3.out.below⟩
end
section
set_option linter.unusedSimpArgs false
set_option linter.unusedVariables false
open Go.RowKit Go.Proofs.YtagpldkgkchfcaaDoorW.PrintWords Go.Proofs.YtagpldkgkchfcaaDoorW.PrintLast Go.Proofs.YtagpldkgkchfcaaDoorW.PrintMore Arr PTextPrints

def str (l : Bs) : ByteArray := ⟨l.toArray⟩
def sl (l : List Bs) : List ByteArray := l.map str
theorem str_data (l : Bs) : (str l).data.toList = l := by simp [str]
theorem sl_data (l : List Bs) : (sl l).map (·.data.toList) = l := by unfold sl; rw [List.map_map]; exact (List.map_congr_left (fun b _ => by simp [str])).trans (List.map_id l)
def ws (w : Word) : S89 := ⟨str w.name, w.kind, w.sync, str w.tells⟩
theorem words_eq : text_words.f = some (wordList.map ws) := by rfl
def word0 : Word := ⟨[], 0, false, []⟩
def wd (k : Nat) : Word := wordList.getD k word0
def wordC (w : Word) : List Value := [.string (str w.name), .int .i64 w.kind, .bool w.sync, .string (str w.tells)]
theorem size89 : (Tryd.prog.info? 89).map (·.size) = some 4 := by kernel_rfl
theorem zero89 : (Tryd.prog.info? 89).map (·.zero) = some (some (.agg (wordC word0).toArray)) := by kernel_rfl
theorem wordC_one (x : Word) : ∀ v ∈ wordC x, v.oneCell' = true := by
  intro v hv
  simp only [wordC, List.mem_cons, List.not_mem_nil, or_false] at hv
  rcases hv with rfl | rfl | rfl | rfl <;> rfl
abbrev RS (w : World) (B : Nat) (v : Value) (l : List ByteArray) : Prop := Kd.R Kd.string 9 w B (fun _ => True) v l
theorem at89 {w : World} {A : Option Addr} (h : Kd.C k89 w A 13 (wordList.map ws)) (k : Nat) (hk : k < 13) : ∃ ad, A = some ad ∧ ∀ j u, (wordC (wd k))[j]? = some u → w.cell? ((ad.add (k * 4)).add j) = some u := by
  have h2 := Kd.C_get h (ws word0) (k : Int) (by omega) (by omega)
  rw [show k89.sz = 4 from rfl, Int.toNat_natCast] at h2
  obtain ⟨ad, c, e, _, hK, hc0⟩ := h2
  have h3 := k89_open hK
  rw [show (wordList.map ws).getD k (ws word0) = ws (wd k) by unfold wd; rw [List.getD_eq_getElem?_getD, List.getD_eq_getElem?_getD, List.getElem?_map]; cases wordList[k]? <;> rfl] at h3
  refine ⟨ad, e, fun j u hu => ?_⟩
  rw [add_add]
  exact hc0 j u (by rw [h3]; exact hu)
section
variable {ops : Array Oper} {rest : List Oper} {o : Oper} {a : Act} {Q : Exit → Act → World → Prop} {w0 W : World} {B : Nat}
theorem load89 (hgd : o.guard = none) (p : Operand) (ho : o.op = .load 89 p) (ad : Addr) (hp : a.eval p = .pointer (some ad)) (x : Word) (hc : ∀ j u, (wordC x)[j]? = some u → W.cell? (ad.add j) = some u)
    (h : wpList Tryd.prog ops Q rest (a.put o.dst (.agg (wordC x).toArray)) W) : wpList Tryd.prog ops Q (o :: rest) a W :=
  wpl_load hgd 89 p ho ad hp (wordC x) Tryd.underlying89 rfl size89 hc h
theorem alloc89 (hgd : o.guard = none) (ho : o.op = .alloc 89)
    (h : ∀ w1 g, W.heap.size ≤ g → Blk w1 g 89 (wordC word0) → W.grownBy w1 none → wpList Tryd.prog ops Q rest (a.put o.dst (.pointer (some ⟨g, 0, none⟩))) w1) : wpList Tryd.prog ops Q (o :: rest) a W :=
  wpl_alloc hgd 89 ho _ zero89 _ rfl h
theorem store89 (hgd : o.guard = none) (hN : o.dst = none) (p x : Operand) (ho : o.op = .store 89 p x) (g : Nat) (hp : a.eval p = .pointer (some ⟨g, 0, none⟩)) (f : Word) (hx : a.eval x = .agg (wordC f).toArray) {M : Word} (hb : Blk W g 89 (wordC M))
    (h : ∀ w1, Blk w1 g 89 (wordC f) → W.grownBy w1 (some g) → w1.heap.size = W.heap.size → wpList Tryd.prog ops Q rest a w1) : wpList Tryd.prog ops Q (o :: rest) a W :=
  wpl_storeAll hgd hN 89 p x ho g hp (wordC f) hx size89 (wordC_one f) hb rfl h
theorem box35 (hgd : o.guard = none) (x : Operand) (ho : o.op = .box 35 x) (f : Op) (hx : a.eval x = .agg (opC f).toArray)
    (h : ∀ w1 g, W.heap.size ≤ g → Blk w1 g 35 (opC f) → W.grownBy w1 none → wpList Tryd.prog ops Q rest (a.put o.dst (.pointer (some ⟨g, 0, none⟩))) w1) : wpList Tryd.prog ops Q (o :: rest) a W :=
  wpl_box hgd 35 x ho _ hx _ rfl h
/-- A string appended. -/
theorem app69 (hgd : o.guard = none) (s x : Operand) (ho : o.op = .call { callee := .builtin .append, args := #[s, x], argTypes := #[69, 69] })
    (v : Value) (l : List ByteArray) (p : ByteArray) (hs : a.eval s = v) (hx : a.eval x = .slice (some ⟨W.heap.size, 0, none⟩) 1 1) (HO : RS W B v l) (HB : Below B w0 W) (hb : B ≤ W.heap.size) (hl : l.length ≤ 100000)
    (h : ∀ v1 w1, RS w1 B v1 (l ++ [p]) → Below B w0 w1 → W.grownBy w1 v.ownBlock → (v1.ownBlock = v.ownBlock ∨ ∃ b, v1.ownBlock = some b ∧ W.heap.size ≤ b) → wpList Tryd.prog ops Q rest (a.put o.dst v1) w1) : wpList Tryd.prog ops Q (o :: rest) a (W.alloc (.cells #[.string p] 9)) :=
  Kd.R_append Kd.string (w0 := w0) B hgd s x 69 9 (.string ByteArray.empty) 16 ho Tryd.underlying69 info9 rfl (by decide) (by omega) v l p [.string p] (fun _ => True) (fun _ => False) hs hx rfl (fun _ hk => hk.elim) (fun _ _ => trivial) HO HB hb (by omega)
    fun v1 w1 h1 h2 h3 h4 => h v1 w1 h1 h2 h3 h4
end
/-- The data of an operation, read. -/
theorem op_data {w : World} {g : Nat} {f : Op} (h : Blk w g 35 (opC f)) (j : Nat) (u : Value) (hu : (encs (Value.int .u8) f.data)[j]? = some u) : w.cell? ((⟨g, 3, none⟩ : Addr).add j) = some u := by
  rw [addr_at]
  refine h.cell ?_
  have hj := (List.getElem?_eq_some_iff.1 hu).1
  unfold opC
  rw [List.getElem?_append_right (by simp), List.getElem?_append_left (by simp; omega)]
  simpa using hu
theorem RS_lit (W : World) (B : Nat) (p : ByteArray) (hb : B ≤ W.heap.size) : RS (W.alloc (.cells #[.string p] 9)) B (.slice (some ⟨W.heap.size, 0, none⟩) 1 1) [p] :=
  Kd.R_of_own (own_lit_of (enc := Value.string) W B 9 [p] hb (by simp)) (fun _ _ => trivial)
end
section
set_option linter.unusedSimpArgs false
set_option linter.unusedVariables false
open Go.RowKit Go.Proofs.YtagpldkgkchfcaaDoorW.PrintWords Go.Proofs.YtagpldkgkchfcaaDoorW.PrintLast Go.Proofs.YtagpldkgkchfcaaDoorW.PrintMore Arr PTextPrints

/-- An operation as a walk asks for it. -/
structure GoodOp (o : Op) : Prop where
  len : o.data.length = 32
  byte : ∀ y ∈ o.data, 0 ≤ y ∧ y ≤ 255
  id : -9223372036854775808 ≤ o.id ∧ o.id ≤ 9223372036854775807
  blk : -9223372036854775808 ≤ o.blk ∧ o.blk ≤ 9223372036854775807
  policy : -9223372036854775808 ≤ o.policy ∧ o.policy ≤ 9223372036854775807
  kind : -9223372036854775808 ≤ o.kind ∧ o.kind ≤ 9223372036854775807
theorem Good.op {x : Step} (h : Good x) : GoodOp x.op := ⟨h.len, h.byte, h.id, h.blk, h.policy, h.kind⟩
theorem sl_snoc (l : List Bs) (b : Bs) : sl (l ++ [b]) = sl l ++ [str b] := by simp [sl]
theorem take_tell (o : Op) (n : Bs) (ts : Bs) (m : Nat) (h : m < ts.length) : n :: (ts.take (m + 1)).map (tell o) = (n :: (ts.take m).map (tell o)) ++ [tell o (ts.getD m 0)] := by
  rw [List.take_add_one, List.getElem?_eq_getElem h, List.getD_eq_getElem?_getD, List.getElem?_eq_getElem h]
  simp only [Option.toList_some, List.map_append, List.map_cons, List.map_nil, Option.getD_some, List.cons_append]
theorem keeps_row {w0 w w' : World} {bs : List (Nat × TypeId × List Value)} (h : Keeps w0 bs w) {row : Option Nat} (hg : w.grownBy w' row) (hB : ∀ k, row = some k → w0.heap.size ≤ k) (hne : ∀ b ∈ bs, some b.1 ≠ row) : Keeps w0 bs w' :=
  ⟨h.1.grown hg h.1.size hB, fun b hm => (h.2 b hm).grown hg (hne b hm)⟩
theorem op_sync (f : Op) (h : f.data.length = 32) : (opC f)[35]? = some (.bool f.sync) := by
  unfold opC
  rw [List.getElem?_append_right (by simp), List.getElem?_append_right (by simp [encs, h])]
  simp [encs, h]
theorem op_policy (f : Op) (h : f.data.length = 32) : (opC f)[36]? = some (.int .i64 f.policy) := by
  unfold opC
  rw [List.getElem?_append_right (by simp), List.getElem?_append_right (by simp [encs, h])]
  simp [encs, h]
theorem fst_ne {w w' : World} {B g wg : Nat} {v : Value} {l : List ByteArray} {c1 c2 : List Value} (h : RS w B v l) (hb : Keeps w' [(wg, 89, c1), (g, 35, c2)] w) : ∀ b ∈ [(wg, (89 : TypeId), c1), (g, 35, c2)], some b.1 ≠ v.ownBlock := by
  intro b hm
  simp only [List.mem_cons, List.not_mem_nil, or_false] at hm
  rcases hm with rfl | rfl
  · exact own_ne (Kd.own_of_R h) hb.head (by decide)
  · exact own_ne (Kd.own_of_R h) hb.tail.head (by decide)
def FieldsEnd (w : World) (o : Op) (e : Ending) (w' : World) : Prop := ∃ v, e = .returned v ∧ RS w' w.heap.size v (sl (fieldsOf o)) ∧ Below w.heap.size w w'
theorem find_none {o : Op} (h : ∀ j, j < 13 → ((wd j).kind == o.kind && (wd j).sync == o.sync) = false) : fieldsOf o = [] := by
  have : wordList.find? (fun w => w.kind == o.kind && w.sync == o.sync) = none := by
    rw [List.find?_eq_none]
    intro w hw
    obtain ⟨j, hj, rfl⟩ := List.getElem_of_mem hw
    have := h j (by simpa [wordList] using hj)
    unfold wd at this
    rw [List.getD_eq_getElem?_getD, List.getElem?_eq_getElem hj] at this
    simpa using this
  unfold fieldsOf
  rw [this]
theorem find_some {o : Op} {k : Nat} (hk : k < 13) (h : ∀ j, j < k → ((wd j).kind == o.kind && (wd j).sync == o.sync) = false) (hm : ((wd k).kind == o.kind && (wd k).sync == o.sync) = true) : fieldsOf o = (wd k).name :: (wd k).tells.map (tell o) := by
  have hl : wordList.length = 13 := rfl
  have : wordList.find? (fun w => w.kind == o.kind && w.sync == o.sync) = some (wd k) := by
    rw [List.find?_eq_some_iff_getElem]
    refine ⟨hm, k, by omega, ?_, fun j hj => ?_⟩
    · unfold wd; rw [List.getD_eq_getElem?_getD, List.getElem?_eq_getElem (by omega)]; rfl
    · have := h j hj
      unfold wd at this
      rw [List.getD_eq_getElem?_getD, List.getElem?_eq_getElem (by omega)] at this
      simp only [Option.getD_some] at this
      rw [this]; rfl
  unfold fieldsOf
  rw [this]
theorem wd_mem {k : Nat} (h : k < 13) : wd k ∈ wordList := by
  unfold wd
  rw [List.getD_eq_getElem?_getD, List.getElem?_eq_getElem (by show k < 13; exact h)]
  exact List.getElem_mem _
theorem tells_of {k : Nat} (h : k < 13) : (wd k).tells.length ≤ 3 ∧ ∀ c ∈ (wd k).tells, c = 105 ∨ c = 98 ∨ c = 112 ∨ c = 100 := by
  have := word_tells (wd_mem h)
  unfold tellsOk at this
  rcases this with e | e | e | e | e <;> rw [e] <;> decide
set_option maxRecDepth 10000 in
set_option maxHeartbeats 4000000 in
theorem fields_calls (w : World) (hE : Env w) (f : Op) (hf : GoodOp f) : Calls Tryd.prog 38 #[.agg (opC f).toArray] w (FieldsEnd w f) := by
  have HK := Aside0.mk (Keeps.refl w)
  have HE := Aside0.mk hE
  obtain ⟨hlen, hbyte, ⟨i0, i1⟩, ⟨b0, b1⟩, ⟨p0, p1⟩, _⟩ := hf
  have HBY := Aside0.mk hbyte
  have HLEN := Aside0.mk hlen
  clear hE hbyte hlen
  go_enter Tryd.func38, Tryd.ntmps38
  go_wp2_with (first | ((with_reducible refine gate_dst (N := 1) rfl ?_); refine box35 rfl (.tmp 0) rfl f rfl ?_; intro w1 g h1 h2 h3; have HK1 := Aside0.mk (HK.out.new h3 h2); have HG := Aside0.mk h1; clear h1 h2 h3) | (go_at_call 46; refine (text_words.calls _ _ words_eq).mono ?_; rintro e w2 ⟨v0, rfl, hR, hb⟩; have HK2 := Aside0.mk (HK1.out.step hb); have HR := Aside0.mk hR; clear hR hb; obtain ⟨A, c0, rfl, hc13, hC⟩ := Kd.R_reads HR.out; have HC := Aside0.mk (show Kd.C k89 w2 A 13 (wordList.map ws) from hC); clear hC HR))
  go_loopw [4, 5, 6, 9] (fun _ _ _ i wr => ∃ k : Nat, k ≤ 13 ∧ i = .int .i64 k ∧ Aside0 (∀ j, j < k → ((wd j).kind == f.kind && (wd j).sync == f.sync) = false) ∧ Aside0 (Keeps w [(g, 35, opC f)] wr) ∧ Aside0 (Below w2.heap.size w2 wr)) (fun _ _ _ i _ => 13 - (intOf i).toNat)
  case atStart => exact ⟨0, by omega, rfl, ⟨fun j hj => by omega⟩, HK2, ⟨Below.refl _ _⟩⟩
  case round =>
    obtain ⟨k, hk, rfl, HN, HB, HW⟩ := hrel
    rename World => wr
    by_cases hlt : k < 13
    · obtain ⟨ad, hA, hcx⟩ := at89 (Kd.C_below HC.out HW.out) k hlt
      subst hA
      have HX := Aside0.mk hcx
      have HTL := Aside0.mk (tells_of hlt)
      have HTK := Aside0.mk (fun (h1 : (wd k).kind = f.kind) (h2 : (wd k).sync = f.sync) => find_some (o := f) hlt HN.out (by rw [h1, h2]; simp))
      have HNX := Aside0.mk (fun (h : ((wd k).kind == f.kind && (wd k).sync == f.sync) = false) => (show ∀ j, j < k + 1 → ((wd j).kind == f.kind && (wd j).sync == f.sync) = false from fun j hj => by
        rcases Nat.lt_or_ge j k with h' | h'
        · exact HN.out j h'
        · obtain rfl : j = k := by omega
          exact h))
      obtain ⟨wk, hwk⟩ : ∃ wk, wk = wd k := ⟨_, rfl⟩
      rw [← hwk] at HX HTL HTK HNX
      clear hcx hwk
      have hx0 := HB.out.head.cell (i := 0) (v := .int .i64 f.kind) rfl
      have HSY := Aside0.mk (op_sync f HLEN.out)
      by_cases hkd : wk.kind = f.kind
      · by_cases hsy : wk.sync = f.sync
        · have HFI := Aside0.mk (HTK.out hkd hsy)
          have hq : (wk.kind != f.kind) = false := by rw [bne_eq_false_iff_eq]; exact hkd
          have hq2 : (wk.sync == f.sync) = true := by rw [beq_iff_eq]; exact hsy
          clear hkd hsy
          go_upto_region 6 with (first | ((with_reducible refine gate_dst (N := 12) rfl ?_); refine load89 rfl (.tmp 11) rfl _ rfl wk HX.out ?_) | ((with_reducible refine gate_dst (N := 4) rfl ?_); refine alloc89 rfl rfl ?_; intro w3 wg h4 h5 h6; have HK3 := Aside0.mk (HB.out.new h6 h5); have HW3 := Aside0.mk (HW.out.trans ((grown_fresh h6).mono HW.out.size)); have HWG := Aside0.mk (show w.heap.size ≤ wg from Nat.le_trans HB.out.size h4); have HWG2 := Aside0.mk (show w2.heap.size ≤ wg from Nat.le_trans HW.out.size h4); have HGN := Aside0.mk (show g ≠ wg by have a1 := HB.out.head.lt; have a2 := h4; omega); clear h4 h5 h6) | (refine store89 rfl rfl (.tmp 4) (.tmp 12) rfl wg rfl wk rfl (M := word0) HK3.out.head ?_; intro w4 h7 h8 h9; have HK4 := Aside0.mk (HK3.out.put h8 HWG.out (by simpa using HGN.out) h7); have HW4 := Aside0.mk (below_grown HW3.out HWG2.out HW3.out.size h8); have y0 := h7.cell (i := 0) (v := .string (str wk.name)) rfl; have y1 := h7.cell (i := 1) (v := .int .i64 wk.kind) rfl; have y2 := h7.cell (i := 2) (v := .bool wk.sync) rfl; have y3 := h7.cell (i := 3) (v := .string (str wk.tells)) rfl; have x0 := HK4.out.tail.head.cell (i := 0) (v := .int .i64 f.kind) rfl; have x4 := HK4.out.tail.head.cell (i := 35) (v := .bool f.sync) HSY.out; clear h7 h8 h9))
          have h51 := RS_lit w4 w.heap.size (str wk.name) HK4.out.size
          have h52 := HK4.out.fresh (World.grownBy_alloc w4 (.cells #[.string (str wk.name)] 9) none)
          generalize w4.alloc (.cells #[.string (str wk.name)] 9) = w5 at h51 h52 ⊢
          generalize Value.slice (some ⟨w4.heap.size, 0, none⟩) 1 1 = v5 at h51 ⊢
          have H51 := Aside0.mk h51
          have H52 := Aside0.mk h52
          clear y0 y1 y2 y3 x0 x4 hx0
          have y3 := h52.head.cell (i := 3) (v := .string (str wk.tells)) rfl
          clear h51 h52
          obtain ⟨T, hT⟩ : ∃ T, T = str wk.tells := ⟨_, rfl⟩
          have hTs : T.size = wk.tells.length := by rw [hT, Lib.size_eq, str_data]
          have hT3 := HTL.out.1
          rw [← hT] at y3
          have HT := Aside0.mk hT
          have HTs := Aside0.mk hTs
          have hT4 : T.size ≤ 3 := by omega
          clear hT hTs hT3
          go_wp2_with fail
          go_loopw [5, 6, 31] (fun v _ i wr => ∃ m : Nat, m ≤ T.size ∧ i = .int .i64 m ∧ Aside0 (RS wr w.heap.size v (sl (wk.name :: (wk.tells.take m).map (tell f)))) ∧ Aside0 (Keeps w [(wg, 89, wordC wk), (g, 35, opC f)] wr)) (fun _ _ i _ => T.size - (intOf i).toNat)
          case atStart => exact ⟨0, by omega, rfl, H51, H52⟩
          case round =>
            obtain ⟨m, hm, rfl, HR, HB⟩ := hrel
            rename World => wr
            by_cases hlt2 : m < T.size
            · obtain ⟨c, hc⟩ : ∃ c, c = wk.tells.getD m 0 := ⟨_, rfl⟩
              have hml : m < wk.tells.length := by rw [← HTs.out]; exact hlt2
              have hcm : c ∈ wk.tells := by rw [hc, List.getD_eq_getElem?_getD, List.getElem?_eq_getElem hml]; exact List.getElem_mem _
              have HTK2 := Aside0.mk (take_tell f wk.name wk.tells m hml)
              rw [← hc] at HTK2
              have hsk : ∀ h : m < T.size, T[m]'h = c := fun h => by
                have e : T = str wk.tells := HT.out
                subst e
                rw [hc, List.getD_eq_getElem?_getD, List.getElem?_eq_getElem hml]; rfl
              have hcc := HTL.out.2 c hcm
              have y3 : wr.cell? ⟨wg, 3, none⟩ = some (.string T) := by rw [HT.out]; exact HB.out.head.cell (i := 3) (v := .string (str wk.tells)) rfl
              have z1 := HB.out.tail.head.cell (i := 1) (v := .int .i64 f.id) rfl
              have z2 := HB.out.tail.head.cell (i := 2) (v := .int .i64 f.blk) rfl
              have z5 := HB.out.tail.head.cell (i := 36) (v := .int .i64 f.policy) (op_policy f HLEN.out)
              clear hc hcm
              rcases hcc with rfl | rfl | rfl | rfl
              · have HV := Aside0.mk (show str (tell f 105) = ⟨(Lib.itoa f.id).toArray⟩ from rfl)
                go_wp2_with (first | (go_at_call 37; refine (itoa_calls f.id i0 i1 _ (HE.out.below HB.out.below).pow).mono ?_; rintro e w6 ⟨rfl, hb⟩; have HB2 := Aside0.mk (HB.out.step hb); have HR2 := Aside0.mk (Kd.R_below HR.out hb); clear hb) | ((with_reducible refine gate_dst (N := 51) rfl ?_); refine app69 rfl (.tmp 46) (.tmp 50) rfl _ _ _ rfl rfl HR2.out (w0 := w) HB2.out.below HB2.out.size (by simp [sl]; omega) ?_; intro v1 w7 h1 h2 h3 h4; have HR3 := Aside0.mk (show RS w7 w.heap.size v1 (sl (wk.name :: (wk.tells.take (m + 1)).map (tell f))) by rw [HTK2.out, sl_snoc, HV.out]; exact h1); have HB3 := Aside0.mk (keeps_row HB2.out h3 (Kd.R_base HR2.out) (fst_ne HR2.out HB2.out)); clear h1 h2 h3 h4))
                go_roundw
                case rel => exact ⟨m + 1, by omega, by go_num, HR3, HB3⟩
                case measure => simp [intOf]; omega
              · have HV := Aside0.mk (show str (tell f 98) = ⟨(Lib.itoa f.blk).toArray⟩ from rfl)
                go_wp2_with (first | (go_at_call 37; refine (itoa_calls f.blk b0 b1 _ (HE.out.below HB.out.below).pow).mono ?_; rintro e w6 ⟨rfl, hb⟩; have HB2 := Aside0.mk (HB.out.step hb); have HR2 := Aside0.mk (Kd.R_below HR.out hb); clear hb) | ((with_reducible refine gate_dst (N := 59) rfl ?_); refine app69 rfl (.tmp 54) (.tmp 58) rfl _ _ _ rfl rfl HR2.out (w0 := w) HB2.out.below HB2.out.size (by simp [sl]; omega) ?_; intro v1 w7 h1 h2 h3 h4; have HR3 := Aside0.mk (show RS w7 w.heap.size v1 (sl (wk.name :: (wk.tells.take (m + 1)).map (tell f))) by rw [HTK2.out, sl_snoc, HV.out]; exact h1); have HB3 := Aside0.mk (keeps_row HB2.out h3 (Kd.R_base HR2.out) (fst_ne HR2.out HB2.out)); clear h1 h2 h3 h4))
                go_roundw
                case rel => exact ⟨m + 1, by omega, by go_num, HR3, HB3⟩
                case measure => simp [intOf]; omega
              · have HV := Aside0.mk (show str (tell f 112) = ⟨(Lib.itoa f.policy).toArray⟩ from rfl)
                go_wp2_with (first | (go_at_call 37; refine (itoa_calls f.policy p0 p1 _ (HE.out.below HB.out.below).pow).mono ?_; rintro e w6 ⟨rfl, hb⟩; have HB2 := Aside0.mk (HB.out.step hb); have HR2 := Aside0.mk (Kd.R_below HR.out hb); clear hb) | ((with_reducible refine gate_dst (N := 67) rfl ?_); refine app69 rfl (.tmp 62) (.tmp 66) rfl _ _ _ rfl rfl HR2.out (w0 := w) HB2.out.below HB2.out.size (by simp [sl]; omega) ?_; intro v1 w7 h1 h2 h3 h4; have HR3 := Aside0.mk (show RS w7 w.heap.size v1 (sl (wk.name :: (wk.tells.take (m + 1)).map (tell f))) by rw [HTK2.out, sl_snoc, HV.out]; exact h1); have HB3 := Aside0.mk (keeps_row HB2.out h3 (Kd.R_base HR2.out) (fst_ne HR2.out HB2.out)); clear h1 h2 h3 h4))
                go_roundw
                case rel => exact ⟨m + 1, by omega, by go_num, HR3, HB3⟩
                case measure => simp [intOf]; omega
              · have HV := Aside0.mk (show str (tell f 100) = ⟨(hexD f.data).toArray⟩ from rfl)
                go_wp2_with (first | ((with_reducible refine gate_dst (N := 40) rfl ?_); refine wpl_load rfl 33 (.tmp 39) rfl ⟨g, 3, none⟩ rfl (encs (Value.int .u8) f.data) Tryd.underlying33 rfl (size33 _ HLEN.out) (fun j u hu => op_data HB.out.tail.head j u hu) ?_) | (go_at_call 51; refine (hex_calls _ f.data HLEN.out HBY.out).mono ?_; rintro e w6 ⟨rfl, hb⟩; have HB2 := Aside0.mk (HB.out.step hb); have HR2 := Aside0.mk (Kd.R_below HR.out hb); clear hb) | ((with_reducible refine gate_dst (N := 43) rfl ?_); refine app69 rfl (.tmp 38) (.tmp 42) rfl _ _ _ rfl rfl HR2.out (w0 := w) HB2.out.below HB2.out.size (by simp [sl]; omega) ?_; intro v1 w7 h1 h2 h3 h4; have HR3 := Aside0.mk (show RS w7 w.heap.size v1 (sl (wk.name :: (wk.tells.take (m + 1)).map (tell f))) by rw [HTK2.out, sl_snoc, HV.out]; exact h1); have HB3 := Aside0.mk (keeps_row HB2.out h3 (Kd.R_base HR2.out) (fst_ne HR2.out HB2.out)); clear h1 h2 h3 h4))
                go_roundw
                case rel => exact ⟨m + 1, by omega, by go_num, HR3, HB3⟩
                case measure => simp [intOf]; omega
            · obtain rfl : m = T.size := by omega
              rw [HTs.out, List.take_length] at HR
              go_wp2_with fail
              go_ret
              unfold FieldsEnd
              rw [HFI.out]
              exact ⟨_, rfl, HR.out, HB.out.below⟩
        -- not this word
        · have HNN := Aside0.mk (HNX.out (by rw [Bool.and_eq_false_iff]; right; rw [beq_eq_false_iff_ne]; exact hsy))
          have hq : (wk.kind != f.kind) = false := by rw [bne_eq_false_iff_eq]; exact hkd
          have hq2 : (wk.sync == f.sync) = false := by rw [beq_eq_false_iff_ne]; exact hsy
          clear hkd hsy
          go_wp2_with (first | ((with_reducible refine gate_dst (N := 12) rfl ?_); refine load89 rfl (.tmp 11) rfl _ rfl wk HX.out ?_) | ((with_reducible refine gate_dst (N := 4) rfl ?_); refine alloc89 rfl rfl ?_; intro w3 wg h4 h5 h6; have HK3 := Aside0.mk (HB.out.new h6 h5); have HW3 := Aside0.mk (HW.out.trans ((grown_fresh h6).mono HW.out.size)); have HWG := Aside0.mk (show w.heap.size ≤ wg from Nat.le_trans HB.out.size h4); have HWG2 := Aside0.mk (show w2.heap.size ≤ wg from Nat.le_trans HW.out.size h4); have HGN := Aside0.mk (show g ≠ wg by have a1 := HB.out.head.lt; have a2 := h4; omega); clear h4 h5 h6) | (refine store89 rfl rfl (.tmp 4) (.tmp 12) rfl wg rfl wk rfl (M := word0) HK3.out.head ?_; intro w4 h7 h8 h9; have HK4 := Aside0.mk (HK3.out.put h8 HWG.out (by simpa using HGN.out) h7); have HW4 := Aside0.mk (below_grown HW3.out HWG2.out HW3.out.size h8); have y0 := h7.cell (i := 0) (v := .string (str wk.name)) rfl; have y1 := h7.cell (i := 1) (v := .int .i64 wk.kind) rfl; have y2 := h7.cell (i := 2) (v := .bool wk.sync) rfl; have y3 := h7.cell (i := 3) (v := .string (str wk.tells)) rfl; have x0 := HK4.out.tail.head.cell (i := 0) (v := .int .i64 f.kind) rfl; have x4 := HK4.out.tail.head.cell (i := 35) (v := .bool f.sync) HSY.out; clear h7 h8 h9))
          go_roundw
          case rel => exact ⟨k + 1, by omega, by go_num, HNN, ⟨HK4.out.tail⟩, HW4⟩
          case measure => simp [intOf]; omega
      · have hq : (wk.kind != f.kind) = true := by rw [bne_iff_ne]; exact hkd
        have HNN := Aside0.mk (HNX.out (by rw [Bool.and_eq_false_iff]; left; rw [beq_eq_false_iff_ne]; exact hkd))
        clear hkd
        go_wp2_with (first | ((with_reducible refine gate_dst (N := 12) rfl ?_); refine load89 rfl (.tmp 11) rfl _ rfl wk HX.out ?_) | ((with_reducible refine gate_dst (N := 4) rfl ?_); refine alloc89 rfl rfl ?_; intro w3 wg h4 h5 h6; have HK3 := Aside0.mk (HB.out.new h6 h5); have HW3 := Aside0.mk (HW.out.trans ((grown_fresh h6).mono HW.out.size)); have HWG := Aside0.mk (show w.heap.size ≤ wg from Nat.le_trans HB.out.size h4); have HWG2 := Aside0.mk (show w2.heap.size ≤ wg from Nat.le_trans HW.out.size h4); have HGN := Aside0.mk (show g ≠ wg by have a1 := HB.out.head.lt; have a2 := h4; omega); clear h4 h5 h6) | (refine store89 rfl rfl (.tmp 4) (.tmp 12) rfl wg rfl wk rfl (M := word0) HK3.out.head ?_; intro w4 h7 h8 h9; have HK4 := Aside0.mk (HK3.out.put h8 HWG.out (by simpa using HGN.out) h7); have HW4 := Aside0.mk (below_grown HW3.out HWG2.out HW3.out.size h8); have y0 := h7.cell (i := 0) (v := .string (str wk.name)) rfl; have y1 := h7.cell (i := 1) (v := .int .i64 wk.kind) rfl; have y2 := h7.cell (i := 2) (v := .bool wk.sync) rfl; have y3 := h7.cell (i := 3) (v := .string (str wk.tells)) rfl; have x0 := HK4.out.tail.head.cell (i := 0) (v := .int .i64 f.kind) rfl; have x4 := HK4.out.tail.head.cell (i := 35) (v := .bool f.sync) HSY.out; clear h7 h8 h9))
        go_roundw
        case rel => exact ⟨k + 1, by omega, by go_num, HNN, ⟨HK4.out.tail⟩, HW4⟩
        case measure => simp [intOf]; omega
    · obtain rfl : k = 13 := by omega
      have HF := Aside0.mk (find_none (o := f) HN.out)
      go_wp2_with fail
      go_ret
      unfold FieldsEnd
      rw [HF.out]
      exact ⟨_, rfl, Kd.R_nil _ _ _ _ _, HB.out.below⟩
end
end Go.Proofs.YtagpldkgkchfcaaDoor.Txt
