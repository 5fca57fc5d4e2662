/- The walks of layer 2's reference. -/
import Derived.Test.YtmkkkenpjealdaaCrcWalks
import Derived.Deep.QuietTactic
import Derived.BigQuiet
import Derived.Test.YtmkkkenpjealdaaArr
namespace Go.Proofs.Ytmkkkenpjealdaa.CrcRef
open Go.RowKit Go.Proofs.YtmkkkenpjealdaaW.PrintWords Go.Proofs.YtmkkkenpjealdaaW.PrintLast Go.Proofs.YtmkkkenpjealdaaW.PrintMore PlainWord CrcPlain CrcMem CrcWalks Arr

def polyV : Array Value := (encs Value.bool polyL).toArray
theorem zero95 : (Try.prog.info? 95).map (·.zero) = some (some (.agg (encs Value.bool (List.replicate 32 false)).toArray)) := by kernel_rfl
theorem size95 : (Try.prog.info? 95).map (·.size) = some 32 := by kernel_rfl
theorem bool1 (l : List Bool) : ∀ v ∈ encs Value.bool l, v.oneCell' = true := by
  intro v hv
  simp only [encs, List.mem_map] at hv
  obtain ⟨b, _, rfl⟩ := hv
  rfl

/-- The bits of a number, the lowest first. -/
def bits8 (x : Int) (n : Nat) : List Bool := (List.range n).map fun k => x / 2 ^ k % 2 == 1
def bitsL (l : List Int) : List Bool := l.flatMap fun x => bits8 x 8
theorem bits8_succ (x : Int) (n : Nat) : bits8 x (n + 1) = bits8 x n ++ [x / 2 ^ n % 2 == 1] := by simp [bits8, List.range_succ]
theorem bitsL_snoc (l : List Int) (x : Int) : bitsL (l ++ [x]) = bitsL l ++ bits8 x 8 := by simp [bitsL]
theorem bits8_length (x : Int) (n : Nat) : (bits8 x n).length = n := by simp [bits8]
theorem bitsL_length (l : List Int) : (bitsL l).length = 8 * l.length := by
  induction l with
  | nil => rfl
  | cons x l ih => simp only [bitsL, List.flatMap_cons, List.length_append, bits8_length, List.length_cons] at ih ⊢; rw [ih]; omega
theorem half (x : Int) (j : Nat) : x / 2 ^ j / 2 = x / 2 ^ (j + 1) := by
  rw [Int.pow_succ, Int.ediv_ediv_of_nonneg (Int.pow_nonneg (by decide))]
/-- A new row of truths comes back. -/
def NewT (w : World) (l : List Bool) (e : Ending) (w' : World) : Prop := ∃ v, e = .returned v ∧ RT w' w.heap.size v l ∧ Below w.heap.size w w'

theorem rep_set (k : Nat) (h : k < 32) : (List.replicate k true ++ List.replicate (32 - k) false).set k true = List.replicate (k + 1) true ++ List.replicate (32 - (k + 1)) false := by
  have : ∀ k : Fin 32, (List.replicate k.val true ++ List.replicate (32 - k.val) false).set k.val true = List.replicate (k.val + 1) true ++ List.replicate (32 - (k.val + 1)) false := by decide
  exact this ⟨k, h⟩
set_option maxHeartbeats 1000000 in
theorem bits_calls (A : Option Addr) (n c : Nat) (l : List Int) (w : World) (hr : CB w A n l) (hb : Bytes l) (hl : l.length ≤ 17592186044415) :
    Calls Try.prog 67 #[.slice A n c] w (NewT w (bitsL l)) := by
  obtain rfl := Kd.C_len hr
  have HR := Aside0.mk hr
  have HB := Aside0.mk hb
  clear hr hb
  go_enter Try.func67, Try.ntmps67
  go_wp2
  go_loopw [3, 4] (fun v i wr => ∃ k : Nat, k ≤ l.length ∧ i = .int .i64 k ∧ Aside0 (RT wr w.heap.size v (bitsL (l.take k))) ∧ Aside0 (Below w.heap.size w wr)) (fun _ i _ => l.length - (intOf i).toNat)
  case atStart => exact ⟨0, by omega, rfl, ⟨Kd.R_nil _ _ _ _ _⟩, ⟨Below.refl _ _⟩⟩
  case round =>
    obtain ⟨k, hk, rfl, HO, HW⟩ := hrel
    by_cases hlt : k < l.length
    · obtain ⟨ad, rfl, hx⟩ := Kd.at_int (Kd.C_below HR.out HW.out) (k : Int) (by omega) (by omega)
      rw [Int.toNat_natCast] at hx
      have hb2 := HB.out.getD k
      have hx0 : 0 ≤ rd l (k : Int) := hb2.1
      have hx1 : rd l (k : Int) ≤ 255 := hb2.2
      clear hb2
      go_wp2_with fail
      obtain ⟨wo, rfl⟩ : ∃ wo : World, wo = wr := ⟨_, rfl⟩
      go_loopw [3, 5, 6] (fun v x i wr => ∃ j : Nat, j ≤ 8 ∧ i = .int .i64 j ∧ x = .int .i64 (rd l (k : Int) / 2 ^ j) ∧ Aside0 (RT wr w.heap.size v (bitsL (l.take k) ++ bits8 (rd l (k : Int)) j)) ∧ Aside0 (Below w.heap.size w wr)) (fun _ _ i _ => 8 - (intOf i).toNat)
      case atStart => exact ⟨0, by omega, rfl, by simp, ⟨by simpa [bits8] using HO.out⟩, HW⟩
      case round =>
        obtain ⟨j, hj, rfl, rfl, HO, HW⟩ := hrel
        by_cases hlj : j < 8
        · have hq : 0 ≤ rd l (k : Int) / 2 ^ j := Int.ediv_nonneg hx0 (Int.pow_nonneg (by decide))
          have hq1 : rd l (k : Int) / 2 ^ j ≤ 255 := Int.le_trans (Int.ediv_le_self _ hx0) hx1
          have hS := HW.out.size
          go_wp2_with (first | (at_builtin; refine app_bool rfl (.tmp 22) (.tmp 26) rfl u3 (bitsL (l.take k) ++ bits8 (rd l (k : Int)) j) (rd l (k : Int) / 2 ^ j % 2 == 1) rfl rfl HO.out HW.out hS (by rw [List.length_append, bitsL_length, bits8_length, List.length_take]; omega) ?_; intro v3 w3 h7 h8 h9; have H7 := Aside0.mk h7; have H8 := Aside0.mk h8; clear h7 h8))
          go_roundw
          case rel => exact ⟨j + 1, by omega, by go_num, by rw [half], ⟨by rw [bits8_succ, ← List.append_assoc]; exact H7.out⟩, H8⟩
          case measure => simp [intOf]; omega
        · obtain rfl : j = 8 := by omega
          go_wp2
          go_roundw
          case rel => exact ⟨k + 1, by omega, by go_num, ⟨by rw [take_rd l k hlt, bitsL_snoc]; exact HO.out⟩, HW⟩
          case measure => simp [intOf]; omega
    · go_wp2
      go_ret
      exact ⟨_, rfl, by rw [List.take_of_length_le (by omega)] at HO; exact HO.out, HW.out⟩

theorem takeb (l : List Bool) (k : Nat) (h : k < l.length) : l.take (k + 1) = l.take k ++ [rdOf false l (k : Int)] := by
  rw [List.take_succ_eq_append_getElem h]
  simp [rdOf, List.getD_eq_getElem?_getD, List.getElem?_eq_getElem h]
theorem fold_bits (l : List Int) (hb : Bytes l) : (bitsL l).foldl bitIn (BitVec.allOnes 32) = regs (BitVec.allOnes 32) l := by
  have : ∀ (l : List Int) (c : R), Bytes l → (bitsL l).foldl bitIn c = regs c l := by
    intro l
    induction l with
    | nil => intro c _; rfl
    | cons x l ih =>
      intro c h
      have hx := h x (List.mem_cons_self ..)
      have e : bitsL (x :: l) = bits8 x 8 ++ bitsL l := by simp [bitsL]
      rw [e, List.foldl_append, show (bits8 x 8).foldl bitIn c = byteStep c x from byte_fold c x hx.1 hx.2, ih _ (fun y hy => h y (List.mem_cons_of_mem _ hy))]
      rfl
  exact this l _ hb
abbrev EB (l : List Bool) : List Value := encs Value.bool l
set_option maxHeartbeats 2000000 in
theorem sumref (A : Option Addr) (n c : Nat) (l : List Int) (w : World) (hr : CB w A n l) (hb : Bytes l) (hl : l.length ≤ 17592186044415) :
    Calls Try.prog 50 #[.slice A n c] w fun e w' => e = .returned (.int .u32 (iv (sum l))) ∧ Below w.heap.size w w' := by
  obtain rfl := Kd.C_len hr
  have HR := Aside0.mk hr
  have HB := Aside0.mk hb
  have HW := Aside0.mk (Below.refl w.heap.size w)
  clear hr hb
  go_enter Try.func50, Try.ntmps50
  go_wp2_with (first | ((with_reducible refine gate_dst (N := 13) rfl ?_); refine Kd.event_run (v := .agg polyV) (w1 := _) rfl (by kernel_rfl) ?_) | ((with_reducible refine gate_dst (N := 3) rfl ?_); refine wpl_alloc rfl 95 rfl _ zero95 _ rfl ?_; intro w1 g1 h1 h2 h3; have H2 := Aside0.mk h2; have H3 := Aside0.mk (below_new HW.out HW.out.size h3); clear h2 h3) | ((with_reducible refine gate_store (t := 95) (p := 3) rfl ?_); refine wpl_store rfl rfl 95 (.tmp 3) (.tmp 13) rfl g1 0 rfl (encs Value.bool polyL) rfl size95 (bool1 _) H2.out (by decide) ?_; intro w2 h4 h5 h6; have H4 := Aside0.mk (show Blk w2 g1 95 (EB polyL) from h4); have H5 := Aside0.mk (below_grown H3.out h1 H3.out.size h5); clear h4 h5 h6) | ((with_reducible refine gate_dst (N := 4) rfl ?_); refine wpl_alloc rfl 95 rfl _ zero95 _ rfl ?_; intro w3 g2 h7 h8 h9; have H7 := Aside0.mk (show g1 ≠ g2 from fun e => by have := H4.out.lt; omega); have H70 := Aside0.mk (show w.heap.size ≤ g2 from Nat.le_trans H5.out.size h7); have H8 := Aside0.mk h8; have H9 := Aside0.mk (H4.out.grown h9 (by simp)); have H10 := Aside0.mk (below_new H5.out H5.out.size h9); clear h8 h9 h7))
  clear H2 H3 H4 H5 HW
  go_loopw [5] (fun i wr => ∃ k : Nat, k ≤ 32 ∧ i = .int .i64 k ∧ Aside0 (Blk wr g1 95 (EB polyL)) ∧ Aside0 (Blk wr g2 95 (EB (List.replicate k true ++ List.replicate (32 - k) false))) ∧ Aside0 (Below w.heap.size w wr)) (fun i _ => 32 - (intOf i).toNat)
  case atStart => exact ⟨0, by omega, rfl, H9, H8, H10⟩
  case round =>
    obtain ⟨k, hk, rfl, HP, HG, HW⟩ := hrel
    by_cases hlt : k < 32
    · have hcell := HG.out.encAt false k (by simp; omega)
      have hfr := HG.out.frozen k
      go_wp2
      go_roundw
      case rel => exact ⟨k + 1, by omega, by go_num, ⟨HP.out.far H7.out _⟩, ⟨by have := HG.out.encSet k true; rw [rep_set k (by omega)] at this; exact this⟩, ⟨HW.out.setCell H70.out _⟩⟩
      case measure => simp [intOf]; omega
    · obtain rfl : k = 32 := by omega
      clear H8 H9 H10
      obtain ⟨wa, rfl⟩ : ∃ wa : World, wa = wr := ⟨_, rfl⟩
      have HG2 := Aside0.mk (show Blk wa g2 95 (EB (regL (BitVec.allOnes 32))) from HG.out)
      clear HG
      go_wp2_with (go_at_call 67; refine (bits_calls A _ c l wa (Kd.C_below HR.out HW.out) HB.out hl).mono ?_; rintro e w4 ⟨v, rfl, h1, h2⟩; have HT := Aside0.mk h1; have HU := Aside0.mk h2; clear h1 h2)
      obtain ⟨Av, cv, rfl, hcv, _⟩ := RT.reads HT.out
      have hg2 : g2 < wa.heap.size := HG2.out.lt
      have HT2 := Aside0.mk (Kd.R_mono (Kd.R_bound HT.out) (fun _ h => h.2.1) : Kd.R Kd.bool 4 w4 wa.heap.size (fun k => wa.heap.size ≤ k) _ _)
      have HP2 := Aside0.mk (HP.out.below' HU.out)
      have HG3 := Aside0.mk (HG2.out.below' HU.out)
      have HW3 := Aside0.mk (HW.out.trans (HU.out.mono HW.out.size))
      obtain ⟨bl, hbl⟩ : ∃ bl, bl = bitsL l := ⟨_, rfl⟩
      rw [← hbl] at HT2 hcv ⊢
      have HBL := Aside0.mk hbl
      clear HT HU HP HG2 HW hbl
      have hbm : bl.length ≤ 140737488355320 := by rw [HBL.out, bitsL_length]; omega
      go_loopw [7] (fun i wr => ∃ k : Nat, k ≤ bl.length ∧ i = .int .i64 k ∧ Aside0 (Blk wr g1 95 (EB polyL)) ∧ Aside0 (Blk wr g2 95 (EB (regL ((bl.take k).foldl bitIn (BitVec.allOnes 32))))) ∧ Aside0 (Kd.R Kd.bool 4 wr wa.heap.size (fun k => wa.heap.size ≤ k) (.slice Av bl.length cv) bl) ∧ Aside0 (Below w.heap.size w wr)) (fun i _ => bl.length - (intOf i).toNat)
      case atStart => exact ⟨0, by omega, rfl, HP2, HG3, HT2, HW3⟩
      case round =>
        obtain ⟨k, hk, rfl, HP, HG, HT, HW⟩ := hrel
        clear HP2 HG3 HT2 HW3
        by_cases hlt : k < bl.length
        · obtain ⟨r, hr⟩ : ∃ r, r = (bl.take k).foldl bitIn (BitVec.allOnes 32) := ⟨_, rfl⟩
          rw [← hr] at HG
          have HRR := Aside0.mk hr
          clear hr
          obtain ⟨ad, hav, hx⟩ := Kd.at_bool (Kd.R_reads' HT.out).2.2 (k : Int) (by omega) (by omega)
          subst hav
          rw [Int.toNat_natCast] at hx
          have hcell := HG.out.encAt false 0 (by rw [regL_length]; omega)
          rw [regL_getD r 0 (by omega)] at hcell
          obtain ⟨b0, hb0⟩ : ∃ b, b = r.getLsbD 0 := ⟨_, rfl⟩
          obtain ⟨b1, hb1⟩ : ∃ b, b = rdOf false bl (k : Int) := ⟨_, rfl⟩
          rw [← hb0] at hcell
          rw [← hb1] at hx
          have HB0 := Aside0.mk hb0
          have HB1 := Aside0.mk hb1
          have HX := Aside0.mk hx
          clear hb0 hb1
          go_wp2_with fail
          go_quiet (fail)
          have HG2 := Aside0.mk (HG.out.drewN nq)
          have HP2 := Aside0.mk (HP.out.drewN nq)
          have HT2 := Aside0.mk (Kd.R_drewN HT.out nq)
          have HW2 := Aside0.mk (pw_below_drewN HW.out nq)
          clear HG HP HT HW hcell hx HX
          go_wp2
          go_loopw [9] (fun i wr => ∃ j : Nat, j ≤ 31 ∧ i = .int .i64 j ∧ Aside0 (Blk wr g1 95 (EB polyL)) ∧ Aside0 (Blk wr g2 95 (EB (shiftJ r j))) ∧ Aside0 (Kd.R Kd.bool 4 wr wa.heap.size (fun k => wa.heap.size ≤ k) (.slice (some ad) bl.length cv) bl) ∧ Aside0 (Below w.heap.size w wr)) (fun i _ => 31 - (intOf i).toNat)
          case atStart => exact ⟨0, by omega, rfl, HP2, ⟨by rw [shiftJ_zero]; exact HG2.out⟩, HT2, HW2⟩
          case round =>
            clear HG2 HP2 HT2 HW2
            obtain ⟨j, hj, rfl, HP, HG, HT, HW⟩ := hrel
            by_cases hlj : j < 31
            · have hc1 := HG.out.encAt false (j + 1) (by simp [shiftJ]; omega)
              have hc2 := HG.out.encAt false j (by simp [shiftJ]; omega)
              have hfr := HG.out.frozen j
              go_wp2
              go_roundw
              case rel => exact ⟨j + 1, by omega, by go_num, ⟨HP.out.far H7.out _⟩, ⟨by have := HG.out.encSet j ((shiftJ r j).getD (j + 1) false); rw [shiftJ_step r j hlj] at this; exact this⟩, ⟨Kd.R_far HT.out (fun k hk => by show k ≠ g2; omega) _⟩, ⟨HW.out.setCell H70.out _⟩⟩
              case measure => simp [intOf]; omega
            · obtain rfl : j = 31 := by omega
              have hc1 := HG.out.encAt false 31 (by simp [shiftJ])
              have hfr := HG.out.frozen 31
              have HG2 := Aside0.mk (HG.out.encSet 31 false)
              rw [shiftJ_done] at HG2
              have HP2 := Aside0.mk (HP.out.far H7.out (.bool false) (p := ⟨g2, 31, none⟩))
              have HT2 := Aside0.mk (Kd.R_far HT.out (p := ⟨g2, 31, none⟩) (fun k hk => by show k ≠ g2; omega) (.bool false))
              have HW2 := Aside0.mk (HW.out.setCell (p := ⟨g2, 31, none⟩) H70.out (.bool false))
              have HK := Aside0.mk (show bl.take (k + 1) = bl.take k ++ [b1] from by rw [HB1.out]; exact takeb bl k hlt)
              go_wp2_with fail
              · have hout : (!b0 == b1) = true := by assumption
                have HQ := Aside0.mk (show (bl.take (k + 1)).foldl bitIn (BitVec.allOnes 32) = (r >>> 1) ^^^ poly from by
                  rw [HK.out, List.foldl_append, ← HRR.out]
                  simp only [List.foldl_cons, List.foldl_nil, bitIn]
                  rw [← HB0.out, if_pos (by cases b0 <;> cases b1 <;> simp_all)])
                clear hc1 hfr HP HG HT HW
                go_loopw [10] (fun i wr => ∃ j : Nat, j ≤ 32 ∧ i = .int .i64 j ∧ Aside0 (Blk wr g1 95 (EB polyL)) ∧ Aside0 (Blk wr g2 95 (EB (polyJ (r >>> 1) j))) ∧ Aside0 (Kd.R Kd.bool 4 wr wa.heap.size (fun k => wa.heap.size ≤ k) (.slice (some ad) bl.length cv) bl) ∧ Aside0 (Below w.heap.size w wr)) (fun i _ => 32 - (intOf i).toNat)
                case atStart => exact ⟨0, by omega, rfl, HP2, ⟨by rw [polyJ_zero]; exact HG2.out⟩, HT2, HW2⟩
                case round =>
                  clear HG2 HP2 HT2 HW2
                  obtain ⟨j, hj, rfl, HP, HG, HT, HW⟩ := hrel
                  by_cases hlj : j < 32
                  · have hc1 := HG.out.encAt false j (by simp [polyJ]; omega)
                    have hc2 := HP.out.encAt false (31 - j) (by simp [polyL]; omega)
                    have hfr := HG.out.frozen j
                    have HS := Aside0.mk (HG.out.encSet j ((polyJ (r >>> 1) j).getD j false != polyL.getD (31 - j) false))
                    rw [polyJ_step _ j hlj] at HS
                    obtain ⟨x0, hx0⟩ : ∃ b, b = (polyJ (r >>> 1) j).getD j false := ⟨_, rfl⟩
                    obtain ⟨x1, hx1⟩ : ∃ b, b = polyL.getD (31 - j) false := ⟨_, rfl⟩
                    rw [← hx0] at hc1 HS
                    rw [← hx1] at hc2 HS
                    clear hx0 hx1
                    have e31 : 0 ≤ 31 - (j : Int) := by omega
                    go_wp2_with fail
                    go_region
                    go_wp2_with fail
                    go_roundw
                    case rel => exact ⟨j + 1, by omega, by go_num, ⟨(HP.out.far H7.out _).drew⟩, ⟨HS.out.drew⟩, ⟨Kd.R_drew (Kd.R_far HT.out (fun k hk => by show k ≠ g2; omega) _)⟩, ⟨below_drew (HW.out.setCell H70.out _)⟩⟩
                    case measure => simp [intOf]; omega
                  · obtain rfl : j = 32 := by omega
                    go_wp2_with fail
                    go_roundw
                    case rel => exact ⟨k + 1, by omega, by go_num, HP, ⟨by rw [HQ.out, ← polyJ_done]; exact HG.out⟩, HT, HW⟩
                    case measure => simp [intOf]; omega
              · have hout2 : (!b0 == b1) = false := by assumption
                have HQ := Aside0.mk (show (bl.take (k + 1)).foldl bitIn (BitVec.allOnes 32) = r >>> 1 from by
                  rw [HK.out, List.foldl_append, ← HRR.out]
                  simp only [List.foldl_cons, List.foldl_nil, bitIn]
                  rw [← HB0.out, if_neg (by cases b0 <;> cases b1 <;> simp_all)])
                go_roundw
                case rel => exact ⟨k + 1, by omega, by go_num, HP2, ⟨by rw [HQ.out]; exact HG2.out⟩, HT2, HW2⟩
                case measure => simp [intOf]; omega
        · have HQ := Aside0.mk (show (bl.take k).foldl bitIn (BitVec.allOnes 32) = ~~~ (sum l) from by
            rw [List.take_of_length_le (by omega), HBL.out, fold_bits l HB.out]
            unfold sum more; rw [BitVec.not_not]; rfl)
          rw [HQ.out] at HG
          clear HQ HT HP
          go_wp2_with fail
          go_loopw [11, 12] (fun x i wr => ∃ j : Nat, j ≤ 32 ∧ i = .int .i64 ((j : Int) - 1) ∧ x = .int .u32 (iv (sum l) / 2 ^ j) ∧ Aside0 (Blk wr g2 95 (EB (regL (~~~ (sum l))))) ∧ Aside0 (Below w.heap.size w wr)) (fun _ i _ => (1 + intOf i).toNat)
          case atStart => exact ⟨32, by omega, rfl, by rw [top_32], HG, HW⟩
          case round =>
            clear HG HW
            obtain ⟨j, hj, rfl, rfl, HG, HW⟩ := hrel
            by_cases hlj : 0 < j
            · obtain ⟨i, rfl⟩ : ∃ i, j = i + 1 := ⟨j - 1, by omega⟩
              have hc1 := HG.out.encAt false i (by rw [regL_length]; omega)
              rw [regL_getD _ i (by omega), not_bit _ i (by omega)] at hc1
              have HT := Aside0.mk (top_bit (sum l) i)
              have hb0 := top_bound (sum l) (i + 1)
              have hb1 := top_bound (sum l) i
              cases hbit : (sum l).getLsbD i
              all_goals
                have HBI := Aside0.mk hbit
                rw [hbit] at hc1
                clear hbit
                simp only [Bool.not_false, Bool.not_true] at hc1
                go_wp2_with fail
                go_roundw
                case rel => exact ⟨i, by omega, rfl, by have h := HT.out; rw [HBI.out] at h; simp only [if_true, if_false, Bool.false_eq_true] at h; congr 1; omega, HG, HW⟩
                case measure => simp [intOf]; omega
            · obtain rfl : j = 0 := by omega
              go_wp2_with fail
              go_ret
              exact ⟨by simp, HW.out⟩
end Go.Proofs.Ytmkkkenpjealdaa.CrcRef
