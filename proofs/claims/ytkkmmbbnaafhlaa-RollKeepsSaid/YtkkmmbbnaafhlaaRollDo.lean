/- The walk of layer 15: groups done. -/
import Derived.Test.YtkkmmbbnaafhlaaRollGroups2
namespace Go.Proofs.Ytkkmmbbnaafhlaa.Roll
set_option linter.unusedSimpArgs false
set_option linter.unusedVariables false
open Go.RowKit Go.Proofs.YtkkmmbbnaafhlaaW.PrintWords Go.Proofs.YtkkmmbbnaafhlaaW.PrintLast Go.Proofs.YtkkmmbbnaafhlaaW.PrintMore Arr PRollJoin

theorem take_rd28 (l : List S28) (k : Nat) (h : k < l.length) : l.take (k + 1) = l.take k ++ [rd_T28 l (k : Int)] := by
  unfold rd_T28
  rw [List.take_add_one, List.getD_eq_getElem?_getD, Int.toNat_natCast, List.getElem?_eq_getElem h]
  rfl
theorem take_rd44 (l : List S44) (k : Nat) (h : k < l.length) : l.take (k + 1) = l.take k ++ [rd_T44 l (k : Int)] := by
  unfold rd_T44
  rw [List.take_add_one, List.getD_eq_getElem?_getD, Int.toNat_natCast, List.getElem?_eq_getElem h]
  rfl
theorem doAll_succ (p : List Int) (gs : List S28) (k : Nat) (h : k < gs.length) : doAll p (gs.take (k + 1)) = dGrp (doAll p (gs.take k)) (rd_T28 gs (k : Int)) := by
  rw [take_rd28 gs k h]; simp [doAll, List.foldl_append]
theorem dTo_succ (p : List Int) (cs : List S44) (k : Nat) (h : k < cs.length) : (cs.take (k + 1)).foldl dstep p = dstep ((cs.take k).foldl dstep p) (rd_T44 cs (k : Int)) := by
  rw [take_rd44 cs k h]; simp [List.foldl_append]
structure DInv (w : World) (wr : World) (vo : Value) (q : List Int) : Prop where
  out : RI wr w.heap.size vo q
  bel : Below w.heap.size w wr
theorem DInv.below {w wr w1 : World} {vo : Value} {q : List Int} (h : DInv w wr vo q) (hb : Below wr.heap.size wr w1) : DInv w w1 vo q := ⟨Kd.R_below h.out hb, h.bel.trans (hb.mono h.bel.size)⟩
set_option maxRecDepth 10000 in
set_option maxHeartbeats 4000000 in
theorem do_calls (w : World) (A0 : Option Addr) (c0 : Nat) (p : List Int) (hC0 : (Kd.int .i64).C w A0 p.length p) (hp : p.length ≤ 1000) (A1 : Option Addr) (c1 : Nat) (gs : List S28) (hC1 : k28.C w A1 gs.length gs) :
    Calls Try.prog 16 #[.slice A0 p.length c0, .slice A1 gs.length c1] w fun e w' => ∃ v, e = .returned v ∧ RI w' w.heap.size v (doAll p gs) ∧ Below w.heap.size w w' := by
  have HC1 := Aside0.mk hC1
  have hgm := Kd.C_max hC1
  have HCL := Aside0.mk (clone22_calls w A0 c0 p hC0 (by omega))
  clear hC1 hC0
  go_enter Try.func16, Try.ntmps16
  go_wp2_with fail
  refine HCL.out.mono ?_
  rintro e w1 ⟨vo, rfl, hR, hb⟩
  obtain ⟨Ao, co, rfl⟩ := Kd.R_slice hR
  have HD := Aside0.mk (show DInv w w1 (.slice Ao p.length co) (doAll p (gs.take 0)) from ⟨hR, hb⟩)
  clear hR hb HCL
  go_wp2_with fail
  go_loopw [14] (fun i wr => ∃ k : Nat, k ≤ gs.length ∧ i = .int .i64 k ∧ Aside0 (DInv w wr (.slice Ao p.length co) (doAll p (gs.take k)))) (fun i _ => gs.length - (intOf i).toNat)
  case atStart => exact ⟨0, by omega, rfl, HD⟩
  case round =>
    clear HD
    obtain ⟨k, hk, rfl, HD⟩ := hrel
    by_cases hlt : k < gs.length
    · have hd : decide ((k : Int) < gs.length) = true := by simp; omega
      obtain ⟨ad, A2, c2, rfl, h0, h1, h2, h3, h4⟩ := at_T28 HC1.out (k : Int) (by omega) (by omega)
      rw [Int.toNat_natCast] at h0 h1 h2
      have HNX := Aside0.mk (doAll_succ p gs k hlt)
      have hql := doAll_len (gs.take k) p
      obtain ⟨q, hq⟩ : ∃ q, q = doAll p (gs.take k) := ⟨_, rfl⟩
      rw [← hq] at HD HNX hql
      obtain ⟨g, hg⟩ : ∃ g, g = rd_T28 gs (k : Int) := ⟨_, rfl⟩
      rw [← hg] at h0 h1 h2 h3 h4 HNX
      have h0 := pw_cell_below HD.out.bel h0
      have h1 := pw_cell_below HD.out.bel h1
      have h2 := pw_cell_below HD.out.bel h2
      have H4 := Aside0.mk h4
      have hg2m := Kd.C_max h4
      clear hq hg h4
      obtain ⟨g0, g1, g2⟩ := g
      have HD0 := Aside0.mk (show DInv w (wr.alloc (.cells #[.bool g0, .int .i64 g1, .slice A2 g2.length c2] 28)) (.slice Ao p.length co) ((g2.take 0).foldl dstep q) from HD.out.below (below_alloc (Below.refl _ _) _))
      go_wp2_with fail
      clear h0 h1 h2 HD
      obtain ⟨wo, hwo⟩ : ∃ wo : World, wo = wr := ⟨_, rfl⟩
      rw [← hwo] at HD0 ⊢
      clear hwo
      go_loopw [21] (fun i wr2 => ∃ j : Nat, j ≤ g2.length ∧ i = .int .i64 j ∧ Aside0 (DInv w wr2 (.slice Ao p.length co) ((g2.take j).foldl dstep q))) (fun i _ => g2.length - (intOf i).toNat)
      case atStart => exact ⟨0, by omega, rfl, HD0⟩
      case round =>
        clear HD0
        obtain ⟨j, hj, rfl, HD⟩ := hrel
        by_cases hlt2 : j < g2.length
        · have hd2 : decide ((j : Int) < g2.length) = true := by simp; omega
          obtain ⟨ad2, rfl, h0, h1⟩ := at_T44 H4.out (j : Int) (by omega) (by omega)
          rw [Int.toNat_natCast] at h0 h1
          have HNX2 := Aside0.mk (dTo_succ q g2 j hlt2)
          have hql2 := dGrp_len (g2.take j) q
          obtain ⟨q2, hq2⟩ : ∃ q2, q2 = (g2.take j).foldl dstep q := ⟨_, rfl⟩
          rw [← hq2] at HD HNX2 hql2
          obtain ⟨ch, hch⟩ : ∃ ch, ch = rd_T44 g2 (j : Int) := ⟨_, rfl⟩
          rw [← hch] at h0 h1 HNX2
          have h0 := pw_cell_below HD.out.bel h0
          have h1 := pw_cell_below HD.out.bel h1
          clear hq2 hch
          obtain ⟨cb, cp⟩ := ch
          by_cases hin : 0 ≤ cb ∧ cb < (p.length : Int)
          · obtain ⟨hc0, hc1⟩ := hin
            have e0 : decide (0 ≤ cb) = true := by simp; omega
            have e1 : decide (cb < (p.length : Int)) = true := by simp; omega
            have hq2l : q2.length = p.length := by omega
            obtain ⟨go, cap, e, hgB, hgw, _⟩ := Kd.R_form HD.out.out (by omega)
            injection e with ea eb ec
            subst ea
            clear eb ec
            obtain ⟨hcell, hfro⟩ := Kd.R_celln (0 : Int) HD.out.out cb hc0 hc1
            have HST := Aside0.mk ((show DInv w (wr.setCell ⟨go, cb.toNat, none⟩ (.int .i64 cp)) (.slice (some ⟨go, 0, none⟩) p.length co) (q2.set cb.toNat cp) from ⟨Kd.R_putn HD.out.out cb cp, below_set HD.out.bel hgB⟩).below (below_alloc (Below.refl _ _) (.cells #[.int .i64 cb, .int .i64 cp] 44)))
            have HEQ := Aside0.mk (show dstep q2 ⟨cb, cp⟩ = q2.set cb.toNat cp by unfold dstep; rw [if_pos ⟨hc0, by rw [hq2l]; exact hc1⟩])
            go_wp2_with fail
            go_roundw
            case rel => exact ⟨j + 1, by omega, by go_num, by rw [HNX2.out, HEQ.out]; exact HST⟩
            case measure => simp [intOf]; omega
          · have HST := Aside0.mk (HD.out.below (below_alloc (Below.refl _ _) (.cells #[.int .i64 cb, .int .i64 cp] 44)))
            have HEQ := Aside0.mk (show dstep q2 ⟨cb, cp⟩ = q2 by unfold dstep; rw [if_neg (fun h => hin ⟨h.1, by have := h.2; simp only at this; omega⟩)])
            by_cases hc0 : 0 ≤ cb
            · have e0 : decide (0 ≤ cb) = true := by simp; omega
              have e1 : decide (cb < (p.length : Int)) = false := by simp; omega
              clear hin
              go_wp2_with fail
              go_roundw
              case rel => exact ⟨j + 1, by omega, by go_num, by rw [HNX2.out, HEQ.out]; exact HST⟩
              case measure => simp [intOf]; omega
            · have e0 : decide (0 ≤ cb) = false := by simp; omega
              clear hin
              go_wp2_with fail
              go_roundw
              case rel => exact ⟨j + 1, by omega, by go_num, by rw [HNX2.out, HEQ.out]; exact HST⟩
              case measure => simp [intOf]; omega
        · obtain rfl : j = g2.length := by omega
          have hd2 : decide ((g2.length : Int) < g2.length) = false := by simp
          have HE := Aside0.mk (show DInv w wr (.slice Ao p.length co) (doAll p (gs.take (k + 1))) by
            have h := HD.out
            rw [List.take_length] at h
            rw [HNX.out]
            exact h)
          clear HD
          go_wp2_with fail
          go_roundw
          case rel => exact ⟨k + 1, by omega, by go_num, HE⟩
          case measure => simp [intOf]; omega
    · obtain rfl : k = gs.length := by omega
      have hd : decide ((gs.length : Int) < gs.length) = false := by simp
      go_wp2_with fail
      go_ret
      have h := HD.out
      rw [List.take_length] at h
      exact ⟨_, rfl, h.out, h.bel⟩
end Go.Proofs.Ytkkmmbbnaafhlaa.Roll
