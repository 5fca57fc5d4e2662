/- The walk of the references' Full: a sector out of bytes. -/
import Derived.Test.YtmkkkenpjealdaaSecRef
import Derived.Test.YtmkkkenpjealdaaSecMem
namespace Go.Proofs.Ytmkkkenpjealdaa.SecRef
open Go.RowKit Go.Proofs.YtmkkkenpjealdaaW.PrintWords Go.Proofs.YtmkkkenpjealdaaW.PrintLast Go.Proofs.YtmkkkenpjealdaaW.PrintMore PlainWord CrcPlain PlainSec CrcMem CrcWalks CrcRef Arr SecWord SecMem

/-- The first k bytes of one, noughts behind. -/
def upTo (s : List Int) (k : Nat) : List Int := s.take k ++ zeros (s.length - k)
theorem upTo_length (s : List Int) (k : Nat) : (upTo s k).length = s.length := by unfold upTo; rw [List.length_append, zeros_length, List.length_take]; omega
theorem upTo_zero (s : List Int) : upTo s 0 = zeros s.length := by simp [upTo]
theorem upTo_all (s : List Int) : upTo s s.length = s := by simp [upTo, zeros]
theorem zeros_getD (n j : Nat) : (zeros n).getD j 0 = 0 := by
  unfold zeros
  rw [List.getD_eq_getElem?_getD, List.getElem?_replicate]
  split <;> rfl
theorem upTo_getD (s : List Int) (k j : Nat) (hk : k ≤ s.length) : (upTo s k).getD j 0 = if j < k then s.getD j 0 else 0 := by
  unfold upTo
  have hl : (s.take k).length = k := by rw [List.length_take]; omega
  by_cases h : j < k
  · rw [if_pos h, getD_left (by omega), getD_take h]
  · rw [if_neg h, getD_right (by omega), zeros_getD]
theorem upTo_succ (s : List Int) (k : Nat) (h : k < s.length) : (upTo s k).set k (s.getD k 0) = upTo s (k + 1) := by
  apply ext_getD (by rw [List.length_set, upTo_length, upTo_length])
  intro j hj
  rw [List.length_set, upTo_length] at hj
  rw [getD_set _ _ _ _ (by rw [upTo_length]; exact h), upTo_getD _ _ _ (by omega), upTo_getD _ _ _ (by omega)]
  by_cases e : k = j
  · rw [if_pos e, if_pos (by omega), e]
  · rw [if_neg e]
    by_cases h1 : j < k
    · rw [if_pos h1, if_pos (by omega)]
    · rw [if_neg h1, if_neg (by omega)]
set_option maxHeartbeats 2000000 in
theorem full_calls (w : World) (B : Nat) (v : Value) (l : List Int) (hO : RB w B v l) (hB : B ≤ w.heap.size) (hl : l.length ≤ 60) (hb : Bytes l) :
    Calls Try.prog 49 #[v] w fun e w' => e = .returned (.agg (encs (Value.int .u8) (fullL l)).toArray) ∧ Below B w w' := by
  have HO0 := Aside0.mk (Kd.R_mono (Kd.R_bound hO) (fun _ h => h.2.2.1) : Kd.R (Kd.int .u8) 5 w B (fun k => k < w.heap.size) v l)
  have HB := Aside0.mk hb
  have HW := Aside0.mk (Below.refl B w)
  clear hO hb
  go_enter Try.func49, Try.ntmps49
  go_wp2_with ((with_reducible refine gate_dst (N := 2) rfl ?_); refine wpl_alloc rfl 28 rfl _ zero28 _ rfl ?_; intro w1 g h1 h2 h3; obtain ⟨Z, hZ⟩ : ∃ Z : List Int, Z = zeros 64 := ⟨_, rfl⟩; rw [← hZ] at h2; have hZl : Z.length = 64 := (by rw [hZ, zeros_length]); clear hZ; have H2 := Aside0.mk h2; have H3 := Aside0.mk (below_new HW.out hB h3); have hs1 := h3.size; have HO1 := Aside0.mk (Kd.R_mono (Kd.R_grown HO0.out h3 (fun _ _ e => by cases e)) (fun k (hk : k < w.heap.size) => show k ≠ g by omega) : Kd.R (Kd.int .u8) 5 w1 B (fun k => k ≠ g) v l); clear h2 h3)
  clear HO0 HW
  simp only [Act.put, List.setIfInBounds_toArray, List.set_cons_succ, List.set_cons_zero]
  go_loopw [0] (fun u wr => ∃ (k : Nat) (A : Option Addr) (c : Nat), l.length + k ≤ 60 ∧ u = .slice A (l.length + k) c ∧ Aside0 (Kd.R (Kd.int .u8) 5 wr B (fun k => k ≠ g) u (l ++ zeros k)) ∧ Aside0 (BB wr g 28 Z) ∧ Aside0 (Below B w wr) ∧ g < wr.heap.size) (fun u _ => 60 - (match u with | .slice _ n _ => n | _ => 0))
  case atStart =>
    obtain ⟨A, c, rfl⟩ := Kd.R_slice HO1.out
    exact ⟨0, A, c, by omega, rfl, ⟨by simpa [zeros] using HO1.out⟩, H2, H3, H2.out.lt⟩
  case round =>
    clear HO1 H2 H3
    obtain ⟨k, A, c, hk, rfl, HO, HG, HW, hg⟩ := hrel
    have hS := HW.out.size
    have hlen : (l ++ zeros k).length = l.length + k := by rw [List.length_append, zeros_length]
    by_cases hlt : l.length + k < 60
    · go_upto_region 2 with (fail)
      generalize Value.slice A (l.length + k) c = u at *
      go_wp2_with (first | (at_builtin; refine app_u8o rfl (.tmp 8) (.tmp 9) rfl _ (l ++ zeros k) _ (fun k => k ≠ g) rfl rfl HO.out (fun q hq => show q ≠ g by omega) HW.out (by omega) (by omega) ?_; intro v3 w3 h7 h8 h9 h10; obtain ⟨A3, c3, e3⟩ := Kd.R_slice h7; simp only [List.length_append, zeros_length, List.length_cons, List.length_nil] at e3; subst e3; have H7 := Aside0.mk h7; have H8 := Aside0.mk h8; have H9 := Aside0.mk (show BB w3 g 28 Z from (h10 g (fun h => h rfl) hg).trans HG.out); clear h7 h8 h10))
      go_roundw
      case rel => exact ⟨k + 1, A3, c3, by omega, rfl, ⟨by rw [zeros_add, ← List.append_assoc]; exact H7.out⟩, H9, H8, by omega⟩
      case measure => simp; omega
    · have hk60 : l.length + k = 60 := by omega
      have hR := (Kd.R_reads' HO.out).2.2
      rw [hlen] at hR
      obtain ⟨s, hs⟩ : ∃ s, s = l ++ zeros k := ⟨_, rfl⟩
      have hfull : sealL s = fullL l := by rw [hs, show k = 60 - l.length by omega]; rfl
      have hsl : s.length = 60 := by rw [hs, hlen, hk60]
      have hsb : Bytes s := by rw [hs]; exact bytes_append HB.out (zeros_bytes _)
      rw [← hs, hk60] at hR
      rw [hk60]
      have HR := Aside0.mk hR
      have HF := Aside0.mk hfull
      clear hR HO hs hfull
      go_wp2_with fail
      refine (refseal_calls A 60 c s _ HR.out hsb (by omega)).mono ?_
      rintro e w4 ⟨v4, rfl, h4, h5⟩
      obtain ⟨A4, c4, rfl⟩ := Kd.R_slice h4
      have HS := Aside0.mk (Kd.R_reads' h4).2.2
      have hsl4 : (sealL s).length = 64 := by rw [seal_length, hsl]
      rw [hsl4] at HS
      rw [hsl4]
      have HG4 := Aside0.mk (HG.out.below h5 hg)
      have HW4 := Aside0.mk (HW.out.trans (h5.mono (by omega)))
      clear h4 h5 HR HG HW
      obtain ⟨q, hq⟩ : ∃ q, q = sealL s := ⟨_, rfl⟩
      rw [← hq] at HS hsl4
      have HQ := Aside0.mk (hq.trans HF.out)
      clear hq HF
      go_wp2_with (first | ((with_reducible refine gate_dst (N := 3) rfl ?_); refine wpl_alloc rfl 28 rfl _ zero28 _ rfl ?_; intro w5 g5 h1 h2 h3; have H2 := Aside0.mk (show BB w5 g5 28 (upTo q 0) by rw [upTo_zero, hsl4]; exact h2); have HK5 := Aside0.mk (below_new (Below.refl _ _) (Nat.le_refl _) h3); clear h2 h3))
      go_loopw [4] (fun i wr => ∃ k : Nat, k ≤ 64 ∧ i = .int .i64 k ∧ Aside0 (BB wr g5 28 (upTo q k)) ∧ Aside0 (Below w4.heap.size w4 wr)) (fun i _ => 64 - (intOf i).toNat)
      case atStart => exact ⟨0, by omega, rfl, H2, HK5⟩
      case round =>
        clear H2 HK5
        obtain ⟨i, hi, rfl, HO, HK⟩ := hrel
        have HS5 := Aside0.mk (Kd.C_below HS.out HK.out)
        by_cases hlt : i < 64
        · obtain ⟨ad, rfl, hx⟩ := Kd.at_int HS5.out (i : Int) (by omega) (by omega)
          rw [Int.toNat_natCast] at hx
          have hc := HO.out.encAt (0 : Int) i (by rw [upTo_length]; omega)
          have hf := HO.out.frozen i
          go_wp2_with fail
          go_roundw
          case rel => exact ⟨i + 1, by omega, by go_num, ⟨by have := HO.out.encSet i (rd q (i : Int)); rwa [rd_nat, Int.toNat_natCast, upTo_succ q i (by omega), ← Int.toNat_natCast i, ← rd_nat, Int.toNat_natCast] at this⟩, ⟨HK.out.setCell h1 _⟩⟩
          case measure => simp [intOf]; omega
        · obtain rfl : i = 64 := by omega
          have HL := Aside0.mk (show BB wr g5 28 q by have := HO.out; rwa [show (64 : Nat) = q.length by omega, upTo_all] at this)
          have HG := Aside0.mk (HG4.out.below HK.out HG4.out.lt)
          clear HO HG4
          go_wp2_with (first | ((with_reducible refine gate_dst (N := 23) rfl ?_); refine load28 rfl (.tmp 3) rfl g5 rfl HL.out hsl4 ?_) | ((with_reducible refine gate_store (t := 28) (p := 2) rfl ?_); refine store28 rfl rfl (.tmp 2) (.tmp 23) rfl g rfl q rfl hsl4 HG.out hZl ?_; intro w6 h6 h7 h8))
          refine bodyPost_ret (ret28 rfl rfl h6 hsl4) rfl ?_
          exact ⟨by rw [HQ.out], below_grown ((HW4.out.trans (HK.out.mono (by have := HW4.out.size; omega)))) (by omega) (by have := HW4.out.size; have := HK.out.size; omega) h7⟩
end Go.Proofs.Ytmkkkenpjealdaa.SecRef
