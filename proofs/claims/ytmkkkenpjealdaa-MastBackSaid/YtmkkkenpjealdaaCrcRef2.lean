/- The walks of layer 2's reference, further: Seal; the comparison of bytes. -/
import Derived.Test.YtmkkkenpjealdaaCrcRef
namespace Go.Proofs.Ytmkkkenpjealdaa.CrcRef
open Go.RowKit Go.Proofs.YtmkkkenpjealdaaW.PrintWords Go.Proofs.YtmkkkenpjealdaaW.PrintLast Go.Proofs.YtmkkkenpjealdaaW.PrintMore PlainWord CrcPlain CrcMem CrcWalks Arr

set_option maxHeartbeats 1000000 in
theorem refseal_calls (A : Option Addr) (n c : Nat) (l : List Int) (w : World) (hr : CB w A n l) (hb : Bytes l) (hl : l.length ≤ 17592186044415) :
    Calls Try.prog 23 #[.slice A n c] w (NewB w (sealL l)) := by
  obtain rfl := Kd.C_len hr
  have HR := Aside0.mk hr
  have HB := Aside0.mk hb
  have HW := Aside0.mk (Below.refl w.heap.size w)
  have HN := Aside0.mk (Kd.R_nil (Kd.int .u8) 5 w w.heap.size (fun _ => True))
  clear hr hb
  go_enter Try.func23, Try.ntmps23
  go_wp2_with (first | (at_builtin; refine apps_u8 rfl (.tmp 6) (.tmp 7) rfl (.slice none 0 0) [] A l c rfl rfl HN.out HR.out HW.out (Nat.le_refl _) (by simp; omega) ?_; intro v1 w1 h1 h2 h3; have H1 := Aside0.mk h1; have H2 := Aside0.mk h2; clear h1 h2) | (go_at_call 50; refine (sumref A _ c l w1 (Kd.C_below HR.out H2.out) HB.out hl).mono ?_; rintro e w2 ⟨rfl, h4⟩; have H3 := Aside0.mk (Kd.R_below H1.out h4); have H4 := Aside0.mk (H2.out.trans (h4.mono h3)); clear h4))
  go_loopw [3, 4, 5] (fun v s i wr => ∃ k : Nat, k ≤ 4 ∧ i = .int .i64 k ∧ s = .int .u32 (iv (sum l) / 256 ^ k) ∧ Aside0 (RB wr w.heap.size v (l ++ le (sum l) k)) ∧ Aside0 (Below w.heap.size w wr)) (fun _ _ i _ => 4 - (intOf i).toNat)
  case atStart => exact ⟨0, by omega, rfl, by simp, ⟨by simpa [le] using H3.out⟩, H4⟩
  case round =>
    clear H1 H2 H3 H4 HN HW
    obtain ⟨k, hk, rfl, rfl, HO, HW⟩ := hrel
    have hS := HW.out.size
    by_cases hlt : k < 4
    · have hq := iv256 (sum l) k
      go_wp2_with (first | (at_builtin; refine app_u8 rfl (.tmp 15) (.tmp 19) rfl u3 (l ++ le (sum l) k) _ rfl rfl HO.out HW.out hS (by rw [List.length_append, le_length]; omega) ?_; intro v3 w3 h7 h8 h9; have H7 := Aside0.mk h7; have H8 := Aside0.mk h8; clear h7 h8))
      go_roundw
      case rel => exact ⟨k + 1, by omega, by go_num, by rw [Int.pow_succ, Int.ediv_ediv_of_nonneg (Int.le_of_lt (pow256_pos k))], ⟨by rw [le_succ, ← List.append_assoc]; exact H7.out⟩, H8⟩
      case measure => simp [intOf]; omega
    · obtain rfl : k = 4 := by omega
      go_wp2
      go_ret
      exact ⟨_, rfl, HO.out, HW.out⟩

end Go.Proofs.Ytmkkkenpjealdaa.CrcRef
