/- The walks of layer 2: what each call comes to. -/
import Derived.Test.YtbeodbelmnaeoaaProg
import Derived.Test.YtbeodbelmnaeoaaCrcPlain
import Derived.Test.YtbeodbelmnaeoaaCrcMem
import Derived.Test.YtbeodbelmnaeoaaWMore
import Derived.WalkKit
import Derived.WalkSpells
import Derived.WalkLawsBesides
import Derived.KernelRfl
namespace Go.Proofs.Ytbeodbelmnaeoaa.CrcWalks
open Go.RowKit Go.Proofs.YtbeodbelmnaeoaaW.PrintWords Go.Proofs.YtbeodbelmnaeoaaW.PrintLast Go.Proofs.YtbeodbelmnaeoaaW.PrintMore PlainWord CrcPlain CrcMem

set_option maxHeartbeats 1000000 in
theorem more_calls (A : Option Addr) (n c : Nat) (l : List Int) (s : R) (w : World) (hr : CB w A n l) (hb : Bytes l) :
    Calls Try.prog 30 #[.int .u32 (iv s), .slice A n c] w fun e w' => e = .returned (.int .u32 (iv (more s l))) ∧ w = w' := by
  obtain rfl := Kd.C_len hr
  have hm := Kd.C_max hr
  have HR := Aside0.mk hr
  have HB := Aside0.mk hb
  clear hr hb
  go_enter Try.func30, Try.ntmps30
  go_wp2
  go_loop [5, 13] (fun r i => ∃ k : Nat, k ≤ l.length ∧ i = .int .i64 k ∧ r = .int .u32 (iv (regs (~~~ s) (l.take k)))) (fun _ i => l.length - (intOf i).toNat)
  case atStart => exact ⟨0, Nat.zero_le _, rfl, by rw [bits_not_max]; rfl⟩
  case round =>
    obtain ⟨k, hk, rfl, rfl⟩ := hrel
    by_cases hlt : k < l.length
    · obtain ⟨ad, rfl, hc⟩ := Kd.at_int HR.out (k : Int) (by omega) (by omega)
      have hbk := HB.out.getD k
      have hx0 : 0 ≤ rd l (k : Int) := hbk.1
      have hx1 : rd l (k : Int) ≤ 255 := hbk.2
      clear hbk
      rw [Int.toNat_natCast] at hc
      go_wp2_with fail
      go_loop [5, 21] (fun r i => ∃ j : Nat, j ≤ 8 ∧ i = .int .i64 j ∧ r = .int .u32 (iv (steps j (regs (~~~ s) (l.take k) ^^^ BitVec.ofInt 32 (rd l (k : Int)))))) (fun _ i => 8 - (intOf i).toNat)
      case atStart => exact ⟨0, Nat.zero_le _, rfl, by rw [bits_xor_int]; rfl⟩
      case round =>
        obtain ⟨j, hj, rfl, rfl⟩ := hrel
        by_cases hlj : j < 8
        · go_wp2
          · go_round
            case rel => exact ⟨j + 1, by omega, by go_num, by rw [bit_yes _ ‹_›]; rfl⟩
            case measure => simp [intOf]; omega
          · go_round
            case rel => exact ⟨j + 1, by omega, by go_num, by rw [bit_no _ ‹_›]; rfl⟩
            case measure => simp [intOf]; omega
        · obtain rfl : j = 8 := by omega
          go_wp2
          go_round
          case rel => exact ⟨k + 1, by omega, by go_num, by rw [take_rd l k hlt, regs_snoc]; rfl⟩
          case measure => simp [intOf]; omega
    · go_wp2
      go_ret
      exact ⟨by rw [List.take_of_length_le (by omega), bits_not_max]; rfl, rfl⟩

/-- What is read: a row of bytes. -/
theorem sum_calls (A : Option Addr) (n c : Nat) (l : List Int) (w : World) (hr : CB w A n l) (hb : Bytes l) :
    Calls Try.prog 25 #[.slice A n c] w fun e w' => e = .returned (.int .u32 (iv (sum l))) ∧ w = w' := by
  go_enter Try.func25, Try.ntmps25
  go_wp2_with (go_at_call 30; refine (more_calls A n c l 0 w hr hb).mono ?_; rintro e w' ⟨rfl, rfl⟩)
  go_ret
  exact ⟨rfl, rfl⟩

/-- A new row of bytes comes back, and what was there stays. -/
def NewB (w : World) (l : List Int) (e : Ending) (w' : World) : Prop := ∃ v, e = .returned v ∧ RB w' w.heap.size v l ∧ Below w.heap.size w w'
theorem shr_at8 (x : R) (i : Nat) : iv x / 2 ^ (8 * i) = iv x / 256 ^ i := by rw [Int.pow_mul]; rfl
set_option maxHeartbeats 1000000 in
theorem seal_calls (A : Option Addr) (n c : Nat) (l : List Int) (w : World) (hr : CB w A n l) (hb : Bytes l) (hl : l.length ≤ 140737488351232) :
    Calls Try.prog 28 #[.slice A n c] w (NewB w (sealL l)) := by
  obtain rfl := Kd.C_len hr
  have HR := Aside0.mk hr
  have HB := Aside0.mk hb
  have HB0 := Aside0.mk (Below.refl w.heap.size w)
  clear hr hb
  go_enter Try.func28, Try.ntmps28
  go_wp2_with (first | (go_at_call 25; refine (sum_calls A _ c l w HR.out HB.out).mono ?_; rintro e w' ⟨rfl, rfl⟩) | (at_make; refine make_u8 rfl (.tmp 10) rfl _ (l.length + 4) rfl (by omega) (by omega) HB0.out (Nat.le_refl _) ?_; intro v1 w1 h1 h2 h3; have H1 := Aside0.mk h1; have H2 := Aside0.mk h2; clear h1 h2) | (at_builtin; refine apps_u8 rfl (.tmp 12) (.tmp 13) rfl v1 [] A l c rfl rfl H1.out (Kd.C_below HR.out H2.out) H2.out h3 (by simp; omega) ?_; intro v2 w2 h4 h5 h6; have H4 := Aside0.mk h4; have H5 := Aside0.mk h5; clear h4 h5))
  clear H1 H2 h3 HB0
  go_loopw [4, 15] (fun v i wr => ∃ k : Nat, k ≤ 4 ∧ i = .int .i64 k ∧ Aside0 (RB wr w.heap.size v (l ++ le (sum l) k)) ∧ Aside0 (Below w.heap.size w wr)) (fun _ i _ => 4 - (intOf i).toNat)
  case atStart => exact ⟨0, by omega, rfl, ⟨by simpa [le] using H4.out⟩, H5⟩
  case round =>
    obtain ⟨k, hk, rfl, HO, HBe⟩ := hrel
    by_cases hlt : k < 4
    · have e0 : 0 ≤ 8 * (k : Int) := by omega
      have e1 : 8 * (k : Int) ≤ 32 := by omega
      go_wp2_with (first | (at_builtin; refine app_u8 rfl (.tmp 18) (.tmp 25) rfl u4 (l ++ le (sum l) k) (iv (sum l) / 2 ^ (8 * k) % 256) rfl rfl HO.out HBe.out HBe.out.size (by rw [List.length_append, le_length]; omega) ?_; intro v3 w3 h7 h8 h9; have H7 := Aside0.mk h7; have H8 := Aside0.mk h8; clear h7 h8))
      go_roundw
      case rel => exact ⟨k + 1, by omega, by go_num, ⟨by rw [le_succ, ← List.append_assoc, ← shr_at8]; exact H7.out⟩, H8⟩
      case measure => simp [intOf]; omega
    · obtain rfl : k = 4 := by omega
      go_wp2
      go_ret
      exact ⟨_, rfl, HO.out, HBe.out⟩

set_option maxHeartbeats 1000000 in
theorem right_calls (A : Option Addr) (n c : Nat) (l : List Int) (w : World) (hr : CB w A n l) (hc : n ≤ c) (hb : Bytes l) (hl : l.length ≤ 140737488351232) :
    Calls Try.prog 29 #[.slice A n c] w fun e w' => e = .returned (.bool (rightB l)) ∧ w = w' := by
  obtain rfl := Kd.C_len hr
  have HR := Aside0.mk hr
  have HB := Aside0.mk hb
  clear hr hb
  by_cases h4 : 4 ≤ l.length
  · go_enter Try.func29, Try.ntmps29
    go_wp2
    go_loop [4, 11] (fun s i => ∃ k : Nat, k ≤ 4 ∧ i = .int .i64 k ∧ s = .int .u32 (getN l ((l.length : Int) - 4) k)) (fun _ i => 4 - (intOf i).toNat)
    case atStart => exact ⟨0, by omega, rfl, rfl⟩
    case round =>
      obtain ⟨k, hk, rfl, rfl⟩ := hrel
      by_cases hlt : k < 4
      · obtain ⟨ad, rfl, hx⟩ := Kd.at_int HR.out ((l.length : Int) - 4 + k) (by omega) (by omega)
        have hb2 := HB.out.getD ((l.length : Int) - 4 + k).toNat
        have hx0 : 0 ≤ rd l ((l.length : Int) - 4 + k) := hb2.1
        have hx1 : rd l ((l.length : Int) - 4 + k) ≤ 255 := hb2.2
        have e0 : 0 ≤ 8 * (k : Int) := by omega
        have e1 : 8 * (k : Int) ≤ 32 := by omega
        clear hb2
        rw [show ((l.length : Int) - 4 + k).toNat = l.length - 4 + k from by omega] at hx
        go_wp2_with fail
        go_round
        case rel => exact ⟨k + 1, by omega, by go_num, by rw [or32 _ _ _ (by omega) (getN_bound HB.out _ k).1 (getN_bound HB.out _ k).2 hx0 hx1]; rfl⟩
        case measure => simp [intOf]; omega
      · obtain rfl : k = 4 := by omega
        have HT := Aside0.mk (CB.take HR.out (m := l.length - 4) (by omega))
        go_wp2_with (go_at_call 25; refine (sum_calls A _ c _ w HT.out (bytes_take HB.out _)).mono ?_; rintro e w' ⟨rfl, rfl⟩)
        go_ret
        exact ⟨by unfold rightB; rw [decide_eq_true h4]; rfl, rfl⟩
  · go_enter Try.func29, Try.ntmps29
    go_wp2
    go_ret
    exact ⟨by unfold rightB; rw [decide_eq_false h4]; rfl, rfl⟩
end Go.Proofs.Ytbeodbelmnaeoaa.CrcWalks
