/- The walks of layer 2: what each call comes to. -/
import Derived.Test.YtmkkkenpjealdaaProg
import Derived.Test.YtmkkkenpjealdaaCrcPlain
import Derived.Test.YtmkkkenpjealdaaCrcMem
import Derived.Test.YtmkkkenpjealdaaWMore
import Derived.WalkKit
import Derived.WalkSpells
import Derived.WalkLawsBesides
import Derived.KernelRfl
namespace Go.Proofs.Ytmkkkenpjealdaa.CrcWalks
open Go.RowKit Go.Proofs.YtmkkkenpjealdaaW.PrintWords Go.Proofs.YtmkkkenpjealdaaW.PrintLast Go.Proofs.YtmkkkenpjealdaaW.PrintMore PlainWord CrcPlain CrcMem

set_option maxHeartbeats 1000000 in
theorem more_calls (A : Option Addr) (n c : Nat) (l : List Int) (s : R) (w : World) (hr : CB w A n l) (hb : Bytes l) :
    Calls Try.prog 66 #[.int .u32 (iv s), .slice A n c] w fun e w' => e = .returned (.int .u32 (iv (more s l))) ∧ w = w' := by
  obtain rfl := Kd.C_len hr
  have hm := Kd.C_max hr
  have HR := Aside0.mk hr
  have HB := Aside0.mk hb
  clear hr hb
  go_enter Try.func66, Try.ntmps66
  go_wp2
  go_loop [5, 13] (fun r i => ∃ k : Nat, k ≤ l.length ∧ i = .int .i64 k ∧ r = .int .u32 (iv (regs (~~~ s) (l.take k)))) (fun _ i => l.length - (intOf i).toNat)
  case atStart => exact ⟨0, Nat.zero_le _, rfl, by rw [bits_not_max]; rfl⟩
  case round =>
    obtain ⟨k, hk, rfl, rfl⟩ := hrel
    by_cases hlt : k < l.length
    · obtain ⟨ad, rfl, hc⟩ := Kd.at_int HR.out (k : Int) (by omega) (by omega)
      have hbk := HB.out.getD k
      have hx0 : 0 ≤ rd l (k : Int) := hbk.1
      have hx1 : rd l (k : Int) ≤ 255 := hbk.2
      clear hbk
      rw [Int.toNat_natCast] at hc
      go_wp2_with fail
      go_loop [5, 21] (fun r i => ∃ j : Nat, j ≤ 8 ∧ i = .int .i64 j ∧ r = .int .u32 (iv (steps j (regs (~~~ s) (l.take k) ^^^ BitVec.ofInt 32 (rd l (k : Int)))))) (fun _ i => 8 - (intOf i).toNat)
      case atStart => exact ⟨0, Nat.zero_le _, rfl, by rw [bits_xor_int]; rfl⟩
      case round =>
        obtain ⟨j, hj, rfl, rfl⟩ := hrel
        by_cases hlj : j < 8
        · go_wp2
          · go_round
            case rel => exact ⟨j + 1, by omega, by go_num, by rw [bit_yes _ ‹_›]; rfl⟩
            case measure => simp [intOf]; omega
          · go_round
            case rel => exact ⟨j + 1, by omega, by go_num, by rw [bit_no _ ‹_›]; rfl⟩
            case measure => simp [intOf]; omega
        · obtain rfl : j = 8 := by omega
          go_wp2
          go_round
          case rel => exact ⟨k + 1, by omega, by go_num, by rw [take_rd l k hlt, regs_snoc]; rfl⟩
          case measure => simp [intOf]; omega
    · go_wp2
      go_ret
      exact ⟨by rw [List.take_of_length_le (by omega), bits_not_max]; rfl, rfl⟩

/-- What is read: a row of bytes. -/
theorem sum_calls (A : Option Addr) (n c : Nat) (l : List Int) (w : World) (hr : CB w A n l) (hb : Bytes l) :
    Calls Try.prog 47 #[.slice A n c] w fun e w' => e = .returned (.int .u32 (iv (sum l))) ∧ w = w' := by
  go_enter Try.func47, Try.ntmps47
  go_wp2_with (go_at_call 66; refine (more_calls A n c l 0 w hr hb).mono ?_; rintro e w' ⟨rfl, rfl⟩)
  go_ret
  exact ⟨rfl, rfl⟩

/-- A new row of bytes comes back, and what was there stays. -/
def NewB (w : World) (l : List Int) (e : Ending) (w' : World) : Prop := ∃ v, e = .returned v ∧ RB w' w.heap.size v l ∧ Below w.heap.size w w'
theorem shr_at8 (x : R) (i : Nat) : iv x / 2 ^ (8 * i) = iv x / 256 ^ i := by rw [Int.pow_mul]; rfl
set_option maxHeartbeats 1000000 in
theorem right_calls (A : Option Addr) (n c : Nat) (l : List Int) (w : World) (hr : CB w A n l) (hc : n ≤ c) (hb : Bytes l) (hl : l.length ≤ 140737488351232) :
    Calls Try.prog 51 #[.slice A n c] w fun e w' => e = .returned (.bool (rightB l)) ∧ w = w' := by
  obtain rfl := Kd.C_len hr
  have HR := Aside0.mk hr
  have HB := Aside0.mk hb
  clear hr hb
  by_cases h4 : 4 ≤ l.length
  · go_enter Try.func51, Try.ntmps51
    go_wp2
    go_loop [4, 11] (fun s i => ∃ k : Nat, k ≤ 4 ∧ i = .int .i64 k ∧ s = .int .u32 (getN l ((l.length : Int) - 4) k)) (fun _ i => 4 - (intOf i).toNat)
    case atStart => exact ⟨0, by omega, rfl, rfl⟩
    case round =>
      obtain ⟨k, hk, rfl, rfl⟩ := hrel
      by_cases hlt : k < 4
      · obtain ⟨ad, rfl, hx⟩ := Kd.at_int HR.out ((l.length : Int) - 4 + k) (by omega) (by omega)
        have hb2 := HB.out.getD ((l.length : Int) - 4 + k).toNat
        have hx0 : 0 ≤ rd l ((l.length : Int) - 4 + k) := hb2.1
        have hx1 : rd l ((l.length : Int) - 4 + k) ≤ 255 := hb2.2
        have e0 : 0 ≤ 8 * (k : Int) := by omega
        have e1 : 8 * (k : Int) ≤ 32 := by omega
        clear hb2
        rw [show ((l.length : Int) - 4 + k).toNat = l.length - 4 + k from by omega] at hx
        go_wp2_with fail
        go_round
        case rel => exact ⟨k + 1, by omega, by go_num, by rw [or32 _ _ _ (by omega) (getN_bound HB.out _ k).1 (getN_bound HB.out _ k).2 hx0 hx1]; rfl⟩
        case measure => simp [intOf]; omega
      · obtain rfl : k = 4 := by omega
        have HT := Aside0.mk (CB.take HR.out (m := l.length - 4) (by omega))
        go_wp2_with (go_at_call 47; refine (sum_calls A _ c _ w HT.out (bytes_take HB.out _)).mono ?_; rintro e w' ⟨rfl, rfl⟩)
        go_ret
        exact ⟨by unfold rightB; rw [decide_eq_true h4]; rfl, rfl⟩
  · go_enter Try.func51, Try.ntmps51
    go_wp2
    go_ret
    exact ⟨by unfold rightB; rw [decide_eq_false h4]; rfl, rfl⟩
end Go.Proofs.Ytmkkkenpjealdaa.CrcWalks
