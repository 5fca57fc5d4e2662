/- The walks of the references' common parts: numbers' bytes; sectors out of bytes; sums of sectors. -/
import Derived.Test.YtmkkkenpjealdaaSecWord
namespace Go.Proofs.Ytmkkkenpjealdaa.SecRef
open Go.RowKit Go.Proofs.YtmkkkenpjealdaaW.PrintWords Go.Proofs.YtmkkkenpjealdaaW.PrintLast Go.Proofs.YtmkkkenpjealdaaW.PrintMore PlainWord CrcPlain PlainSec CrcMem CrcWalks CrcRef Arr SecWord

/-- A new row of bytes comes back, and what was there stays. -/
theorem div_div (x : Int) (k : Nat) : x / 256 ^ k / 256 = x / 256 ^ (k + 1) := by rw [Int.pow_succ, Int.ediv_ediv_of_nonneg (Int.le_of_lt (pow256_pos k))]
theorem div_nonneg (x : Int) (k : Nat) (h : 0 ≤ x) : 0 ≤ x / 256 ^ k := Int.ediv_nonneg h (Int.le_of_lt (pow256_pos k))
theorem div_le (x : Int) (k : Nat) (h : 0 ≤ x) : x / 256 ^ k ≤ x := Int.ediv_le_self _ h
set_option maxHeartbeats 1000000 in
theorem low48 (x : Int) (n : Nat) (hn : n ≤ 8) (hx : 0 ≤ x) (hx1 : x ≤ 9223372036854775807) (w : World) : Calls Try.prog 48 #[.int .i64 x, .int .i64 n] w (NewB w (leI x n)) := by
  have HW := Aside0.mk (Below.refl w.heap.size w)
  have HN := Aside0.mk (Kd.R_nil (Kd.int .u8) 5 w w.heap.size (fun _ => True))
  go_enter Try.func48, Try.ntmps48
  go_wp2
  go_loopw [0, 5, 6] (fun s v i wr => ∃ k : Nat, k ≤ n ∧ i = .int .i64 k ∧ s = .int .i64 (x / 256 ^ k) ∧ Aside0 (RB wr w.heap.size v (leI x k)) ∧ Aside0 (Below w.heap.size w wr)) (fun _ _ i _ => n - (intOf i).toNat)
  case atStart => exact ⟨0, by omega, rfl, by simp, ⟨by rw [leI_zero]; exact HN.out⟩, HW⟩
  case round =>
    clear HN HW
    obtain ⟨k, hk, rfl, rfl, HO, HW⟩ := hrel
    have hS := HW.out.size
    by_cases hlt : k < n
    · have h0 := div_nonneg x k hx
      have h1 := div_le x k hx
      have hdd := div_div x k
      obtain ⟨y, hy⟩ : ∃ y, y = x / 256 ^ k := ⟨_, rfl⟩
      rw [← hy] at h0 h1 hdd
      have HY := Aside0.mk hy
      rw [← hy]
      clear hy
      go_wp2_with (first | (at_builtin; refine app_u8 rfl (.tmp 12) (.tmp 16) rfl u5 (leI x k) _ rfl rfl HO.out HW.out hS (by rw [leI_length]; omega) ?_; intro v3 w3 h7 h8 h9; have H7 := Aside0.mk h7; have H8 := Aside0.mk h8; clear h7 h8))
      go_roundw
      case rel => exact ⟨k + 1, by omega, by go_num, by rw [hdd], ⟨by rw [leI_succ, ← HY.out]; exact H7.out⟩, H8⟩
      case measure => simp [intOf]; omega
    · obtain rfl : k = n := by omega
      go_wp2
      go_ret
      exact ⟨_, rfl, HO.out, HW.out⟩
set_option maxHeartbeats 1000000 in
theorem low55 (x : Int) (n : Nat) (hn : n ≤ 8) (hx : 0 ≤ x) (hx1 : x ≤ 9223372036854775807) (w : World) : Calls Try.prog 55 #[.int .i64 x, .int .i64 n] w (NewB w (leI x n)) := by
  have HW := Aside0.mk (Below.refl w.heap.size w)
  have HN := Aside0.mk (Kd.R_nil (Kd.int .u8) 5 w w.heap.size (fun _ => True))
  go_enter Try.func55, Try.ntmps55
  go_wp2
  go_loopw [0, 5, 6] (fun s v i wr => ∃ k : Nat, k ≤ n ∧ i = .int .i64 k ∧ s = .int .i64 (x / 256 ^ k) ∧ Aside0 (RB wr w.heap.size v (leI x k)) ∧ Aside0 (Below w.heap.size w wr)) (fun _ _ i _ => n - (intOf i).toNat)
  case atStart => exact ⟨0, by omega, rfl, by simp, ⟨by rw [leI_zero]; exact HN.out⟩, HW⟩
  case round =>
    clear HN HW
    obtain ⟨k, hk, rfl, rfl, HO, HW⟩ := hrel
    have hS := HW.out.size
    by_cases hlt : k < n
    · have h0 := div_nonneg x k hx
      have h1 := div_le x k hx
      have hdd := div_div x k
      obtain ⟨y, hy⟩ : ∃ y, y = x / 256 ^ k := ⟨_, rfl⟩
      rw [← hy] at h0 h1 hdd
      have HY := Aside0.mk hy
      rw [← hy]
      clear hy
      go_wp2_with (first | (at_builtin; refine app_u8 rfl (.tmp 12) (.tmp 16) rfl u5 (leI x k) _ rfl rfl HO.out HW.out hS (by rw [leI_length]; omega) ?_; intro v3 w3 h7 h8 h9; have H7 := Aside0.mk h7; have H8 := Aside0.mk h8; clear h7 h8))
      go_roundw
      case rel => exact ⟨k + 1, by omega, by go_num, by rw [hdd], ⟨by rw [leI_succ, ← HY.out]; exact H7.out⟩, H8⟩
      case measure => simp [intOf]; omega
    · obtain rfl : k = n := by omega
      go_wp2
      go_ret
      exact ⟨_, rfl, HO.out, HW.out⟩
set_option maxHeartbeats 1000000 in
theorem low60 (x : Int) (n : Nat) (hn : n ≤ 8) (hx : 0 ≤ x) (hx1 : x ≤ 9223372036854775807) (w : World) : Calls Try.prog 60 #[.int .i64 x, .int .i64 n] w (NewB w (leI x n)) := by
  have HW := Aside0.mk (Below.refl w.heap.size w)
  have HN := Aside0.mk (Kd.R_nil (Kd.int .u8) 5 w w.heap.size (fun _ => True))
  go_enter Try.func60, Try.ntmps60
  go_wp2
  go_loopw [0, 5, 6] (fun s v i wr => ∃ k : Nat, k ≤ n ∧ i = .int .i64 k ∧ s = .int .i64 (x / 256 ^ k) ∧ Aside0 (RB wr w.heap.size v (leI x k)) ∧ Aside0 (Below w.heap.size w wr)) (fun _ _ i _ => n - (intOf i).toNat)
  case atStart => exact ⟨0, by omega, rfl, by simp, ⟨by rw [leI_zero]; exact HN.out⟩, HW⟩
  case round =>
    clear HN HW
    obtain ⟨k, hk, rfl, rfl, HO, HW⟩ := hrel
    have hS := HW.out.size
    by_cases hlt : k < n
    · have h0 := div_nonneg x k hx
      have h1 := div_le x k hx
      have hdd := div_div x k
      obtain ⟨y, hy⟩ : ∃ y, y = x / 256 ^ k := ⟨_, rfl⟩
      rw [← hy] at h0 h1 hdd
      have HY := Aside0.mk hy
      rw [← hy]
      clear hy
      go_wp2_with (first | (at_builtin; refine app_u8 rfl (.tmp 12) (.tmp 16) rfl u5 (leI x k) _ rfl rfl HO.out HW.out hS (by rw [leI_length]; omega) ?_; intro v3 w3 h7 h8 h9; have H7 := Aside0.mk h7; have H8 := Aside0.mk h8; clear h7 h8))
      go_roundw
      case rel => exact ⟨k + 1, by omega, by go_num, by rw [hdd], ⟨by rw [leI_succ, ← HY.out]; exact H7.out⟩, H8⟩
      case measure => simp [intOf]; omega
    · obtain rfl : k = n := by omega
      go_wp2
      go_ret
      exact ⟨_, rfl, HO.out, HW.out⟩
end Go.Proofs.Ytmkkkenpjealdaa.SecRef
