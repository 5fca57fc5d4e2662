/- The walks of layer 1, over a block that is known whole. -/
import Derived.Test.YtmkkkenpjealdaaProg
import Derived.Test.YtmkkkenpjealdaaPlainSec
import Derived.Test.YtmkkkenpjealdaaCrcRef2
import Derived.Test.YtmkkkenpjealdaaSec
namespace Go.Proofs.Ytmkkkenpjealdaa.SecWord
open Go.RowKit Go.Proofs.YtmkkkenpjealdaaW.PrintWords Go.Proofs.YtmkkkenpjealdaaW.PrintLast Go.Proofs.YtmkkkenpjealdaaW.PrintMore PlainWord CrcPlain PlainSec CrcMem CrcWalks CrcRef Arr

/-- A block of bytes, known whole. -/
abbrev BB (w : World) (g : Nat) (T : TypeId) (l : List Int) : Prop := Blk w g T (encs (Value.int .u8) l)
theorem BB.reads {w : World} {g : Nat} {T : TypeId} {l : List Int} (h : BB w g T l) (m : Nat) (hm : m ≤ l.length) (hl : l.length ≤ 1000000) : CB w (some ⟨g, 0, none⟩) m (l.take m) := by
  refine Kd.C_of_reads (enc := Value.int .u8) (d := (0 : Int)) (h1 := fun _ => rfl) ⟨by rw [List.length_take]; omega, by omega, fun _ => ⟨_, rfl, fun j hj => ?_⟩⟩
  rw [addr_at, Nat.zero_add, h.encAt (0 : Int) j (by omega), getD_take hj]
theorem BB.readsAll {w : World} {g : Nat} {T : TypeId} {l : List Int} (h : BB w g T l) (hl : l.length ≤ 1000000) : CB w (some ⟨g, 0, none⟩) l.length l := by
  have := h.reads l.length (Nat.le_refl _) hl
  rwa [List.take_of_length_le (Nat.le_refl _)] at this
theorem fits_calls (A : Option Addr) (m c : Nat) (a n : Int) (w : World) (hm : m ≤ 1000000) (h : 1 ≤ n ∧ n ≤ 8 ∧ 0 ≤ a ∧ a + n ≤ m) :
    Calls Try.prog 65 #[.slice A m c, .int .i64 a, .int .i64 n] w fun e w' => e = .returned (.bool true) ∧ w = w' := by
  have h1 : decide (1 ≤ n) = true := by simp; omega
  have h2 : decide (n ≤ 8) = true := by simp; omega
  have h3 : decide (0 ≤ a) = true := by simp; omega
  have h4 : decide (a ≤ (m : Int) - n) = true := by simp; omega
  go_enter Try.func65, Try.ntmps65
  go_wp2
  go_ret
  exact ⟨by simp, rfl⟩
theorem putL_zero (l : List Int) (a x : Int) : putL l a 0 x = l := by
  apply ext_getD (putL_length _ _ _ _)
  intro j hj
  rw [putL_length] at hj
  rw [putL_getD _ _ _ _ _ hj, if_neg (by omega)]
theorem putL_succ (l : List Int) (a k : Nat) (x : Int) (h : a + k < l.length) : (putL l a k x).set (a + k) (x / 2 ^ (8 * k) % 256) = putL l a ((k + 1 : Nat) : Int) x := by
  apply ext_getD (by simp [putL_length])
  intro j hj
  rw [List.length_set, putL_length] at hj
  rw [getD_set _ _ _ _ (by rw [putL_length]; exact h), putL_getD _ _ _ _ _ hj, putL_getD _ _ _ _ _ hj, pow256]
  by_cases e : a + k = j
  · rw [if_pos e, if_pos (by omega)]
    congr 3
    omega
  · rw [if_neg e]
    by_cases h1 : (a : Int) ≤ j ∧ (j : Int) < a + k
    · rw [if_pos h1, if_pos (by omega)]
    · rw [if_neg h1, if_neg (by omega)]
set_option maxHeartbeats 1000000 in
theorem put_calls (w : World) (g : Nat) (T : TypeId) (l : List Int) (hb : BB w g T l) (m c : Nat) (hm : m = l.length) (a n : Nat) (x : Int) (hn : 1 ≤ n ∧ n ≤ 8) (ha : a + n ≤ l.length) (hl : l.length ≤ 1000000) :
    Calls Try.prog 46 #[.slice (some ⟨g, 0, none⟩) m c, .int .i64 a, .int .i64 n, .int .u64 x] w fun e w' => e = .returned (.bool true) ∧ BB w' g T (putL l a n x) ∧ w.grownBy w' (some g) := by
  subst hm
  have HB := Aside0.mk hb
  clear hb
  go_enter Try.func46, Try.ntmps46
  go_wp2_with (go_at_call 65; refine (fits_calls _ _ _ _ _ _ hl (by omega)).mono ?_; rintro e w' ⟨rfl, rfl⟩)
  go_loopw [16] (fun i wr => ∃ k : Nat, k ≤ n ∧ i = .int .i64 k ∧ Aside0 (BB wr g T (putL l a k x)) ∧ Aside0 (w.grownBy wr (some g))) (fun i _ => n - (intOf i).toNat)
  case atStart => exact ⟨0, by omega, rfl, ⟨by rw [show ((0 : Nat) : Int) = 0 from rfl, putL_zero]; exact HB.out⟩, ⟨World.grownBy.refl _ _⟩⟩
  case round =>
    obtain ⟨k, hk, rfl, HO, HG⟩ := hrel
    by_cases hlt : k < n
    · have hc := HO.out.encAt (0 : Int) (a + k) (by rw [putL_length]; omega)
      have hf := HO.out.frozen (a + k)
      go_wp2_with fail
      go_roundw
      case rel => exact ⟨k + 1, by omega, by go_num, ⟨by have := HO.out.encSet (a + k) (x / 2 ^ (8 * k) % 256); rwa [putL_succ _ _ _ _ (by omega)] at this⟩, ⟨HG.out.trans (grown_set _ _ _ _)⟩⟩
      case measure => simp [intOf]; omega
    · obtain rfl : k = n := by omega
      go_wp2
      go_ret
      exact ⟨rfl, HO.out, HG.out⟩
theorem or64 (x b : Int) (i : Nat) (hi : i ≤ 7) (hx : 0 ≤ x) (hx1 : x < 256 ^ i) (hb : 0 ≤ b) (hb1 : b ≤ 255) : Go.bits .or .u64 x (b * 2 ^ (8 * i) % 18446744073709551616) = x + b * 256 ^ i := by
  rw [pow256]
  have hp := pow256_pos i
  have hl := pow256_lt i hi
  have h2 : b * 256 ^ i ≤ 255 * 256 ^ i := Int.mul_le_mul_of_nonneg_right (by omega) (by omega)
  have h3 : 0 ≤ b * 256 ^ i := Int.mul_nonneg hb (by omega)
  rw [Int.emod_eq_of_lt h3 (by omega)]
  exact or_join x b i hi hx hx1 hb hb1
set_option maxHeartbeats 1000000 in
theorem get_calls (A : Option Addr) (m c : Nat) (l : List Int) (w : World) (hr : CB w A m l) (hb : Bytes l) (a n : Nat) (hn : 1 ≤ n ∧ n ≤ 8) (ha : a + n ≤ m) (hl : m ≤ 1000000) :
    Calls Try.prog 52 #[.slice A m c, .int .i64 a, .int .i64 n] w fun e w' => e = .returned (.tuple #[.int .u64 (getN l a n), .bool true]) ∧ w = w' := by
  obtain rfl := Kd.C_len hr
  have HR := Aside0.mk hr
  have HB := Aside0.mk hb
  clear hr hb
  go_enter Try.func52, Try.ntmps52
  go_wp2_with (go_at_call 65; refine (fits_calls _ _ _ _ _ _ hl (by omega)).mono ?_; rintro e w' ⟨rfl, rfl⟩)
  go_loop [8, 16] (fun s i => ∃ k : Nat, k ≤ n ∧ i = .int .i64 k ∧ s = .int .u64 (getN l a k)) (fun _ i => n - (intOf i).toNat)
  case atStart => exact ⟨0, by omega, rfl, rfl⟩
  case round =>
    obtain ⟨k, hk, rfl, rfl⟩ := hrel
    by_cases hlt : k < n
    · obtain ⟨ad, rfl, hx⟩ := Kd.at_int HR.out ((a : Int) + k) (by omega) (by omega)
      have hb2 := HB.out.getD ((a : Int) + k).toNat
      have hx0 : 0 ≤ rd l ((a : Int) + k) := hb2.1
      have hx1 : rd l ((a : Int) + k) ≤ 255 := hb2.2
      clear hb2
      rw [show ((a : Int) + k).toNat = a + k from by omega] at hx
      go_wp2_with fail
      go_round
      case rel => exact ⟨k + 1, by omega, by go_num, by rw [wrap_u64, or64 _ _ _ (by omega) (getN_bound HB.out _ k).1 (getN_bound HB.out _ k).2 hx0 hx1]; rfl⟩
      case measure => simp [intOf]; omega
    · obtain rfl : k = n := by omega
      go_wp2
      go_ret2
      exact ⟨rfl, rfl⟩
end Go.Proofs.Ytmkkkenpjealdaa.SecWord
