/- Sectors in plain Lean: numbers laid in a row, and read. No program in sight. -/
import Derived.Test.YtmkkkenpjealdaaCrcPlain2
namespace Go.Proofs.Ytmkkkenpjealdaa.PlainSec
open Go.RowKit Go.Proofs.YtmkkkenpjealdaaW.PrintWords Go.Proofs.YtmkkkenpjealdaaW.PrintLast Go.Proofs.YtmkkkenpjealdaaW.PrintMore PlainWord CrcPlain

/-- A number's bytes, the lowest first. -/
def leI (x : Int) (n : Nat) : List Int := (List.range n).map fun i => x / 256 ^ i % 256
theorem leI_length (x : Int) (n : Nat) : (leI x n).length = n := by simp [leI]
theorem leI_succ (x : Int) (n : Nat) : leI x (n + 1) = leI x n ++ [x / 256 ^ n % 256] := by simp [leI, List.range_succ]
theorem leI_zero (x : Int) : leI x 0 = [] := rfl
theorem leI_bytes (x : Int) (n : Nat) : Bytes (leI x n) := by
  intro y hy
  simp only [leI, List.mem_map] at hy
  obtain ⟨j, _, rfl⟩ := hy
  have := Int.emod_nonneg (x / 256 ^ j) (show (256 : Int) ≠ 0 by decide)
  have := Int.emod_lt_of_pos (x / 256 ^ j) (show (0 : Int) < 256 by decide)
  omega
theorem leI_getD (x : Int) (n j : Nat) (h : j < n) : (leI x n).getD j 0 = x / 256 ^ j % 256 := getD_range _ _ _ h
theorem le_leI (c : R) (n : Nat) : le c n = leI (iv c) n := rfl
theorem getD_left {a b : List Int} {j : Nat} (h : j < a.length) : (a ++ b).getD j 0 = a.getD j 0 := by
  rw [List.getD_eq_getElem?_getD, List.getElem?_append_left h, ← List.getD_eq_getElem?_getD]
theorem getD_right {a b : List Int} {j : Nat} (h : a.length ≤ j) : (a ++ b).getD j 0 = b.getD (j - a.length) 0 := by
  rw [List.getD_eq_getElem?_getD, List.getElem?_append_right h, ← List.getD_eq_getElem?_getD]
/-- A Put onto a row's middle. -/
theorem putL_app (a z c : List Int) (n : Nat) (x : Int) (hz : z.length = n) : putL (a ++ z ++ c) a.length n x = a ++ leI x n ++ c := by
  apply ext_getD (by rw [putL_length]; simp [leI_length, hz])
  intro j hj
  rw [putL_length] at hj
  rw [putL_getD _ _ _ _ _ hj]
  have hl : (a ++ z ++ c).length = a.length + n + c.length := by simp [hz]; omega
  by_cases h1 : j < a.length
  · rw [if_neg (by omega), List.append_assoc, getD_left h1, List.append_assoc, getD_left h1]
  · by_cases h2 : j < a.length + n
    · rw [if_pos (by omega), List.append_assoc, getD_right (by omega), getD_left (by rw [leI_length]; omega), leI_getD _ _ _ (by omega)]
      congr 3
      omega
    · rw [if_neg (by omega), getD_right (by rw [List.length_append]; omega), getD_right (by rw [List.length_append, leI_length]; omega)]
      congr 1
      simp [hz, leI_length]
theorem getN_app (a c : List Int) (n : Nat) (x : Int) : getN (a ++ leI x n ++ c) a.length n = x % 256 ^ n := by
  have h := putL_app a (leI x n) c n x (leI_length x n)
  have := getN_put (a ++ leI x n ++ c) a.length x n (by omega) (by simp [leI_length]; omega) n (Nat.le_refl n)
  rw [h] at this
  exact this
theorem getD_take {l : List Int} {n j : Nat} (h : j < n) : (l.take n).getD j 0 = l.getD j 0 := by
  rw [List.getD_eq_getElem?_getD, List.getElem?_take_of_lt h, ← List.getD_eq_getElem?_getD]
theorem getD_drop (l : List Int) (a j : Nat) : (l.drop a).getD j 0 = l.getD (a + j) 0 := by
  rw [List.getD_eq_getElem?_getD, List.getElem?_drop, ← List.getD_eq_getElem?_getD]
theorem slice_leI {p : List Int} (hp : Bytes p) (a n : Nat) (h : a + n ≤ p.length) : (p.drop a).take n = leI (getN p a n) n := by
  have hl : ((p.drop a).take n).length = n := by rw [List.length_take, List.length_drop]; omega
  apply ext_getD (by rw [hl, leI_length])
  intro j hj
  rw [hl] at hj
  rw [getD_take hj, getD_drop, leI_getD _ _ _ hj, getN_digit hp _ _ _ hj, rd_nat]
  congr 1
/-- The sum laid behind sixty bytes. -/
theorem put_seal (l : List Int) (h : l.length = 64) : putL l 60 4 (iv (sum (l.take 60))) = sealL (l.take 60) := by
  have e : l = l.take 60 ++ l.drop 60 ++ [] := by simp
  have h60 : (l.take 60).length = 60 := by rw [List.length_take]; omega
  have h4 : (l.drop 60).length = 4 := by rw [List.length_drop]; omega
  have := putL_app (l.take 60) (l.drop 60) [] 4 (iv (sum (l.take 60))) h4
  rw [← e, h60] at this
  rw [show ((60 : Nat) : Int) = 60 from rfl] at this
  exact this.trans (by rw [List.append_nil]; rfl)
/-- A number out of its bytes: as it was, where it has room. -/
theorem getN_mid (a c : List Int) (n : Nat) (x : Int) (h0 : 0 ≤ x) (h1 : x < 256 ^ n) (i : Int) (hi : i = a.length) : getN (a ++ leI x n ++ c) i n = x := by
  rw [hi, getN_app, Int.emod_eq_of_lt h0 h1]
/-- Zeros. -/
def zeros (n : Nat) : List Int := List.replicate n 0
theorem zeros_length (n : Nat) : (zeros n).length = n := by simp [zeros]
theorem zeros_bytes (n : Nat) : Bytes (zeros n) := fun x hx => by obtain rfl := List.eq_of_mem_replicate hx; omega
theorem zeros_add (n m : Nat) : zeros (n + m) = zeros n ++ zeros m := List.replicate_append_replicate.symm
/-- A Put onto zeros that are left. -/
theorem put_zeros (a : List Int) (m n : Nat) (x : Int) (h : n ≤ m) (i : Int) (hi : i = a.length) : putL (a ++ zeros m) i n x = (a ++ leI x n) ++ zeros (m - n) := by
  have e : a ++ zeros m = a ++ zeros n ++ zeros (m - n) := by rw [List.append_assoc, ← zeros_add]; congr 2; omega
  rw [e, hi, putL_app _ _ _ _ _ (zeros_length n)]
/-- A sector: what is laid, noughts, and the sum behind. -/
def fullL (b : List Int) : List Int := sealL (b ++ zeros (60 - b.length))
theorem fullL_length (b : List Int) (h : b.length ≤ 60) : (fullL b).length = 64 := by
  unfold fullL; rw [seal_length, List.length_append, zeros_length]; omega
theorem fullL_bytes {b : List Int} (h : Bytes b) : Bytes (fullL b) := seal_bytes (bytes_append h (zeros_bytes _))
/-- Of a right sector: what stands ahead of the sum tells it all. -/
theorem right_take {p : List Int} (hp : Bytes p) (hl : p.length = 64) : rightB p = decide (sealL (p.take 60) = p) := by
  rw [right_iff p hp, decide_eq_true (show 4 ≤ p.length by omega), Bool.true_and, hl]
theorem take_add_slice (p : List Int) (a n : Nat) : p.take (a + n) = p.take a ++ (p.drop a).take n := by rw [List.take_add]
theorem take_one (p : List Int) (h : 0 < p.length) : p.take 1 = [p.getD 0 0] := by
  cases p with
  | nil => simp at h
  | cons x p => rfl
theorem slice_flat {p : List Int} (hp : Bytes p) (a : Nat) : ∀ n : Nat, a + 4 * n ≤ p.length → (p.drop a).take (4 * n) = ((List.range n).map fun (i : Nat) => getN p ((a : Int) + 4 * (i : Int)) 4).flatMap (leI · 4)
  | 0, _ => by simp
  | n + 1, h => by
    rw [Nat.mul_succ, List.take_add, slice_flat hp a n (by omega), List.drop_drop, slice_leI hp (a + 4 * n) 4 (by omega), List.range_succ, List.map_append, List.flatMap_append]
    congr 1
theorem slice_zeros (p : List Int) (a n : Nat) (h : a + n ≤ p.length) (hz : ∀ j, a ≤ j → j < a + n → p.getD j 0 = 0) : (p.drop a).take n = zeros n := by
  have hl : ((p.drop a).take n).length = n := by rw [List.length_take, List.length_drop]; omega
  apply ext_getD (by rw [hl, zeros_length])
  intro j hj
  rw [hl] at hj
  rw [getD_take hj, getD_drop, hz _ (by omega) (by omega)]
  unfold zeros
  rw [List.getD_eq_getElem?_getD, List.getElem?_replicate]
  split <;> rfl
end Go.Proofs.Ytmkkkenpjealdaa.PlainSec
