/- Numbers in bytes, in plain Lean: what Put, Get and Cut come to. -/
import Derived.Test.YtmkkkenpjealdaaWMore
import Derived.Laws.BitsLemmas
import Derived.OpenShut
namespace Go.Proofs.Ytmkkkenpjealdaa.PlainWord
open Go.RowKit Go.Proofs.YtmkkkenpjealdaaW.PrintWords Go.Proofs.YtmkkkenpjealdaaW.PrintLast Go.Proofs.YtmkkkenpjealdaaW.PrintMore

theorem wrap_u64 (n : Int) : IntKind.u64.wrap n = n % 18446744073709551616 := by simp [IntKind.wrap, IntKind.bits, IntKind.signed]
theorem wrapu (n : Int) (h0 : 0 ≤ n) (h1 : n < 18446744073709551616) : IntKind.u64.wrap n = n := by rw [wrap_u64]; omega
theorem wrap64_in (n : Int) (h0 : -9223372036854775808 ≤ n) (h1 : n < 9223372036854775808) : wrap64 n = n := by unfold wrap64; omega

theorem pow256 (n : Nat) : (2 : Int) ^ (8 * n) = 256 ^ n := by
  rw [Int.pow_mul]; rfl
theorem pow256_pos (n : Nat) : (0 : Int) < 256 ^ n := Int.pow_pos (by decide)
theorem pow256_le (n : Nat) (h : n ≤ 8) : (256 : Int) ^ n ≤ 18446744073709551616 := by
  have : n = 0 ∨ n = 1 ∨ n = 2 ∨ n = 3 ∨ n = 4 ∨ n = 5 ∨ n = 6 ∨ n = 7 ∨ n = 8 := by omega
  rcases this with rfl | rfl | rfl | rfl | rfl | rfl | rfl | rfl | rfl <;> decide
theorem pow256_lt (n : Nat) (h : n ≤ 7) : (256 : Int) ^ n ≤ 72057594037927936 := by
  have : n = 0 ∨ n = 1 ∨ n = 2 ∨ n = 3 ∨ n = 4 ∨ n = 5 ∨ n = 6 ∨ n = 7 := by omega
  rcases this with rfl | rfl | rfl | rfl | rfl | rfl | rfl | rfl <;> decide

/-- 8 times a place, as the shifts count it. -/
theorem eight (i : Int) (h0 : 0 ≤ i) (h1 : i ≤ 8) : IntKind.u64.wrap (8 * IntKind.u64.wrap i) = 8 * i := by
  rw [wrapu i h0 (by omega), wrapu _ (by omega) (by omega)]
theorem shr_byte (x i : Int) (h0 : 0 ≤ i) (h1 : i ≤ 8) : shr .u64 x (8 * i) = x / 256 ^ i.toNat := by
  unfold shr
  have h : min (8 * i).toNat IntKind.u64.bits = 8 * i.toNat := by simp [IntKind.bits]; omega
  rw [h, pow256]
theorem shl_byte (x i : Int) (h0 : 0 ≤ i) (h1 : i ≤ 7) (hx : 0 ≤ x) (hx1 : x < 256) : shl .u64 x (8 * i) = x * 256 ^ i.toNat := by
  unfold shl
  have h : min (8 * i).toNat IntKind.u64.bits = 8 * i.toNat := by simp [IntKind.bits]; omega
  rw [h, pow256]
  have hp := pow256_pos i.toNat
  have hl := pow256_lt i.toNat (by omega)
  have h2 : x * 256 ^ i.toNat ≤ 255 * 256 ^ i.toNat := Int.mul_le_mul_of_nonneg_right (by omega) (by omega)
  have h3 : 0 ≤ x * 256 ^ i.toNat := Int.mul_nonneg hx (by omega)
  exact wrapu _ h3 (by omega)

def Bytes (l : List Int) : Prop := ∀ x ∈ l, 0 ≤ x ∧ x ≤ 255
theorem Bytes.getD {l : List Int} (h : Bytes l) (j : Nat) : 0 ≤ l.getD j 0 ∧ l.getD j 0 ≤ 255 := by
  rw [List.getD_eq_getElem?_getD]
  by_cases hj : j < l.length
  · rw [List.getElem?_eq_getElem hj]; exact h _ (List.getElem_mem hj)
  · rw [List.getElem?_eq_none (by omega)]; simp
theorem Bytes.of_wf {l : List Int} (h : ∀ x ∈ l, (Lit.int .u8 x).wf = true) : Bytes l := fun x hx => by
  exact bounds_u8 (h x hx)
theorem getD_set (l : List Int) (i j : Nat) (v : Int) (hi : i < l.length) : (l.set i v).getD j 0 = if i = j then v else l.getD j 0 := by
  rw [List.getD_eq_getElem?_getD, List.getD_eq_getElem?_getD, List.getElem?_set]
  by_cases h : i = j
  · subst h; simp [hi]
  · simp [h]
theorem getD_range (n : Nat) (f : Nat → Int) (j : Nat) (h : j < n) : ((List.range n).map f).getD j 0 = f j := by
  rw [List.getD_eq_getElem?_getD]; simp [h]
theorem ext_getD {l m : List Int} (h : l.length = m.length) (hg : ∀ j, j < l.length → l.getD j 0 = m.getD j 0) : l = m := by
  apply List.ext_getElem h
  intro j h1 h2
  have := hg j h1
  rw [List.getD_eq_getElem?_getD, List.getD_eq_getElem?_getD, List.getElem?_eq_getElem h1, List.getElem?_eq_getElem h2] at this
  simpa using this
theorem rd_nat (l : List Int) (i : Int) : rd l i = l.getD i.toNat 0 := rfl

/-- Do n bytes stand from a on? -/
def Fit (l : List Int) (a n : Int) : Prop := 1 ≤ n ∧ n ≤ 8 ∧ 0 ≤ a ∧ a + n ≤ l.length
instance (l : List Int) (a n : Int) : Decidable (Fit l a n) := by unfold Fit; infer_instance

/-- The bytes behind a Put. -/
def putL (l : List Int) (a n x : Int) : List Int :=
  (List.range l.length).map fun (j : Nat) => if a ≤ (j : Int) ∧ (j : Int) < a + n then x / 256 ^ ((j : Int) - a).toNat % 256 else l.getD j 0
theorem putL_length (l : List Int) (a n x : Int) : (putL l a n x).length = l.length := by simp [putL]
theorem putL_getD (l : List Int) (a n x : Int) (j : Nat) (h : j < l.length) : (putL l a n x).getD j 0 = if a ≤ (j : Int) ∧ (j : Int) < a + n then x / 256 ^ ((j : Int) - a).toNat % 256 else l.getD j 0 := getD_range _ _ _ h
theorem putL_bytes {l : List Int} (h : Bytes l) (a n x : Int) : Bytes (putL l a n x) := by
  intro y hy
  simp only [putL, List.mem_map] at hy
  obtain ⟨j, _, rfl⟩ := hy
  split
  · have := Int.emod_nonneg (x / 256 ^ ((j : Int) - a).toNat) (show (256 : Int) ≠ 0 by decide)
    have := Int.emod_lt_of_pos (x / 256 ^ ((j : Int) - a).toNat) (show (0 : Int) < 256 by decide)
    omega
  · exact h.getD j

/-- The number of n bytes from a on. -/
def getN (l : List Int) (a : Int) : Nat → Int
  | 0 => 0
  | n + 1 => getN l a n + rd l (a + n) * 256 ^ n
theorem getN_bound {l : List Int} (h : Bytes l) (a : Int) : ∀ n, 0 ≤ getN l a n ∧ getN l a n < 256 ^ n
  | 0 => ⟨by simp [getN], by simp [getN]⟩
  | n + 1 => by
    have ih := getN_bound h a n
    have hb := h.getD (a + n).toNat
    have hp := pow256_pos n
    have e : (256 : Int) ^ (n + 1) = 256 * 256 ^ n := by rw [Int.pow_succ, Int.mul_comm]
    have h2 : rd l (a + n) * 256 ^ n ≤ 255 * 256 ^ n := Int.mul_le_mul_of_nonneg_right hb.2 (by omega)
    have h3 : 0 ≤ rd l (a + n) * 256 ^ n := Int.mul_nonneg hb.1 (by omega)
    simp only [getN]
    omega
theorem getN_congr {l m : List Int} {a : Int} : ∀ n : Nat, (∀ i : Nat, i < n → rd l (a + i) = rd m (a + i)) → getN l a n = getN m a n
  | 0, _ => rfl
  | n + 1, h => by simp only [getN]; rw [getN_congr n (fun i hi => h i (by omega)), h n (by omega)]
/-- A byte of the number that is read. -/
theorem getN_digit {l : List Int} (h : Bytes l) (a : Int) : ∀ (n j : Nat), j < n → getN l a n / 256 ^ j % 256 = rd l (a + j)
  | 0, j, hj => by omega
  | n + 1, j, hj => by
    have hb := getN_bound h a n
    have hp := pow256_pos j
    simp only [getN]
    by_cases e : j = n
    · subst e
      have hd := h.getD (a + j).toNat
      rw [Int.add_mul_ediv_right _ _ (by omega), Int.ediv_eq_zero_of_lt hb.1 hb.2, Int.zero_add]
      exact Int.emod_eq_of_lt hd.1 (by rw [rd_nat]; omega)
    · have e1 : (256 : Int) ^ n = 256 ^ (n - j - 1) * 256 * 256 ^ j := by
        rw [← Int.pow_succ, ← Int.pow_add]; congr 1; omega
      rw [e1, ← Int.mul_assoc, ← Int.mul_assoc, Int.add_mul_ediv_right _ _ (by omega), Int.add_mul_emod_self_right]
      exact getN_digit h a n j (by omega)
theorem emod_mul_ (x p : Int) (hp : 0 < p) : x % (p * 256) = x % p + x / p % 256 * p := by
  have h1 := Int.emod_add_mul_ediv x p
  have h2 := Int.emod_add_mul_ediv (x / p) 256
  have h3 := Int.emod_nonneg x (show p ≠ 0 by omega)
  have h4 := Int.emod_lt_of_pos x hp
  have h5 := Int.emod_nonneg (x / p) (show (256 : Int) ≠ 0 by decide)
  have h6 := Int.emod_lt_of_pos (x / p) (show (0 : Int) < 256 by decide)
  have e : x = (x % p + x / p % 256 * p) + p * 256 * (x / p / 256) := by
    have : p * (x / p) = p * (x / p % 256) + p * (256 * (x / p / 256)) := by rw [← Int.mul_add, h2]
    rw [Int.mul_comm (x / p % 256), Int.mul_assoc]; omega
  have hb : x / p % 256 * p ≤ 255 * p := Int.mul_le_mul_of_nonneg_right (by omega) (by omega)
  have hb0 : 0 ≤ x / p % 256 * p := Int.mul_nonneg h5 (by omega)
  have : x % (p * 256) = ((x % p + x / p % 256 * p) + p * 256 * (x / p / 256)) % (p * 256) := by rw [← e]
  rw [this, Int.add_mul_emod_self_left]
  exact Int.emod_eq_of_lt (by omega) (by omega)
/-- What is laid is read as it was, cut. -/
theorem getN_put (l : List Int) (a x : Int) (n : Nat) (ha : 0 ≤ a) (hn : a + n ≤ l.length) : ∀ i : Nat, i ≤ n → getN (putL l a n x) a i = x % 256 ^ i
  | 0, _ => by simp [getN, Int.emod_one]
  | i + 1, hi => by
    simp only [getN]
    rw [getN_put l a x n ha hn i (by omega), rd_nat, putL_getD _ _ _ _ _ (by omega), if_pos (by omega)]
    have e : ((((a + (i : Int)).toNat : Nat) : Int) - a).toNat = i := by omega
    rw [e]
    have e2 : (256 : Int) ^ (i + 1) = 256 ^ i * 256 := Int.pow_succ _ _
    rw [e2, emod_mul_ x _ (pow256_pos i)]
theorem put_get {l : List Int} (h : Bytes l) (a : Int) (n : Nat) (ha : 0 ≤ a) : putL l a n (getN l a n) = l := by
  apply ext_getD (putL_length _ _ _ _)
  intro j hj
  rw [putL_length] at hj
  rw [putL_getD _ _ _ _ _ hj]
  split
  · rename_i hc
    rw [getN_digit h a n _ (by omega), rd_nat]
    congr 1; omega
  · rfl

/-- A number cut to n bytes. -/
def cutI (x n : Int) : Int := if n < 1 then 0 else if n > 7 then x else x % 256 ^ n.toNat
theorem cutI_mod (x n : Int) (h0 : 1 ≤ n) (h1 : n ≤ 8) (hx : 0 ≤ x) (hx1 : x < 18446744073709551616) : cutI x n = x % 256 ^ n.toNat := by
  unfold cutI
  rw [if_neg (by omega)]
  split
  · obtain rfl : n = 8 := by omega
    exact (Int.emod_eq_of_lt hx (by have : (256 : Int) ^ (8 : Int).toNat = 18446744073709551616 := by decide
                                    omega)).symm
  · rfl
theorem cutI_cut (x n : Int) (h0 : 1 ≤ n) (h1 : n ≤ 8) (hx : 0 ≤ x) (hx1 : x < 18446744073709551616) : cutI (cutI x n) n = cutI x n := by
  have hp := pow256_pos n.toNat
  have hl := pow256_le n.toNat (by omega)
  have hm := Int.emod_lt_of_pos x hp
  have hm0 := Int.emod_nonneg x (show (256 : Int) ^ n.toNat ≠ 0 by omega)
  rw [cutI_mod x n h0 h1 hx hx1, cutI_mod _ n h0 h1 hm0 (by omega), Int.emod_emod]

/-- A shift to the left and back. -/
theorem shl_shr (x n : Int) (h0 : 1 ≤ n) (h1 : n ≤ 7) : shr .u64 (shl .u64 x (64 - 8 * n)) (64 - 8 * n) = x % 256 ^ n.toNat := by
  have hm : min (64 - 8 * n).toNat IntKind.u64.bits = (64 - 8 * n).toNat := by simp [IntKind.bits]; omega
  unfold shr shl
  rw [hm, wrap_u64]
  have : n = 1 ∨ n = 2 ∨ n = 3 ∨ n = 4 ∨ n = 5 ∨ n = 6 ∨ n = 7 := by omega
  rcases this with rfl | rfl | rfl | rfl | rfl | rfl | rfl <;> simp <;> omega

theorem or_join (x b : Int) (i : Nat) (hi : i ≤ 7) (hx : 0 ≤ x) (hx1 : x < 256 ^ i) (hb : 0 ≤ b) (hb1 : b ≤ 255) : Go.bits .or .u64 x (b * 256 ^ i) = x + b * 256 ^ i := by
  have hp := pow256_pos i
  have hl := pow256_lt i hi
  have h2 : b * 256 ^ i ≤ 255 * 256 ^ i := Int.mul_le_mul_of_nonneg_right (by omega) (by omega)
  have h3 : 0 ≤ b * 256 ^ i := Int.mul_nonneg hb (by omega)
  have hc : ∀ y z : Int, Go.bits .or .u64 y z = Go.bits .or .u64 z y := fun y z => by simp only [Go.bits]; rw [BitVec.or_comm]
  rw [hc, Int.add_comm]
  refine bits_join .u64 64 (by decide) (fun n h0 h1 => wrapu n h0 (by have : (2 : Int) ^ 64 = 18446744073709551616 := by decide
                                                                      omega)) (8 * i) _ _ h3 ?_ ?_ hx ?_ ?_
  · rw [pow256]; exact Int.mul_emod_left _ _
  · have : (2 : Int) ^ 64 = 18446744073709551616 := by decide
    omega
  · rw [pow256]; exact hx1
  · have : (2 : Int) ^ 64 = 18446744073709551616 := by decide
    omega

/-- Two Puts beside one another, in either order. -/
theorem put_put (l : List Int) (a n m x y : Int) : putL (putL l a n x) (a + n) m y = putL (putL l (a + n) m y) a n x := by
  apply ext_getD (by simp [putL_length])
  intro j hj
  rw [putL_length, putL_length] at hj
  rw [putL_getD _ _ _ _ _ (by rw [putL_length]; exact hj), putL_getD _ _ _ _ _ hj, putL_getD _ _ _ _ _ (by rw [putL_length]; exact hj), putL_getD _ _ _ _ _ hj]
  split <;> split <;> first | rfl | omega
end Go.Proofs.Ytmkkkenpjealdaa.PlainWord
