/- The sum of bytes, in plain Lean: a register of 32 bits. -/
import Derived.Test.YtmkkkenpjealdaaWMore
import Derived.Laws.BitsLemmas
import Derived.OpenShut
import Derived.Test.YtmkkkenpjealdaaPlainWord
namespace Go.Proofs.Ytmkkkenpjealdaa.CrcPlain
open Go.RowKit PlainWord

theorem bytes_take {l : List Int} (h : Bytes l) (n : Nat) : Bytes (l.take n) := fun x hx => h x (List.mem_of_mem_take hx)
theorem bytes_append {l m : List Int} (h : Bytes l) (k : Bytes m) : Bytes (l ++ m) := fun x hx => (List.mem_append.1 hx).elim (h x) (k x)
theorem bytes_nil : Bytes [] := fun x hx => by cases hx
abbrev R := BitVec 32
def poly : R := 0xedb88320#32
/-- One bit's step. -/
def bitStep (c : R) : R := if c.getLsbD 0 then (c >>> 1) ^^^ poly else c >>> 1
def steps : Nat → R → R
  | 0, c => c
  | n + 1, c => bitStep (steps n c)
/-- One byte's step. -/
def byteStep (c : R) (x : Int) : R := steps 8 (c ^^^ BitVec.ofInt 32 x)
def regs (c : R) (l : List Int) : R := l.foldl byteStep c
def more (s : R) (l : List Int) : R := ~~~ (regs (~~~ s) l)
def sum (l : List Int) : R := more 0 l

/-- A register as a value. -/
def iv (c : R) : Int := (c.toNat : Int)
theorem iv_lt (c : R) : 0 ≤ iv c ∧ iv c < 4294967296 := ⟨Int.natCast_nonneg _, by have := c.isLt; unfold iv; omega⟩
theorem ofInt_iv (c : R) : BitVec.ofInt 32 (iv c) = c := by unfold iv; rw [BitVec.ofInt_natCast]; simp
theorem wrap_iv (c : R) : IntKind.u32.wrap (iv c) = iv c := by rw [IntKind.wrap_u32]; have := iv_lt c; omega
theorem iv_inj {a b : R} (h : iv a = iv b) : a = b := by rw [← ofInt_iv a, h, ofInt_iv]
theorem iv_eq (a b : R) : iv a = iv b ↔ a = b := ⟨iv_inj, fun h => by rw [h]⟩
theorem iv_ofInt (n : Int) (h0 : 0 ≤ n) (h1 : n < 4294967296) : iv (BitVec.ofInt 32 n) = n := by
  obtain ⟨m, rfl⟩ := Int.eq_ofNat_of_zero_le h0
  unfold iv; rw [BitVec.ofInt_natCast, BitVec.toNat_ofNat, Nat.mod_eq_of_lt (by omega)]
theorem bits_xor (a b : R) : Go.bits .xor .u32 (iv a) (iv b) = iv (a ^^^ b) := by
  unfold Go.bits
  show IntKind.u32.wrap (((BitVec.ofInt 32 (iv a) ^^^ BitVec.ofInt 32 (iv b)).toNat : Int)) = _
  rw [ofInt_iv, ofInt_iv]; exact wrap_iv _
theorem bits_xor_int (a : R) (n : Int) : Go.bits .xor .u32 (iv a) n = iv (a ^^^ BitVec.ofInt 32 n) := by
  unfold Go.bits
  show IntKind.u32.wrap (((BitVec.ofInt 32 (iv a) ^^^ BitVec.ofInt 32 n).toNat : Int)) = _
  rw [ofInt_iv]; exact wrap_iv _
theorem bits_not (a : R) : Go.bits .xor .u32 4294967295 (iv a) = iv (~~~ a) := by
  have h : (4294967295 : Int) = iv (BitVec.allOnes 32) := by decide
  rw [h, bits_xor]
  rw [BitVec.allOnes_xor]
theorem bits_and1 (a : R) : Go.bits .and .u32 (iv a) 1 = if a.getLsbD 0 then 1 else 0 := by
  have h := bits_mask .u32 32 (by decide) (fun n h0 h1 => by rw [IntKind.wrap_u32]; have : (2 : Int) ^ 32 = 4294967296 := by decide
                                                             omega) 1 (by decide) (iv a) (iv_lt a).1 (by have := (iv_lt a).2; have : (2 : Int) ^ 32 = 4294967296 := by decide
                                                                                                         omega)
  have e : (2 : Int) ^ 1 - 1 = 1 := by decide
  have e2 : (2 : Int) ^ 1 = 2 := by decide
  rw [e, e2] at h
  rw [h]
  unfold iv
  rw [← BitVec.testBit_toNat, Nat.testBit_zero]
  by_cases hm : a.toNat % 2 = 1
  · rw [if_pos (by simpa using hm)]; omega
  · rw [if_neg (by simpa using hm)]; omega
theorem shr1 (a : R) : iv a / (2 : Int) = iv (a >>> 1) := by
  unfold iv
  rw [BitVec.toNat_ushiftRight, Nat.shiftRight_eq_div_pow]
  omega
theorem bits_not_max (a : R) : Go.bits .xor .u32 IntKind.u32.max (iv a) = iv (~~~ a) := bits_not a
theorem bits_poly (a : R) : Go.bits .xor .u32 (iv (a >>> 1)) 3988292384 = iv ((a >>> 1) ^^^ poly) := bits_xor (a >>> 1) poly
theorem regs_snoc (c : R) (l : List Int) (x : Int) : regs c (l ++ [x]) = byteStep (regs c l) x := by simp [regs]
theorem regs_append (c : R) (l m : List Int) : regs c (l ++ m) = regs (regs c l) m := by simp [regs]
theorem take_rd (l : List Int) (k : Nat) (h : k < l.length) : l.take (k + 1) = l.take k ++ [l.getD k 0] := by
  rw [List.take_succ_eq_append_getElem h, List.getD_eq_getElem?_getD, List.getElem?_eq_getElem h]; rfl
theorem bit_yes (a : R) (h : (Go.bits .and .u32 (iv a) 1 == 1) = true) : Go.bits .xor .u32 (iv a / 2) 3988292384 = iv (bitStep a) := by
  rw [bits_and1] at h
  rw [shr1, bits_poly]
  unfold bitStep
  by_cases hc : a.getLsbD 0
  · rw [if_pos hc]
  · rw [if_neg hc] at h; simp at h
theorem bit_no (a : R) (h : (Go.bits .and .u32 (iv a) 1 == 1) = false) : iv a / 2 = iv (bitStep a) := by
  rw [bits_and1] at h
  rw [shr1]
  unfold bitStep
  by_cases hc : a.getLsbD 0
  · rw [if_pos hc] at h; simp at h
  · rw [if_neg hc]
/-- A register's bytes, the lowest first. -/
def le (c : R) (n : Nat) : List Int := (List.range n).map fun i => iv c / 256 ^ i % 256
theorem le_succ (c : R) (n : Nat) : le c (n + 1) = le c n ++ [iv c / 256 ^ n % 256] := by simp [le, List.range_succ]
theorem le_length (c : R) (n : Nat) : (le c n).length = n := by simp [le]
/-- Bytes, and their sum behind. -/
def sealL (l : List Int) : List Int := l ++ le (sum l) 4
theorem or32 (x b : Int) (i : Nat) (hi : i ≤ 3) (hx : 0 ≤ x) (hx1 : x < 256 ^ i) (hb : 0 ≤ b) (hb1 : b ≤ 255) : Go.bits .or .u32 x (b * 2 ^ (8 * i) % 4294967296) = x + b * 256 ^ i := by
  have hp := pow256_pos i
  have hl : (256 : Int) ^ i ≤ 16777216 := by
    have : i = 0 ∨ i = 1 ∨ i = 2 ∨ i = 3 := by omega
    rcases this with rfl | rfl | rfl | rfl <;> decide
  have h2 : b * 256 ^ i ≤ 255 * 256 ^ i := Int.mul_le_mul_of_nonneg_right (by omega) (by omega)
  have h3 : 0 ≤ b * 256 ^ i := Int.mul_nonneg hb (by omega)
  have e32 : (2 : Int) ^ 32 = 4294967296 := by decide
  rw [pow256, Int.emod_eq_of_lt h3 (by omega)]
  have hc : ∀ y z : Int, Go.bits .or .u32 y z = Go.bits .or .u32 z y := fun y z => by simp only [Go.bits]; rw [BitVec.or_comm]
  rw [hc, Int.add_comm]
  refine bits_join .u32 32 (by decide) (fun n h0 h1 => by rw [IntKind.wrap_u32]; omega) (8 * i) _ _ h3 ?_ ?_ hx ?_ ?_
  · rw [pow256]; exact Int.mul_emod_left _ _
  · omega
  · rw [pow256]; exact hx1
  · omega
/-- Is the sum behind bytes right? -/
def rightB (l : List Int) : Bool := decide (4 ≤ l.length) && (iv (sum (l.take (l.length - 4))) == getN l ((l.length : Int) - 4) 4)

/-! ### the reference's register: 32 truths, the lowest first -/
def regL (c : R) : List Bool := (List.range 32).map fun i => c.getLsbD i
theorem regL_length (c : R) : (regL c).length = 32 := by simp [regL]
theorem regL_getD (c : R) (i : Nat) (h : i < 32) : (regL c).getD i false = c.getLsbD i := by
  rw [List.getD_eq_getElem?_getD]; simp [regL, h]
def bitIn (r : R) (b : Bool) : R := if r.getLsbD 0 != b then (r >>> 1) ^^^ poly else r >>> 1
def polyL : List Bool := [true, true, true, false, true, true, false, true, true, false, true, true, true, false, false, false, true, false, false, false, false, false, true, true, false, false, true, false, false, false, false, false]
theorem polyL_at (k : Nat) (h : k < 32) : polyL.getD (31 - k) false = poly.getLsbD k := by
  have : ∀ k : Fin 32, polyL.getD (31 - k.val) false = poly.getLsbD k.val := by decide
  exact this ⟨k, h⟩
/-- The register while it is shifted. -/
def shiftJ (c : R) (j : Nat) : List Bool := (List.range 32).map fun i => if i < j then c.getLsbD (i + 1) else c.getLsbD i
/-- The register while the polynomial is laid on it. -/
def polyJ (c : R) (j : Nat) : List Bool := (List.range 32).map fun i => if i < j then (c.getLsbD i != poly.getLsbD i) else c.getLsbD i
theorem map_getD (f : Nat → Bool) (i : Nat) (h : i < 32) : ((List.range 32).map f).getD i false = f i := by
  rw [List.getD_eq_getElem?_getD]; simp [h]
theorem map_set (f g : Nat → Bool) (j : Nat) (b : Bool) (hb : g j = b) (hfg : ∀ i, i < 32 → i ≠ j → g i = f i) : ((List.range 32).map f).set j b = (List.range 32).map g := by
  apply List.ext_getElem
  · simp
  · intro i h1 h2
    have hi : i < 32 := by simpa using h2
    rw [List.getElem_set]
    split
    · rename_i e; subst e; simp [hb]
    · rename_i e; simp; exact (hfg i hi (fun h => e h.symm)).symm
theorem shiftJ_zero (c : R) : shiftJ c 0 = regL c := by simp [shiftJ, regL]
theorem shiftJ_step (c : R) (j : Nat) (h : j < 31) : (shiftJ c j).set j ((shiftJ c j).getD (j + 1) false) = shiftJ c (j + 1) := by
  rw [show (shiftJ c j).getD (j + 1) false = c.getLsbD (j + 1) from by unfold shiftJ; rw [map_getD _ _ (by omega), if_neg (by omega)]]
  refine map_set _ _ j _ (by simp) (fun i hi hne => ?_)
  by_cases h1 : i < j
  · rw [if_pos (by omega), if_pos h1]
  · rw [if_neg (by omega), if_neg h1]
theorem shiftJ_done (c : R) : (shiftJ c 31).set 31 false = regL (c >>> 1) := by
  refine map_set _ _ 31 _ (by simp) (fun i hi hne => ?_)
  rw [if_pos (by omega), BitVec.getLsbD_ushiftRight]; congr 1; omega
theorem polyJ_zero (c : R) : polyJ c 0 = regL c := by simp [polyJ, regL]
theorem polyJ_step (c : R) (j : Nat) (h : j < 32) : (polyJ c j).set j ((polyJ c j).getD j false != polyL.getD (31 - j) false) = polyJ c (j + 1) := by
  rw [polyL_at j h, show (polyJ c j).getD j false = c.getLsbD j from by unfold polyJ; rw [map_getD _ _ h, if_neg (by omega)]]
  refine map_set _ _ j _ (by simp) (fun i hi hne => ?_)
  by_cases h1 : i < j
  · rw [if_pos (by omega), if_pos h1]
  · rw [if_neg (by omega), if_neg h1]
theorem polyJ_done (c : R) : polyJ c 32 = regL (c ^^^ poly) := by
  unfold polyJ regL
  apply List.map_congr_left
  intro i hi
  have : i < 32 := by simpa using hi
  rw [if_pos this, BitVec.getLsbD_xor]
theorem bit_of (x : Int) (h0 : 0 ≤ x) (h1 : x ≤ 255) (j : Nat) (hj : j < 32) : (x / 2 ^ j % 2 == 1) = (BitVec.ofInt 32 x >>> j).getLsbD 0 := by
  obtain ⟨n, rfl⟩ := Int.eq_ofNat_of_zero_le h0
  rw [BitVec.getLsbD_ushiftRight, BitVec.ofInt_natCast, BitVec.getLsbD_ofNat, Nat.add_zero, Nat.testBit_eq_decide_div_mod_eq]
  have : ((n : Int) / 2 ^ j % 2) = ((n / 2 ^ j % 2 : Nat) : Int) := by simp
  rw [this, decide_eq_true hj, Bool.true_and]
  by_cases h : n / 2 ^ j % 2 = 1
  · rw [decide_eq_true h]; simp; omega
  · rw [decide_eq_false h]; simp; omega
theorem bitIn_step (s y : R) : bitIn (s ^^^ y) (y.getLsbD 0) = bitStep s ^^^ (y >>> 1) := by
  unfold bitIn bitStep
  rw [BitVec.getLsbD_xor]
  have e : (s ^^^ y) >>> 1 = (s >>> 1) ^^^ (y >>> 1) := by
    apply BitVec.eq_of_getLsbD_eq; intro i hi
    simp [BitVec.getLsbD_ushiftRight, BitVec.getLsbD_xor]
  rw [e]
  cases s.getLsbD 0 <;> cases y.getLsbD 0 <;> simp <;> (apply BitVec.eq_of_getLsbD_eq; intro i hi; simp only [BitVec.getLsbD_xor]; cases (s >>> 1).getLsbD i <;> cases (y >>> 1).getLsbD i <;> cases poly.getLsbD i <;> rfl)
theorem fold_byte (c : R) (x : Int) (h0 : 0 ≤ x) (h1 : x ≤ 255) : ∀ n, n ≤ 8 → ((List.range n).map fun k => x / 2 ^ k % 2 == 1).foldl bitIn c = steps n (c ^^^ BitVec.ofInt 32 x) ^^^ (BitVec.ofInt 32 x >>> n)
  | 0, _ => by
    simp only [List.range_zero, List.map_nil, List.foldl_nil, steps]
    apply BitVec.eq_of_getLsbD_eq; intro i hi
    simp only [BitVec.getLsbD_xor, BitVec.getLsbD_ushiftRight, Nat.zero_add]
    cases c.getLsbD i <;> cases (BitVec.ofInt 32 x).getLsbD i <;> rfl
  | n + 1, hn => by
    rw [List.range_succ, List.map_append, List.foldl_append, fold_byte c x h0 h1 n (by omega)]
    simp only [List.map_cons, List.map_nil, List.foldl_cons, List.foldl_nil, steps]
    rw [bit_of x h0 h1 n (by omega), bitIn_step]
    congr 1
theorem byte_fold (c : R) (x : Int) (h0 : 0 ≤ x) (h1 : x ≤ 255) : ((List.range 8).map fun k => x / 2 ^ k % 2 == 1).foldl bitIn c = byteStep c x := by
  rw [fold_byte c x h0 h1 8 (by omega)]
  unfold byteStep
  have : BitVec.ofInt 32 x >>> 8 = 0#32 := by
    obtain ⟨n, rfl⟩ := Int.eq_ofNat_of_zero_le h0
    apply BitVec.eq_of_toNat_eq
    rw [BitVec.toNat_ushiftRight, BitVec.ofInt_natCast, BitVec.toNat_ofNat, Nat.shiftRight_eq_div_pow]
    simp; omega
  rw [this, BitVec.xor_zero]
/-- The bits above a place, and that place's. -/
theorem top_bit (c : R) (k : Nat) : iv c / 2 ^ (k + 1) * 2 + (if c.getLsbD k then 1 else 0) = iv c / 2 ^ k := by
  rw [Int.pow_succ, ← Int.ediv_ediv_of_nonneg (Int.pow_nonneg (by decide))]
  have e : (iv c / 2 ^ k % 2 == 1) = c.getLsbD k := by
    unfold iv
    have : ((c.toNat : Int) / 2 ^ k % 2) = ((c.toNat / 2 ^ k % 2 : Nat) : Int) := by simp
    rw [this, ← BitVec.testBit_toNat, Nat.testBit_eq_decide_div_mod_eq]
    by_cases h : c.toNat / 2 ^ k % 2 = 1
    · rw [decide_eq_true h]; simp; omega
    · rw [decide_eq_false h]; simp; omega
  rw [← e]
  by_cases h : iv c / 2 ^ k % 2 = 1
  · rw [if_pos (by simpa using h)]; omega
  · rw [if_neg (by simpa using h)]; omega
theorem top_bound (c : R) (k : Nat) : 0 ≤ iv c / 2 ^ k ∧ iv c / 2 ^ k < 4294967296 := by
  have h := iv_lt c
  exact ⟨Int.ediv_nonneg h.1 (Int.pow_nonneg (by decide)), by have := Int.ediv_le_self (2 ^ k) h.1; omega⟩
theorem top_32 (c : R) : iv c / 2 ^ 32 = 0 := by
  have h := iv_lt c
  have e : (2 : Int) ^ 32 = 4294967296 := by decide
  rw [e]; omega
theorem not_bit (c : R) (k : Nat) (hk : k < 32) : (~~~ c).getLsbD k = !c.getLsbD k := by rw [BitVec.getLsbD_not]; simp [hk]
theorem le_bytes (c : R) (n : Nat) : Bytes (le c n) := by
  intro x hx
  simp only [le, List.mem_map] at hx
  obtain ⟨i, _, rfl⟩ := hx
  have := Int.emod_nonneg (iv c / 256 ^ i) (show (256 : Int) ≠ 0 by decide)
  have := Int.emod_lt_of_pos (iv c / 256 ^ i) (show (0 : Int) < 256 by decide)
  omega
theorem iv256 (c : R) (k : Nat) : 0 ≤ iv c / 256 ^ k ∧ iv c / 256 ^ k < 4294967296 := by
  have h := iv_lt c
  exact ⟨Int.ediv_nonneg h.1 (Int.pow_nonneg (by decide)), by have := Int.ediv_le_self (256 ^ k) h.1; omega⟩
end Go.Proofs.Ytmkkkenpjealdaa.CrcPlain
