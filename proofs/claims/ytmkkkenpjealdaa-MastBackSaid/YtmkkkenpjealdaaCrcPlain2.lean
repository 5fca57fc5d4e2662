/- More on sums, in plain Lean: they tell texts apart, and are even. -/
import Derived.Test.YtmkkkenpjealdaaCrcPlain
namespace Go.Proofs.Ytmkkkenpjealdaa.CrcPlain
open Go.RowKit PlainWord Go.Proofs.YtmkkkenpjealdaaW.PrintWords

theorem more_sum (a b : List Int) : more (sum a) b = sum (a ++ b) := by
  unfold sum more
  rw [BitVec.not_not, regs_append]
theorem more_nil (s : R) : more s [] = s := by
  unfold more; simp [regs]

/-! ### a bit's step can be turned round -/
theorem poly_msb : poly.getLsbD 31 = true := by decide
theorem step_msb (c : R) : (bitStep c).getLsbD 31 = c.getLsbD 0 := by
  unfold bitStep
  by_cases h : c.getLsbD 0
  · rw [if_pos h, BitVec.getLsbD_xor, BitVec.getLsbD_ushiftRight, poly_msb, h]; simp
  · rw [if_neg h, BitVec.getLsbD_ushiftRight]; simp at h ⊢; simp [h]
theorem step_inj {a b : R} (h : bitStep a = bitStep b) : a = b := by
  have h0 : a.getLsbD 0 = b.getLsbD 0 := by rw [← step_msb, ← step_msb, h]
  have h1 : a >>> 1 = b >>> 1 := by
    unfold bitStep at h
    rw [h0] at h
    by_cases hb : b.getLsbD 0
    · rw [if_pos hb, if_pos hb] at h
      have := congrArg (· ^^^ poly) h
      simpa [BitVec.xor_assoc] using this
    · rwa [if_neg hb, if_neg hb] at h
  apply BitVec.eq_of_getLsbD_eq
  intro i hi
  cases i with
  | zero => exact h0
  | succ i =>
    have := congrArg (fun (x : R) => x.getLsbD i) h1
    simpa [BitVec.getLsbD_ushiftRight, Nat.add_comm] using this
theorem steps_inj : ∀ (n : Nat) {a b : R}, steps n a = steps n b → a = b
  | 0, _, _, h => h
  | n + 1, _, _, h => steps_inj n (step_inj h)
theorem xor_inj {a b x : R} (h : a ^^^ x = b ^^^ x) : a = b := by
  have := congrArg (· ^^^ x) h
  simpa [BitVec.xor_assoc] using this
theorem regs_inj : ∀ (l : List Int) {a b : R}, regs a l = regs b l → a = b
  | [], _, _, h => h
  | _ :: l, _, _, h => xor_inj (steps_inj 8 (regs_inj l h))
theorem not_inj {a b : R} (h : ~~~ a = ~~~ b) : a = b := by
  have := congrArg (fun x : R => ~~~ x) h
  simpa using this
theorem sum_eq_iff (a b : List Int) : sum a = sum b ↔ regs (BitVec.allOnes 32) a = regs (BitVec.allOnes 32) b := by
  unfold sum more
  exact ⟨not_inj, fun h => by have e : (~~~ (0 : R)) = BitVec.allOnes 32 := rfl
                              rw [e, h]⟩

/-! ### and is even -/
theorem step_xor (a b : R) : bitStep (a ^^^ b) = bitStep a ^^^ bitStep b := by
  unfold bitStep
  rw [BitVec.getLsbD_xor]
  apply BitVec.eq_of_getLsbD_eq
  intro i hi
  cases a.getLsbD 0 <;> cases b.getLsbD 0 <;> simp [BitVec.getLsbD_xor, BitVec.getLsbD_ushiftRight] <;> (try (cases a.getLsbD (1 + i) <;> cases b.getLsbD (1 + i) <;> cases poly.getLsbD i <;> rfl))
theorem steps_xor : ∀ (n : Nat) (a b : R), steps n (a ^^^ b) = steps n a ^^^ steps n b
  | 0, _, _ => rfl
  | n + 1, a, b => by simp only [steps]; rw [steps_xor n a b, step_xor]
/-- Three texts turned by one another. -/
def xor8 (x y : Int) : Int := Go.bits .xor .u8 x y
theorem xor8_reg (x y : Int) (hx : 0 ≤ x ∧ x ≤ 255) (hy : 0 ≤ y ∧ y ≤ 255) : BitVec.ofInt 32 (xor8 x y) = BitVec.ofInt 32 x ^^^ BitVec.ofInt 32 y := by
  obtain ⟨n, rfl⟩ := Int.eq_ofNat_of_zero_le hx.1
  obtain ⟨m, rfl⟩ := Int.eq_ofNat_of_zero_le hy.1
  have hn : n < 256 := by omega
  have hm : m < 256 := by omega
  have hlt : n ^^^ m < 256 := Nat.xor_lt_two_pow (n := 8) hn hm
  unfold xor8 Go.bits
  show BitVec.ofInt 32 (IntKind.u8.wrap (((BitVec.ofInt 8 (n : Int) ^^^ BitVec.ofInt 8 (m : Int)).toNat : Int))) = _
  rw [BitVec.ofInt_natCast, BitVec.ofInt_natCast, BitVec.toNat_xor, BitVec.toNat_ofNat, BitVec.toNat_ofNat, Nat.mod_eq_of_lt hn, Nat.mod_eq_of_lt hm, IntKind.wrap_u8]
  have e : (((n ^^^ m : Nat) : Int) % 256) = ((n ^^^ m : Nat) : Int) := by omega
  rw [e, BitVec.ofInt_natCast, BitVec.ofInt_natCast, BitVec.ofInt_natCast]
  apply BitVec.eq_of_toNat_eq
  rw [BitVec.toNat_xor, BitVec.toNat_ofNat, BitVec.toNat_ofNat, BitVec.toNat_ofNat, Nat.mod_eq_of_lt (show n < 2 ^ 32 by omega), Nat.mod_eq_of_lt (show m < 2 ^ 32 by omega), Nat.mod_eq_of_lt (show n ^^^ m < 2 ^ 32 by omega)]
theorem xor8_bound (x y : Int) : 0 ≤ xor8 x y ∧ xor8 x y ≤ 255 := by
  unfold xor8 Go.bits
  rw [IntKind.wrap_u8]; omega
def xor3 (a b c : List Int) : List Int := (List.range a.length).map fun i => xor8 (xor8 (a.getD i 0) (b.getD i 0)) (c.getD i 0)
theorem xor3_cons (x y z : Int) (a b c : List Int) : xor3 (x :: a) (y :: b) (z :: c) = xor8 (xor8 x y) z :: xor3 a b c := by
  simp only [xor3, List.length_cons, List.range_succ_eq_map, List.map_cons, List.map_map]
  congr 1
theorem byte_xor3 (r s t : R) (x y z : Int) (hx : 0 ≤ x ∧ x ≤ 255) (hy : 0 ≤ y ∧ y ≤ 255) (hz : 0 ≤ z ∧ z ≤ 255) :
    byteStep (r ^^^ s ^^^ t) (xor8 (xor8 x y) z) = byteStep r x ^^^ byteStep s y ^^^ byteStep t z := by
  unfold byteStep
  rw [xor8_reg _ _ (xor8_bound x y) hz, xor8_reg _ _ hx hy, ← steps_xor, ← steps_xor]
  congr 1
  apply BitVec.eq_of_getLsbD_eq
  intro i hi
  simp only [BitVec.getLsbD_xor]
  cases r.getLsbD i <;> cases s.getLsbD i <;> cases t.getLsbD i <;> cases (BitVec.ofInt 32 x).getLsbD i <;> cases (BitVec.ofInt 32 y).getLsbD i <;> cases (BitVec.ofInt 32 z).getLsbD i <;> rfl
theorem regs_xor3 : ∀ (a b c : List Int) (r s t : R), a.length = b.length → a.length = c.length → Bytes a → Bytes b → Bytes c → regs (r ^^^ s ^^^ t) (xor3 a b c) = regs r a ^^^ regs s b ^^^ regs t c
  | [], [], [], _, _, _, _, _, _, _, _ => rfl
  | x :: a, y :: b, z :: c, r, s, t, h1, h2, ha, hb, hc => by
    rw [xor3_cons]
    show regs (byteStep (r ^^^ s ^^^ t) (xor8 (xor8 x y) z)) (xor3 a b c) = _
    rw [byte_xor3 r s t x y z (ha x (by simp)) (hb y (by simp)) (hc z (by simp))]
    exact regs_xor3 a b c _ _ _ (by simpa using h1) (by simpa using h2) (fun u hu => ha u (by simp [hu])) (fun u hu => hb u (by simp [hu])) (fun u hu => hc u (by simp [hu]))
theorem sum_xor3 (a b c : List Int) (h1 : a.length = b.length) (h2 : a.length = c.length) (ha : Bytes a) (hb : Bytes b) (hc : Bytes c) : sum (xor3 a b c) = sum a ^^^ sum b ^^^ sum c := by
  have e : (~~~ (0 : R)) = (~~~ (0 : R)) ^^^ (~~~ (0 : R)) ^^^ (~~~ (0 : R)) := by decide
  unfold sum more
  rw [e, regs_xor3 a b c _ _ _ h1 h2 ha hb hc, ← e]
  apply BitVec.eq_of_getLsbD_eq
  intro i hi
  simp only [BitVec.getLsbD_xor, BitVec.getLsbD_not]
  simp [hi]

/-! ### bursts -/
theorem step_low {c e : R} (h : bitStep c = e) (he : e.toNat < 2147483648) : c.toNat = 2 * e.toNat := by
  have hm : e.getLsbD 31 = false := by rw [← BitVec.testBit_toNat]; exact Nat.testBit_lt_two_pow (by omega)
  have h0 : c.getLsbD 0 = false := by rw [← step_msb, h, hm]
  unfold bitStep at h
  rw [if_neg (by rw [h0]; decide)] at h
  have h1 : c.toNat % 2 = 0 := by
    rw [← BitVec.testBit_toNat, Nat.testBit_zero] at h0
    simpa using h0
  rw [← h, BitVec.toNat_ushiftRight, Nat.shiftRight_eq_div_pow]
  omega
theorem steps_low : ∀ (n : Nat) {d e : R}, steps n d = e → e.toNat * 2 ^ n < 4294967296 → d.toNat = e.toNat * 2 ^ n
  | 0, _, _, h, _ => by simp only [steps] at h; rw [h]; omega
  | n + 1, d, e, h, hl => by
    rw [Nat.pow_succ] at hl ⊢
    have hp : 1 ≤ 2 ^ n := Nat.one_le_two_pow
    have h2 : e.toNat * 2 ≤ e.toNat * (2 ^ n * 2) := Nat.mul_le_mul_left _ (by omega)
    have h1 := step_low (c := steps n d) h (by omega)
    have := steps_low n (d := d) rfl (by rw [h1]; have : 2 * e.toNat * 2 ^ n = e.toNat * (2 ^ n * 2) := by rw [Nat.mul_comm 2, Nat.mul_assoc, Nat.mul_comm 2]
                                         omega)
    rw [this, h1, Nat.mul_comm 2, Nat.mul_assoc, Nat.mul_comm 2]
theorem xor_small {a b : R} {n : Nat} (ha : a.toNat < 2 ^ n) (hb : b.toNat < 2 ^ n) : (a ^^^ b).toNat < 2 ^ n := by
  rw [BitVec.toNat_xor]; exact Nat.xor_lt_two_pow ha hb
theorem reg_small (x : Int) (hx : 0 ≤ x ∧ x ≤ 255) : (BitVec.ofInt 32 x).toNat < 2 ^ 8 := by
  obtain ⟨n, rfl⟩ := Int.eq_ofNat_of_zero_le hx.1
  rw [BitVec.ofInt_natCast, BitVec.toNat_ofNat]; omega
theorem reg_eq {x y : Int} (hx : 0 ≤ x ∧ x ≤ 255) (hy : 0 ≤ y ∧ y ≤ 255) (h : (BitVec.ofInt 32 x ^^^ BitVec.ofInt 32 y : R).toNat = 0) : x = y := by
  have e : BitVec.ofInt 32 x = BitVec.ofInt 32 y := by
    have h0 : (BitVec.ofInt 32 x ^^^ BitVec.ofInt 32 y : R) = 0#32 := BitVec.eq_of_toNat_eq (by simpa using h)
    have := congrArg (· ^^^ BitVec.ofInt 32 y) h0
    simpa [BitVec.xor_assoc] using this
  have := congrArg iv e
  rwa [iv_ofInt x (by omega) (by omega), iv_ofInt y (by omega) (by omega)] at this
/-- Four bytes in a row that come to the same are the same. -/
theorem burst (c : R) (w0 w1 w2 w3 v0 v1 v2 v3 : Int) (hw0 : 0 ≤ w0 ∧ w0 ≤ 255) (hw1 : 0 ≤ w1 ∧ w1 ≤ 255) (hw2 : 0 ≤ w2 ∧ w2 ≤ 255) (hw3 : 0 ≤ w3 ∧ w3 ≤ 255)
    (hv0 : 0 ≤ v0 ∧ v0 ≤ 255) (hv1 : 0 ≤ v1 ∧ v1 ≤ 255) (hv2 : 0 ≤ v2 ∧ v2 ≤ 255) (hv3 : 0 ≤ v3 ∧ v3 ≤ 255) (h : regs c [w0, w1, w2, w3] = regs c [v0, v1, v2, v3]) : w0 = v0 ∧ w1 = v1 ∧ w2 = v2 ∧ w3 = v3 := by
  obtain ⟨e0, he0⟩ : ∃ e : R, e = BitVec.ofInt 32 w0 ^^^ BitVec.ofInt 32 v0 := ⟨_, rfl⟩
  obtain ⟨e1, he1⟩ : ∃ e : R, e = BitVec.ofInt 32 w1 ^^^ BitVec.ofInt 32 v1 := ⟨_, rfl⟩
  obtain ⟨e2, he2⟩ : ∃ e : R, e = BitVec.ofInt 32 w2 ^^^ BitVec.ofInt 32 v2 := ⟨_, rfl⟩
  obtain ⟨e3, he3⟩ : ∃ e : R, e = BitVec.ofInt 32 w3 ^^^ BitVec.ofInt 32 v3 := ⟨_, rfl⟩
  have s0 : e0.toNat < 2 ^ 8 := by rw [he0]; exact xor_small (reg_small w0 hw0) (reg_small v0 hv0)
  have s1 : e1.toNat < 2 ^ 8 := by rw [he1]; exact xor_small (reg_small w1 hw1) (reg_small v1 hv1)
  have s2 : e2.toNat < 2 ^ 8 := by rw [he2]; exact xor_small (reg_small w2 hw2) (reg_small v2 hv2)
  have s3 : e3.toNat < 2 ^ 8 := by rw [he3]; exact xor_small (reg_small w3 hw3) (reg_small v3 hv3)
  have key : ∀ (a b : R) (x y : Int), byteStep a x ^^^ byteStep b y = steps 8 ((a ^^^ b) ^^^ (BitVec.ofInt 32 x ^^^ BitVec.ofInt 32 y)) := by
    intro a b x y
    unfold byteStep
    rw [← steps_xor]
    congr 1
    apply BitVec.eq_of_getLsbD_eq
    intro i hi
    simp only [BitVec.getLsbD_xor]
    cases a.getLsbD i <;> cases b.getLsbD i <;> cases (BitVec.ofInt 32 x).getLsbD i <;> cases (BitVec.ofInt 32 y).getLsbD i <;> rfl
  have x0 : c ^^^ c = 0#32 := BitVec.xor_self
  have z0 : ∀ x : R, 0#32 ^^^ x = x := fun x => BitVec.zero_xor
  have h' : byteStep (byteStep (byteStep (byteStep c w0) w1) w2) w3 = byteStep (byteStep (byteStep (byteStep c v0) v1) v2) v3 := h
  have h4 : byteStep (byteStep (byteStep (byteStep c w0) w1) w2) w3 ^^^ byteStep (byteStep (byteStep (byteStep c v0) v1) v2) v3 = 0#32 := by rw [h']; exact BitVec.xor_self
  rw [key, key, key, key, x0, z0, ← he0, ← he1, ← he2, ← he3] at h4
  -- steps 8 (steps 8 (steps 8 (steps 8 e0 ^^^ e1) ^^^ e2) ^^^ e3) = 0
  have n4 := steps_low 8 h4 (by decide)
  have d3 : steps 8 (steps 8 (steps 8 e0 ^^^ e1) ^^^ e2) = e3 := by
    have : steps 8 (steps 8 (steps 8 e0 ^^^ e1) ^^^ e2) ^^^ e3 = 0#32 := BitVec.eq_of_toNat_eq (by simpa using n4)
    have := congrArg (· ^^^ e3) this
    simpa [BitVec.xor_assoc] using this
  have n3 := steps_low 8 d3 (by omega)
  have m3 : (steps 8 (steps 8 e0 ^^^ e1) ^^^ e2).toNat < 2 ^ 16 := by omega
  have d2 : steps 8 (steps 8 e0 ^^^ e1) = (steps 8 (steps 8 e0 ^^^ e1) ^^^ e2) ^^^ e2 := by rw [BitVec.xor_assoc, BitVec.xor_self, BitVec.xor_zero]
  have m2 : ((steps 8 (steps 8 e0 ^^^ e1) ^^^ e2) ^^^ e2).toNat < 2 ^ 16 := xor_small m3 (by omega)
  have n2 := steps_low 8 d2 (by omega)
  have m2' : (steps 8 e0 ^^^ e1).toNat < 2 ^ 24 := by omega
  have d1 : steps 8 e0 = (steps 8 e0 ^^^ e1) ^^^ e1 := by rw [BitVec.xor_assoc, BitVec.xor_self, BitVec.xor_zero]
  have m1 : ((steps 8 e0 ^^^ e1) ^^^ e1).toNat < 2 ^ 24 := xor_small m2' (by omega)
  have n1 := steps_low 8 d1 (by omega)
  -- now downwards
  have q1 : ((steps 8 e0 ^^^ e1) ^^^ e1).toNat = 0 := by omega
  have r0 : e0.toNat = 0 := by omega
  have q1' : steps 8 e0 = 0#32 := BitVec.eq_of_toNat_eq (by rw [d1]; simpa using q1)
  have q2 : (steps 8 e0 ^^^ e1) = e1 := by rw [q1', z0]
  rw [q2] at n2
  have q3 : ((steps 8 (steps 8 e0 ^^^ e1) ^^^ e2) ^^^ e2).toNat = 0 := by rw [q2]; omega
  have r1 : e1.toNat = 0 := by rw [q2] at q3; omega
  have q4 : steps 8 (steps 8 e0 ^^^ e1) = 0#32 := BitVec.eq_of_toNat_eq (by rw [d2]; simpa using q3)
  rw [q4, z0] at n3
  have r3 : e3.toNat = 0 := by omega
  have r2 : e2.toNat = 0 := by omega
  exact ⟨reg_eq hw0 hv0 (by rw [← he0]; exact r0), reg_eq hw1 hv1 (by rw [← he1]; exact r1), reg_eq hw2 hv2 (by rw [← he2]; exact r2), reg_eq hw3 hv3 (by rw [← he3]; exact r3)⟩

/-! ### what the statements say of texts -/
theorem bytes_get {l : List Int} (h : Bytes l) (i : Nat) : 0 ≤ l.getD i 0 ∧ l.getD i 0 ≤ 255 := h.getD i
theorem split4 (l : List Int) (k : Nat) (h : k + 4 ≤ l.length) : l = l.take k ++ [l.getD k 0, l.getD (k + 1) 0, l.getD (k + 2) 0, l.getD (k + 3) 0] ++ l.drop (k + 4) := by
  have g : ∀ j, j < l.length → l.drop j = l.getD j 0 :: l.drop (j + 1) := fun j hj => by
    rw [List.drop_eq_getElem_cons hj, List.getD_eq_getElem?_getD, List.getElem?_eq_getElem hj]; rfl
  have e : l.drop k = [l.getD k 0, l.getD (k + 1) 0, l.getD (k + 2) 0, l.getD (k + 3) 0] ++ l.drop (k + 4) := by
    rw [g k (by omega), g (k + 1) (by omega), g (k + 2) (by omega), g (k + 3) (by omega)]; rfl
  rw [List.append_assoc, ← e, List.take_append_drop]
/-- Texts that differ within four bytes in a row have unlike sums. -/
theorem tears (l m : List Int) (k : Nat) (hk : k + 4 ≤ l.length) (hlen : l.length = m.length) (hl : Bytes l) (hm : Bytes m) (he : ∀ i, i < k ∨ k + 4 ≤ i → l.getD i 0 = m.getD i 0) : sum l = sum m ↔ l = m := by
  constructor
  · intro h
    rw [sum_eq_iff] at h
    have e1 : l.take k = m.take k := by
      apply ext_getD (by simp [hlen])
      intro j hj
      rw [List.length_take] at hj
      rw [List.getD_eq_getElem?_getD, List.getD_eq_getElem?_getD, List.getElem?_take_of_lt (by omega), List.getElem?_take_of_lt (by omega), ← List.getD_eq_getElem?_getD, ← List.getD_eq_getElem?_getD]
      exact he j (.inl (by omega))
    have e2 : l.drop (k + 4) = m.drop (k + 4) := by
      apply ext_getD (by simp [hlen])
      intro j hj
      rw [List.getD_eq_getElem?_getD, List.getD_eq_getElem?_getD, List.getElem?_drop, List.getElem?_drop, ← List.getD_eq_getElem?_getD, ← List.getD_eq_getElem?_getD]
      exact he _ (.inr (by omega))
    rw [split4 l k hk, split4 m k (by omega), e1, e2] at h
    rw [regs_append, regs_append, regs_append, regs_append] at h
    have h3 := regs_inj _ h
    obtain ⟨a0, a1, a2, a3⟩ := burst _ _ _ _ _ _ _ _ _ (hl.getD k) (hl.getD _) (hl.getD _) (hl.getD _) (hm.getD k) (hm.getD _) (hm.getD _) (hm.getD _) h3
    rw [split4 l k hk, split4 m k (by omega), e1, e2, a0, a1, a2, a3]
  · intro h; rw [h]
theorem getN_le (c : R) : getN (le c 4) 0 4 = iv c := by
  have h := iv_lt c
  have e : ∀ i : Nat, i < 4 → rd (le c 4) (i : Int) = iv c / 256 ^ i % 256 := fun i hi => by
    rw [rd_nat, Int.toNat_natCast]; exact getD_range _ _ _ hi
  have e0 := e 0 (by omega)
  have e1 := e 1 (by omega)
  have e2 := e 2 (by omega)
  have e3 := e 3 (by omega)
  simp only [getN]
  rw [show (0 : Int) + ((0 : Nat) : Int) = ((0 : Nat) : Int) from rfl, show (0 : Int) + ((1 : Nat) : Int) = ((1 : Nat) : Int) from rfl, show (0 : Int) + ((2 : Nat) : Int) = ((2 : Nat) : Int) from rfl, show (0 : Int) + ((3 : Nat) : Int) = ((3 : Nat) : Int) from rfl]
  rw [e0, e1, e2, e3]
  simp only [Int.pow_succ, Int.pow_zero]
  omega
/-- The number at a place is that of what is behind the place. -/
theorem getN_drop (l : List Int) (k : Nat) : ∀ n : Nat, getN l (k : Int) n = getN (l.drop k) 0 n
  | 0 => rfl
  | n + 1 => by
    simp only [getN]
    rw [getN_drop l k n]
    congr 2
    rw [rd_nat, rd_nat, List.getD_eq_getElem?_getD, List.getD_eq_getElem?_getD, List.getElem?_drop]
    congr 2
    omega
theorem getN_inj {l m : List Int} (hl : Bytes l) (hm : Bytes m) {n : Nat} (h1 : l.length = n) (h2 : m.length = n) (h : getN l 0 n = getN m 0 n) : l = m := by
  apply ext_getD (by omega)
  intro j hj
  have a := getN_digit hl 0 n j (by omega)
  have b := getN_digit hm 0 n j (by omega)
  rw [h, b, rd_nat, rd_nat] at a
  have : ((0 : Int) + (j : Int)).toNat = j := by omega
  rw [this] at a
  exact a.symm
/-- Right is what was sealed. -/
theorem right_iff (l : List Int) (hl : Bytes l) : rightB l = (decide (4 ≤ l.length) && decide (sealL (l.take (l.length - 4)) = l)) := by
  unfold rightB
  by_cases h4 : 4 ≤ l.length
  · rw [decide_eq_true h4, Bool.true_and, Bool.true_and, Bool.eq_iff_iff, decide_eq_true_eq, beq_iff_eq]
    have e : ((l.length : Int) - 4) = ((l.length - 4 : Nat) : Int) := by omega
    rw [e, getN_drop]
    have hd : (l.drop (l.length - 4)).length = 4 := by rw [List.length_drop]; omega
    have hdb : Bytes (l.drop (l.length - 4)) := fun x hx => hl x (List.mem_of_mem_drop hx)
    constructor
    · intro h
      unfold sealL
      have : le (sum (l.take (l.length - 4))) 4 = l.drop (l.length - 4) := getN_inj (le_bytes _ _) hdb (le_length _ _) hd (by rw [getN_le, h])
      rw [this, List.take_append_drop]
    · intro h
      have h2 : l.drop (l.length - 4) = le (sum (l.take (l.length - 4))) 4 := by
        have h3 := congrArg (List.drop (l.length - 4)) h
        unfold sealL at h3
        rw [List.drop_append_of_le_length (by rw [List.length_take]; omega), List.drop_of_length_le (by rw [List.length_take]; omega), List.nil_append] at h3
        exact h3.symm
      rw [h2, getN_le]
  · rw [decide_eq_false h4]; rfl
theorem seal_length (l : List Int) : (sealL l).length = l.length + 4 := by simp [sealL, le_length]
theorem seal_bytes {l : List Int} (h : Bytes l) : Bytes (sealL l) := bytes_append h (le_bytes _ _)
theorem seal_take (l : List Int) : (sealL l).take l.length = l := by simp [sealL]
theorem right_seal (l : List Int) (h : Bytes l) : rightB (sealL l) = true := by
  rw [right_iff _ (seal_bytes h), seal_length]
  have : l.length + 4 - 4 = l.length := by omega
  rw [this, seal_take]
  simp
end Go.Proofs.Ytmkkkenpjealdaa.CrcPlain
