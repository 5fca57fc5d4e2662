/- Records in plain Lean: which are right, their sectors, what is read of a sector; the sum of what is sealed. -/
import Derived.Test.YtmkkkenpjealdaaSecNum
namespace Go.Proofs.Ytmkkkenpjealdaa.PlainSec
set_option linter.unusedSimpArgs false
set_option linter.unusedVariables false
open Go.RowKit Go.Proofs.YtmkkkenpjealdaaW.PrintWords Go.Proofs.YtmkkkenpjealdaaW.PrintLast Go.Proofs.YtmkkkenpjealdaaW.PrintMore PlainWord CrcPlain SecRef

structure Rec where
  kind : Int
  epoch : Int
  seq : Int
  blk : Int
  cnt : Int
  data : List Int
def recHead (r : Rec) : Prop := 1 ≤ r.epoch ∧ r.epoch ≤ 1099511627776 ∧ 1 ≤ r.seq ∧ r.seq ≤ 1099511627776
instance (r : Rec) : Decidable (recHead r) := inferInstanceAs (Decidable (_ ∧ _))
def recKind (r : Rec) : Prop := (r.kind = 1 ∧ 0 ≤ r.blk ∧ r.blk < 4096 ∧ r.cnt = 0) ∨ (r.kind = 2 ∧ 0 ≤ r.blk ∧ r.blk < 4096 ∧ r.cnt = 0 ∧ r.data = zeros 32) ∨ (r.kind = 3 ∧ 0 ≤ r.blk ∧ r.blk ≤ 1 ∧ 0 ≤ r.cnt ∧ r.cnt ≤ 4096 ∧ r.data = zeros 32)
instance (r : Rec) : Decidable (recKind r) := inferInstanceAs (Decidable (_ ∨ _))
def recOk (r : Rec) : Bool := decide (recHead r ∧ recKind r)
def recBody (r : Rec) : List Int := [r.kind % 256] ++ leI r.epoch 8 ++ leI r.seq 8 ++ leI r.blk 4 ++ leI r.cnt 4 ++ r.data
def recLay (r : Rec) : List Int := fullL (recBody r)
theorem recBody_length (r : Rec) : (recBody r).length = 25 + r.data.length := by
  simp only [recBody, List.length_append, leI_length, List.length_cons, List.length_nil]
theorem recBody_bytes (r : Rec) (hd : Bytes r.data) : Bytes (recBody r) :=
  bytes_append (bytes_append (bytes_append (bytes_append (bytes_append (fun x hx => by simp at hx; omega) (leI_bytes _ _)) (leI_bytes _ _)) (leI_bytes _ _)) (leI_bytes _ _)) hd
theorem recLay_length (r : Rec) (h : r.data.length = 32) : (recLay r).length = 64 := fullL_length _ (by rw [recBody_length]; omega)
theorem recLay_bytes (r : Rec) (hd : Bytes r.data) : Bytes (recLay r) := fullL_bytes (recBody_bytes r hd)
/-- What is read, the sum being right. -/
def recOf (p : List Int) : Rec := ⟨p.getD 0 0, numL p 1 8, numL p 9 8, numL p 17 4, numL p 21 4, (p.drop 25).take 32⟩
theorem recOf_length (p : List Int) (h : p.length = 64) : (recOf p).data.length = 32 := by simp [recOf, h]
def rec0 : Rec := ⟨0, 0, 0, 0, 0, zeros 32⟩
/-- What is read, or why not. -/
def recRead (p : List Int) : Rec × Int := if rightB p = true then (if recOk (recOf p) = true ∧ recLay (recOf p) = p then (recOf p, 0) else (rec0, 7)) else (rec0, 8)
theorem numL_at (l a c : List Int) (n : Nat) (x : Int) (hl : l = a ++ leI x n ++ c) (h0 : 0 ≤ x) (h1 : x < 256 ^ n) (h2 : x ≤ 1099511627776) (i : Int) (hi : i = a.length) : numL l i n = x := by
  have : getN l i n = x := by rw [hl]; exact getN_mid a c n x h0 h1 i hi
  unfold numL
  rw [this, if_neg (by omega)]
theorem recLay_form (r : Rec) (h : r.data.length = 32) : recLay r = recBody r ++ (zeros 3 ++ le (sum (recBody r ++ zeros 3)) 4) := by
  unfold recLay fullL sealL
  rw [recBody_length, h, List.append_assoc]
theorem recOk_small {r : Rec} (hr : recOk r = true) : (1 ≤ r.kind ∧ r.kind ≤ 3) ∧ (1 ≤ r.epoch ∧ r.epoch ≤ 1099511627776) ∧ (1 ≤ r.seq ∧ r.seq ≤ 1099511627776) ∧ (0 ≤ r.blk ∧ r.blk ≤ 4096) ∧ (0 ≤ r.cnt ∧ r.cnt ≤ 4096) := by
  obtain ⟨⟨h1, h2, h3, h4⟩, hk⟩ := of_decide_eq_true hr
  rcases hk with ⟨a, b, c, d⟩ | ⟨a, b, c, d, _⟩ | ⟨a, b, c, d, e, _⟩ <;> omega
theorem recOf_lay (r : Rec) (h : r.data.length = 32) (hr : recOk r = true) : recOf (recLay r) = r := by
  obtain ⟨⟨k0, k1⟩, ⟨e0, e1⟩, ⟨s0, s1⟩, ⟨b0, b1⟩, ⟨c0, c1⟩⟩ := recOk_small hr
  obtain ⟨t, hf⟩ : ∃ t, recLay r = recBody r ++ t := ⟨_, recLay_form r h⟩
  have p8 : (256 : Int) ^ 8 = 18446744073709551616 := by decide
  have p4 : (256 : Int) ^ 4 = 4294967296 := by decide
  have f0 : (recLay r).getD 0 0 = r.kind := by
    rw [hf]
    show r.kind % 256 = r.kind
    omega
  have f1 : numL (recLay r) 1 8 = r.epoch := numL_at _ [r.kind % 256] (leI r.seq 8 ++ leI r.blk 4 ++ leI r.cnt 4 ++ r.data ++ t) 8 _ (by rw [hf]; simp [recBody]) (by omega) (by omega) (by omega) 1 (by simp)
  have f2 : numL (recLay r) 9 8 = r.seq := numL_at _ ([r.kind % 256] ++ leI r.epoch 8) (leI r.blk 4 ++ leI r.cnt 4 ++ r.data ++ t) 8 _ (by rw [hf]; simp [recBody]) (by omega) (by omega) (by omega) 9 (by simp [leI_length])
  have f3 : numL (recLay r) 17 4 = r.blk := numL_at _ ([r.kind % 256] ++ leI r.epoch 8 ++ leI r.seq 8) (leI r.cnt 4 ++ r.data ++ t) 4 _ (by rw [hf]; simp [recBody]) (by omega) (by omega) (by omega) 17 (by simp [leI_length])
  have f4 : numL (recLay r) 21 4 = r.cnt := numL_at _ ([r.kind % 256] ++ leI r.epoch 8 ++ leI r.seq 8 ++ leI r.blk 4) (r.data ++ t) 4 _ (by rw [hf]; simp [recBody]) (by omega) (by omega) (by omega) 21 (by simp [leI_length])
  have f5 : ((recLay r).drop 25).take 32 = r.data := by
    have e : recLay r = ([r.kind % 256] ++ leI r.epoch 8 ++ leI r.seq 8 ++ leI r.blk 4 ++ leI r.cnt 4) ++ (r.data ++ t) := by rw [hf]; simp [recBody]
    have hl : ([r.kind % 256] ++ leI r.epoch 8 ++ leI r.seq 8 ++ leI r.blk 4 ++ leI r.cnt 4).length = 25 := by simp [leI_length]
    rw [e, ← hl, List.drop_left, ← h, List.take_left]
  unfold recOf
  rw [f0, f1, f2, f3, f4, f5]
theorem recLay_right (r : Rec) (hd : Bytes r.data) : rightB (recLay r) = true := right_seal _ (bytes_append (recBody_bytes r hd) (zeros_bytes _))
theorem recRead_lay (r : Rec) (h : r.data.length = 32) (hd : Bytes r.data) (hr : recOk r = true) : recRead (recLay r) = (r, 0) := by
  unfold recRead
  rw [if_pos (recLay_right r hd), recOf_lay r h hr, if_pos ⟨hr, rfl⟩]
theorem recLay_inj {r s : Rec} (h : r.data.length = 32) (k : s.data.length = 32) (hr : recOk r = true) (kr : recOk s = true) (e : recLay r = recLay s) : r = s := by
  rw [← recOf_lay r h hr, ← recOf_lay s k kr, e]
theorem numL_pos {l : List Int} {a : Int} {n : Nat} (h : 0 ≤ numL l a n) : numL l a n = getN l a n := by
  unfold numL at h ⊢
  split
  · rename_i h2; rw [if_pos h2] at h; omega
  · rfl
/-- The reference's way: the record, and noughts. -/
theorem rec_ref (p : List Int) (hp : Bytes p) (hl : p.length = 64) (hr : rightB p = true) : (recOk (recOf p) = true ∧ recLay (recOf p) = p) ↔ (recOk (recOf p) = true ∧ p.getD 57 0 = 0 ∧ p.getD 58 0 = 0 ∧ p.getD 59 0 = 0) := by
  have hlen := recOf_length p hl
  constructor
  · rintro ⟨h1, h3⟩
    have hz : ∀ j, 57 ≤ j → j < 60 → p.getD j 0 = 0 := fun j hj hj2 => by
      rw [← h3, recLay_form _ hlen, getD_right (by rw [recBody_length, hlen]; omega), recBody_length, hlen, getD_left (by rw [zeros_length]; omega)]
      exact zeros_getD _ _
    exact ⟨h1, hz 57 (by omega) (by omega), hz 58 (by omega) (by omega), hz 59 (by omega) (by omega)⟩
  · rintro ⟨h1, z7, z8, z9⟩
    refine ⟨h1, ?_⟩
    obtain ⟨⟨k0, k1⟩, ⟨e0, e1⟩, ⟨s0, s1⟩, ⟨b0, b1⟩, ⟨c0, c1⟩⟩ := recOk_small h1
    rw [right_take hp hl, decide_eq_true_eq] at hr
    have n1 : (recOf p).epoch = getN p 1 8 := numL_pos (by show 0 ≤ (recOf p).epoch; omega)
    have n2 : (recOf p).seq = getN p 9 8 := numL_pos (by show 0 ≤ (recOf p).seq; omega)
    have n3 : (recOf p).blk = getN p 17 4 := numL_pos (by show 0 ≤ (recOf p).blk; omega)
    have n4 : (recOf p).cnt = getN p 21 4 := numL_pos (by show 0 ≤ (recOf p).cnt; omega)
    have hb : recBody (recOf p) ++ zeros 3 = p.take 60 := by
      have e0 : p.take 1 = [(recOf p).kind % 256] := by
        rw [take_one p (by omega)]
        have : (recOf p).kind = p.getD 0 0 := rfl
        rw [← this, show (recOf p).kind % 256 = (recOf p).kind by omega]
      have e1 := slice_leI hp 1 8 (by omega)
      have e2 := slice_leI hp 9 8 (by omega)
      have e3 := slice_leI hp 17 4 (by omega)
      have e4 := slice_leI hp 21 4 (by omega)
      have e5 : (p.drop 57).take 3 = zeros 3 := slice_zeros p 57 3 (by omega) (fun j h4 h5 => by
        rcases (show j = 57 ∨ j = 58 ∨ j = 59 by omega) with rfl | rfl | rfl <;> assumption)
      rw [show 60 = 57 + 3 from rfl, take_add_slice, show 57 = 25 + 32 from rfl, take_add_slice p 25, show 25 = 21 + 4 from rfl, take_add_slice p 21, show 21 = 17 + 4 from rfl, take_add_slice p 17, show 17 = 9 + 8 from rfl, take_add_slice p 9, show 9 = 1 + 8 from rfl, take_add_slice p 1]
      unfold recBody
      rw [n1, n2, n3, n4, e0]
      rw [e1, e2, e3, e4, e5]
      rfl
    unfold recLay fullL
    rw [recBody_length, hlen, hb]
    exact hr
theorem recRead_ok {p : List Int} (h : (recRead p).2 = 0) : recOk (recRead p).1 = true ∧ recLay (recRead p).1 = p := by
  unfold recRead at h ⊢
  split
  · rename_i h1
    rw [if_pos h1] at h
    split
    · rename_i h2; exact h2
    · rename_i h2; rw [if_neg h2] at h; exact absurd h (by decide)
  · rename_i h1
    rw [if_neg h1] at h
    exact absurd h (by decide)
theorem recRead_codes (p : List Int) : (recRead p).2 = 0 ∨ (recRead p).2 = 7 ∨ (recRead p).2 = 8 := by
  unfold recRead
  split
  · split
    · exact Or.inl rfl
    · exact Or.inr (Or.inl rfl)
  · exact Or.inr (Or.inr rfl)
/-! ### the sum of what is sealed is always the same -/
theorem step_even {d e : R} (h : d.toNat = 2 * e.toNat) : bitStep d = e := by
  have h0 : d.getLsbD 0 = false := by
    rw [← BitVec.testBit_toNat, Nat.testBit_zero, h]
    simp
  unfold bitStep
  rw [if_neg (by rw [h0]; decide)]
  apply BitVec.eq_of_toNat_eq
  rw [BitVec.toNat_ushiftRight, Nat.shiftRight_eq_div_pow, h]
  omega
theorem steps_succ' : ∀ (n : Nat) (c : R), steps (n + 1) c = steps n (bitStep c)
  | 0, _ => rfl
  | n + 1, c => by
    show bitStep (steps (n + 1) c) = bitStep (steps n (bitStep c))
    rw [steps_succ' n c]
theorem steps_high : ∀ (n : Nat) (d e : R), d.toNat = e.toNat * 2 ^ n → steps n d = e
  | 0, d, e, h => by
    show d = e
    apply BitVec.eq_of_toNat_eq
    omega
  | n + 1, d, e, h => by
    have hd := d.isLt
    have e2 : d.toNat = 2 * (e.toNat * 2 ^ n) := by rw [h, Nat.pow_succ, ← Nat.mul_assoc, Nat.mul_comm]
    have hlt : e.toNat * 2 ^ n < 2 ^ 32 := by omega
    have hb : bitStep d = BitVec.ofNat 32 (e.toNat * 2 ^ n) := step_even (by rw [BitVec.toNat_ofNat, Nat.mod_eq_of_lt hlt]; exact e2)
    rw [steps_succ', hb]
    exact steps_high n _ e (by rw [BitVec.toNat_ofNat, Nat.mod_eq_of_lt hlt])
theorem byte_word (c S T : R) (x : Int) (hx : BitVec.ofInt 32 x = S ^^^ (T <<< 8)) (hT : T.toNat < 2 ^ 24) : byteStep c x ^^^ T = steps 8 (c ^^^ S) := by
  have h8 : steps 8 (T <<< 8) = T := steps_high 8 _ _ (by
    rw [BitVec.toNat_shiftLeft, Nat.shiftLeft_eq, Nat.mod_eq_of_lt (by omega)])
  unfold byteStep
  rw [hx, ← BitVec.xor_assoc, steps_xor, h8, BitVec.xor_assoc, BitVec.xor_self, BitVec.xor_zero]
theorem byte_of (s : R) (i : Nat) : BitVec.ofInt 32 (iv s / 256 ^ i % 256) = (s >>> (8 * i)) ^^^ ((s >>> (8 * (i + 1))) <<< 8) := by
  have e : iv s / 256 ^ i % 256 = ((s.toNat / 2 ^ (8 * i) % 2 ^ 8 : Nat) : Int) := by
    unfold iv
    rw [show (2 : Nat) ^ (8 * i) = 256 ^ i by rw [Nat.pow_mul]]
    rw [Int.natCast_emod, Int.natCast_ediv, Int.natCast_pow]
    rfl
  rw [e, BitVec.ofInt_natCast]
  apply BitVec.eq_of_getLsbD_eq
  intro j hj
  rw [BitVec.getLsbD_ofNat, BitVec.getLsbD_xor, BitVec.getLsbD_shiftLeft, BitVec.getLsbD_ushiftRight, BitVec.getLsbD_ushiftRight, Nat.testBit_mod_two_pow, Nat.testBit_div_two_pow, BitVec.testBit_toNat]
  by_cases h : j < 8
  · simp [h, hj, Nat.add_comm]
  · have e2 : 8 * (i + 1) + (j - 8) = 8 * i + j := by omega
    simp [h, hj, e2]
theorem regs_word (c s : R) : regs c (le s 4) = steps 8 (steps 8 (steps 8 (steps 8 (c ^^^ s)))) := by
  have hT : ∀ i, (s >>> (8 * (i + 1))).toNat < 2 ^ 24 := fun i => by
    have := s.isLt
    rw [BitVec.toNat_ushiftRight, Nat.shiftRight_eq_div_pow]
    have h8 : 2 ^ 8 ≤ 2 ^ (8 * (i + 1)) := Nat.pow_le_pow_right (by omega) (by omega)
    have : s.toNat / 2 ^ (8 * (i + 1)) ≤ s.toNat / 2 ^ 8 := Nat.div_le_div_left h8 (by decide)
    omega
  have h : ∀ (c : R) i, byteStep c (iv s / 256 ^ i % 256) ^^^ (s >>> (8 * (i + 1))) = steps 8 (c ^^^ (s >>> (8 * i))) := fun c i => byte_word c _ _ _ (byte_of s i) (hT i)
  have h0 : s >>> (8 * 0) = s := by simp
  have h4 : s >>> (8 * (3 + 1)) = 0 := by
    apply BitVec.eq_of_toNat_eq
    have := s.isLt
    rw [BitVec.toNat_ushiftRight, Nat.shiftRight_eq_div_pow]
    simp
    omega
  have e : regs c (le s 4) = byteStep (byteStep (byteStep (byteStep c (iv s / 256 ^ 0 % 256)) (iv s / 256 ^ 1 % 256)) (iv s / 256 ^ 2 % 256)) (iv s / 256 ^ 3 % 256) := rfl
  have a3 := h (byteStep (byteStep (byteStep c (iv s / 256 ^ 0 % 256)) (iv s / 256 ^ 1 % 256)) (iv s / 256 ^ 2 % 256)) 3
  have a2 := h (byteStep (byteStep c (iv s / 256 ^ 0 % 256)) (iv s / 256 ^ 1 % 256)) 2
  have a1 := h (byteStep c (iv s / 256 ^ 0 % 256)) 1
  have a0 := h c 0
  rw [h4, show ∀ x : R, x ^^^ 0 = x from fun x => BitVec.xor_zero] at a3
  rw [h0] at a0
  rw [e, a3, a2, a1, a0]
theorem seal_sum (l : List Int) : sum (sealL l) = ~~~ (steps 8 (steps 8 (steps 8 (steps 8 (BitVec.allOnes 32))))) := by
  unfold sealL
  rw [← more_sum]
  unfold more
  rw [regs_word]
  have e : ∀ x : R, x ^^^ ~~~ x = BitVec.allOnes 32 := fun x => by
    apply BitVec.eq_of_getLsbD_eq
    intro i hi
    rw [BitVec.getLsbD_xor, BitVec.getLsbD_not, BitVec.getLsbD_allOnes]
    cases x.getLsbD i <;> simp [hi]
  have e2 : ~~~ (~~~ (0 : R)) = 0 := by decide
  have e3 : ∀ x : R, ~~~ x ^^^ x = BitVec.allOnes 32 := fun x => by rw [BitVec.xor_comm]; exact e x
  simp only [sum, more, BitVec.not_not, e3, e]
theorem right_tears {p q : List Int} (hp : Bytes p) (hq : Bytes q) (hl : p.length = 64) (kl : q.length = 64) (hr : rightB p = true) (k : Nat) (hk : k + 4 ≤ 64) (he : ∀ i, i < k ∨ k + 4 ≤ i → p.getD i 0 = q.getD i 0) (hne : q ≠ p) : rightB q = false := by
  rw [← Bool.not_eq_true]
  intro h
  rw [right_take hp hl, decide_eq_true_eq] at hr
  rw [right_take hq kl, decide_eq_true_eq] at h
  have h1 := seal_sum (p.take 60)
  have h2 := seal_sum (q.take 60)
  rw [hr] at h1
  rw [h] at h2
  exact hne ((tears p q k (by omega) (by omega) hp hq he).1 (h1.trans h2.symm)).symm
end Go.Proofs.Ytmkkkenpjealdaa.PlainSec
