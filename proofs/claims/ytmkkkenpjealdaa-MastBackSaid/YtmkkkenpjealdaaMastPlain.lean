/- Masts and measures in plain Lean: which are right, their sectors, what is read of a sector. -/
import Derived.Test.YtmkkkenpjealdaaRecPlain
namespace Go.Proofs.Ytmkkkenpjealdaa.PlainSec
set_option linter.unusedSimpArgs false
set_option linter.unusedVariables false
open Go.RowKit Go.Proofs.YtmkkkenpjealdaaW.PrintWords Go.Proofs.YtmkkkenpjealdaaW.PrintLast Go.Proofs.YtmkkkenpjealdaaW.PrintMore PlainWord CrcPlain SecRef

structure Mast where
  foot : Bool
  gen : Int
  epoch : Int
  seq : Int
  pages : Int
  sum : Int
def mastNums (m : Mast) : Prop := 1 ≤ m.gen ∧ m.gen ≤ 1099511627776 ∧ 1 ≤ m.epoch ∧ m.epoch ≤ 1099511627776 ∧ 0 ≤ m.seq ∧ m.seq ≤ 1099511627776 ∧ 0 ≤ m.pages ∧ m.pages ≤ 4096
instance (m : Mast) : Decidable (mastNums m) := inferInstanceAs (Decidable (_ ∧ _))
def mastOk (m : Mast) : Bool := decide (mastNums m ∧ (m.foot = true ∨ m.sum = 0))
def mastMark (m : Mast) : Int := if m.foot = true then 130 else 129
def mastBody (m : Mast) : List Int := [mastMark m] ++ leI m.gen 8 ++ leI m.epoch 8 ++ leI m.seq 8 ++ leI m.pages 4 ++ leI m.sum 4
def mastLay (m : Mast) : List Int := fullL (mastBody m)
theorem mastMark_two (m : Mast) : mastMark m = 129 ∨ mastMark m = 130 := by unfold mastMark; split <;> simp
theorem mastBody_length (m : Mast) : (mastBody m).length = 33 := by
  simp only [mastBody, List.length_append, leI_length, List.length_cons, List.length_nil]
theorem mastBody_bytes (m : Mast) : Bytes (mastBody m) :=
  bytes_append (bytes_append (bytes_append (bytes_append (bytes_append (fun x hx => by simp at hx; have := mastMark_two m; omega) (leI_bytes _ _)) (leI_bytes _ _)) (leI_bytes _ _)) (leI_bytes _ _)) (leI_bytes _ _)
theorem mastLay_length (m : Mast) : (mastLay m).length = 64 := fullL_length _ (by rw [mastBody_length]; omega)
theorem mastLay_bytes (m : Mast) : Bytes (mastLay m) := fullL_bytes (mastBody_bytes m)
def mastOf (p : List Int) : Mast := ⟨p.getD 0 0 == 130, numL p 1 8, numL p 9 8, numL p 17 8, numL p 25 4, getN p 29 4⟩
def mast0 : Mast := ⟨false, 0, 0, 0, 0, 0⟩
/-- What is read, or why not. -/
def mastRead (p : List Int) : Mast × Int := if rightB p = true then (if mastOk (mastOf p) = true ∧ mastLay (mastOf p) = p then (mastOf p, 0) else (mast0, 7)) else (mast0, 8)
/-- What a mast's numbers are: 32 bits the sum. -/
def mastSum (m : Mast) : Prop := 0 ≤ m.sum ∧ m.sum ≤ 4294967295
theorem mastLay_form (m : Mast) : mastLay m = mastBody m ++ (zeros 27 ++ le (sum (mastBody m ++ zeros 27)) 4) := by
  unfold mastLay fullL sealL
  rw [mastBody_length, List.append_assoc]
theorem mastLay_mark (m : Mast) : (mastLay m).getD 0 0 = mastMark m := by rw [mastLay_form]; rfl
theorem mastOf_lay (m : Mast) (hs : mastSum m) (hr : mastOk m = true) : mastOf (mastLay m) = m := by
  obtain ⟨⟨g0, g1, e0, e1, s0, s1, p0, p1⟩, _⟩ := of_decide_eq_true hr
  obtain ⟨u0, u1⟩ := hs
  obtain ⟨t, hf⟩ : ∃ t, mastLay m = mastBody m ++ t := ⟨_, mastLay_form m⟩
  have p8 : (256 : Int) ^ 8 = 18446744073709551616 := by decide
  have p4 : (256 : Int) ^ 4 = 4294967296 := by decide
  have f0 : ((mastLay m).getD 0 0 == 130) = m.foot := by
    rw [mastLay_mark]
    unfold mastMark
    cases m.foot <;> rfl
  have f1 : numL (mastLay m) 1 8 = m.gen := numL_at _ [mastMark m] (leI m.epoch 8 ++ leI m.seq 8 ++ leI m.pages 4 ++ leI m.sum 4 ++ t) 8 _ (by rw [hf]; simp [mastBody]) (by omega) (by omega) (by omega) 1 (by simp)
  have f2 : numL (mastLay m) 9 8 = m.epoch := numL_at _ ([mastMark m] ++ leI m.gen 8) (leI m.seq 8 ++ leI m.pages 4 ++ leI m.sum 4 ++ t) 8 _ (by rw [hf]; simp [mastBody]) (by omega) (by omega) (by omega) 9 (by simp [leI_length])
  have f3 : numL (mastLay m) 17 8 = m.seq := numL_at _ ([mastMark m] ++ leI m.gen 8 ++ leI m.epoch 8) (leI m.pages 4 ++ leI m.sum 4 ++ t) 8 _ (by rw [hf]; simp [mastBody]) (by omega) (by omega) (by omega) 17 (by simp [leI_length])
  have f4 : numL (mastLay m) 25 4 = m.pages := numL_at _ ([mastMark m] ++ leI m.gen 8 ++ leI m.epoch 8 ++ leI m.seq 8) (leI m.sum 4 ++ t) 4 _ (by rw [hf]; simp [mastBody]) (by omega) (by omega) (by omega) 25 (by simp [leI_length])
  have f5 : getN (mastLay m) 29 4 = m.sum := by
    have e : mastLay m = ([mastMark m] ++ leI m.gen 8 ++ leI m.epoch 8 ++ leI m.seq 8 ++ leI m.pages 4) ++ leI m.sum 4 ++ t := by rw [hf]; rfl
    rw [e]
    exact getN_mid _ t 4 _ (by omega) (by omega) 29 (by simp [leI_length])
  unfold mastOf
  rw [f0, f1, f2, f3, f4, f5]
theorem mastLay_right (m : Mast) : rightB (mastLay m) = true := right_seal _ (bytes_append (mastBody_bytes m) (zeros_bytes _))
theorem mastRead_lay (m : Mast) (hs : mastSum m) (hr : mastOk m = true) : mastRead (mastLay m) = (m, 0) := by
  unfold mastRead
  rw [if_pos (mastLay_right m), mastOf_lay m hs hr, if_pos ⟨hr, rfl⟩]
theorem mastLay_inj {m n : Mast} (hs : mastSum m) (ks : mastSum n) (hr : mastOk m = true) (kr : mastOk n = true) (e : mastLay m = mastLay n) : m = n := by
  rw [← mastOf_lay m hs hr, ← mastOf_lay n ks kr, e]
theorem mastOf_sum {p : List Int} (hp : Bytes p) : mastSum (mastOf p) := by
  have := getN_bound hp 29 4
  have p4 : (256 : Int) ^ 4 = 4294967296 := by decide
  exact ⟨this.1, by show getN p 29 4 ≤ _; omega⟩
theorem mastRead_ok {p : List Int} (h : (mastRead p).2 = 0) : mastOk (mastRead p).1 = true ∧ mastLay (mastRead p).1 = p := by
  unfold mastRead at h ⊢
  split
  · rename_i h1
    rw [if_pos h1] at h
    split
    · rename_i h2; exact h2
    · rename_i h2; rw [if_neg h2] at h; exact absurd h (by decide)
  · rename_i h1
    rw [if_neg h1] at h
    exact absurd h (by decide)
theorem getN_at' (l a c : List Int) (n : Nat) (x : Int) (hl : l = a ++ leI x n ++ c) (h0 : 0 ≤ x) (h1 : x < 256 ^ n) (i : Int) (hi : i = a.length) : getN l i n = x := by rw [hl]; exact getN_mid a c n x h0 h1 i hi
/-! ### measures -/
structure Geom where
  conv : Int
  soft : Int
  seq : Int
  size : Int
  opn : Int
def geomBlocks (g : Geom) : Int := min ((g.seq - 5) * (g.size / 2)) 4096
def geomPages (g : Geom) : Int := (geomBlocks g + 9) / 10
def geomShape (g : Geom) : Prop := 2 ≤ g.conv ∧ g.conv ≤ 64 ∧ 6 ≤ g.seq ∧ g.seq ≤ 64 ∧ g.conv + g.seq ≤ 64 ∧ 8 ≤ g.size ∧ g.size ≤ 256 ∧ 3 ≤ g.opn ∧ g.soft ≤ 65536
instance (g : Geom) : Decidable (geomShape g) := inferInstanceAs (Decidable (_ ∧ _))
def geomOk (g : Geom) : Bool := decide (geomShape g ∧ geomPages g + 3 ≤ g.soft)
theorem geomPages_bound {g : Geom} (h : geomShape g) : 0 ≤ geomBlocks g ∧ geomBlocks g ≤ 4096 ∧ 0 ≤ geomPages g ∧ geomPages g ≤ 410 := by
  obtain ⟨_, _, a, b, _, c, d, _⟩ := h
  have h0 : 0 ≤ (g.seq - 5) * (g.size / 2) := Int.mul_nonneg (by omega) (by omega)
  unfold geomPages geomBlocks
  omega
def geomBody (g : Geom) : List Int := [131] ++ leI g.conv 4 ++ leI g.soft 4 ++ leI g.seq 4 ++ leI g.size 4 ++ leI g.opn 4
def geomLay (g : Geom) : List Int := fullL (geomBody g)
theorem geomBody_length (g : Geom) : (geomBody g).length = 21 := by
  simp only [geomBody, List.length_append, leI_length, List.length_cons, List.length_nil]
theorem geomBody_bytes (g : Geom) : Bytes (geomBody g) :=
  bytes_append (bytes_append (bytes_append (bytes_append (bytes_append (fun x hx => by simp at hx; omega) (leI_bytes _ _)) (leI_bytes _ _)) (leI_bytes _ _)) (leI_bytes _ _)) (leI_bytes _ _)
theorem geomLay_length (g : Geom) : (geomLay g).length = 64 := fullL_length _ (by rw [geomBody_length]; omega)
theorem geomLay_bytes (g : Geom) : Bytes (geomLay g) := fullL_bytes (geomBody_bytes g)
/-- A number of 32 bits, its highest bit the sign. -/
def s32 (x : Int) : Int := if x < 2147483648 then x else x - 4294967296
def geomOf (p : List Int) : Geom := ⟨s32 (getN p 1 4), s32 (getN p 5 4), s32 (getN p 9 4), s32 (getN p 13 4), s32 (getN p 17 4)⟩
def geom0 : Geom := ⟨0, 0, 0, 0, 0⟩
def geomRead (p : List Int) : Geom × Int := if rightB p = true then (if geomOk (geomOf p) = true ∧ geomLay (geomOf p) = p then (geomOf p, 0) else (geom0, 7)) else (geom0, 8)
/-- Right, and its last number has room in 32 bits with a sign. -/
def geomFits (g : Geom) : Prop := geomOk g = true ∧ g.opn ≤ 2147483647
theorem geomFits_small {g : Geom} (h : geomFits g) : (2 ≤ g.conv ∧ g.conv ≤ 64) ∧ (3 ≤ g.soft ∧ g.soft ≤ 65536) ∧ (6 ≤ g.seq ∧ g.seq ≤ 64) ∧ (8 ≤ g.size ∧ g.size ≤ 256) ∧ (3 ≤ g.opn ∧ g.opn ≤ 2147483647) := by
  obtain ⟨h1, h2⟩ := h
  obtain ⟨hs, hp⟩ := of_decide_eq_true h1
  have hb := geomPages_bound hs
  obtain ⟨a, b, c, d, e, f, k, l, m⟩ := hs
  omega
theorem geomLay_form (g : Geom) : geomLay g = geomBody g ++ (zeros 39 ++ le (sum (geomBody g ++ zeros 39)) 4) := by
  unfold geomLay fullL sealL
  rw [geomBody_length, List.append_assoc]
theorem geomLay_mark (g : Geom) : (geomLay g).getD 0 0 = 131 := by rw [geomLay_form]; rfl
theorem geomGet_lay (g : Geom) (h : geomFits g) : getN (geomLay g) 1 4 = g.conv ∧ getN (geomLay g) 5 4 = g.soft ∧ getN (geomLay g) 9 4 = g.seq ∧ getN (geomLay g) 13 4 = g.size ∧ getN (geomLay g) 17 4 = g.opn := by
  obtain ⟨⟨a0, a1⟩, ⟨b0, b1⟩, ⟨c0, c1⟩, ⟨d0, d1⟩, ⟨e0, e1⟩⟩ := geomFits_small h
  obtain ⟨t, hf⟩ : ∃ t, geomLay g = geomBody g ++ t := ⟨_, geomLay_form g⟩
  have p4 : (256 : Int) ^ 4 = 4294967296 := by decide
  refine ⟨?_, ?_, ?_, ?_, ?_⟩
  · exact getN_at' _ [131] (leI g.soft 4 ++ leI g.seq 4 ++ leI g.size 4 ++ leI g.opn 4 ++ t) 4 _ (by rw [hf]; simp [geomBody]) (by omega) (by omega) 1 (by simp)
  · exact getN_at' _ ([131] ++ leI g.conv 4) (leI g.seq 4 ++ leI g.size 4 ++ leI g.opn 4 ++ t) 4 _ (by rw [hf]; simp [geomBody]) (by omega) (by omega) 5 (by simp [leI_length])
  · exact getN_at' _ ([131] ++ leI g.conv 4 ++ leI g.soft 4) (leI g.size 4 ++ leI g.opn 4 ++ t) 4 _ (by rw [hf]; simp [geomBody]) (by omega) (by omega) 9 (by simp [leI_length])
  · exact getN_at' _ ([131] ++ leI g.conv 4 ++ leI g.soft 4 ++ leI g.seq 4) (leI g.opn 4 ++ t) 4 _ (by rw [hf]; simp [geomBody]) (by omega) (by omega) 13 (by simp [leI_length])
  · exact getN_at' _ ([131] ++ leI g.conv 4 ++ leI g.soft 4 ++ leI g.seq 4 ++ leI g.size 4) t 4 _ (by rw [hf]; simp [geomBody]) (by omega) (by omega) 17 (by simp [leI_length])
theorem geomOf_lay (g : Geom) (h : geomFits g) : geomOf (geomLay g) = g := by
  obtain ⟨⟨a0, a1⟩, ⟨b0, b1⟩, ⟨c0, c1⟩, ⟨d0, d1⟩, ⟨e0, e1⟩⟩ := geomFits_small h
  obtain ⟨h1, h2, h3, h4, h5⟩ := geomGet_lay g h
  unfold geomOf s32
  rw [h1, h2, h3, h4, h5, if_pos (by omega), if_pos (by omega), if_pos (by omega), if_pos (by omega), if_pos (by omega)]
theorem geomLay_right (g : Geom) : rightB (geomLay g) = true := right_seal _ (bytes_append (geomBody_bytes g) (zeros_bytes _))
theorem geomRead_lay (g : Geom) (h : geomFits g) : geomRead (geomLay g) = (g, 0) := by
  unfold geomRead
  rw [if_pos (geomLay_right g), geomOf_lay g h, if_pos ⟨h.1, rfl⟩]
theorem s32_bound {p : List Int} (hp : Bytes p) (a : Int) : s32 (getN p a 4) ≤ 2147483647 ∧ -2147483648 ≤ s32 (getN p a 4) := by
  have h := getN_bound hp a 4
  have p4 : (256 : Int) ^ 4 = 4294967296 := by decide
  unfold s32
  split <;> omega
theorem geomOf_fits {p : List Int} (hp : Bytes p) (h : geomOk (geomOf p) = true) : geomFits (geomOf p) := ⟨h, (s32_bound hp 17).1⟩
theorem geomRead_ok {p : List Int} (hp : Bytes p) (h : (geomRead p).2 = 0) : geomFits (geomRead p).1 ∧ geomLay (geomRead p).1 = p := by
  unfold geomRead at h ⊢
  split
  · rename_i h1
    rw [if_pos h1] at h
    split
    · rename_i h2; exact ⟨geomOf_fits hp h2.1, h2.2⟩
    · rename_i h2; rw [if_neg h2] at h; exact absurd h (by decide)
  · rename_i h1
    rw [if_neg h1] at h
    exact absurd h (by decide)
/-- What the reference reads. -/
def refGeomOf (p : List Int) : Geom := ⟨getN p 1 4, getN p 5 4, getN p 9 4, getN p 13 4, getN p 17 4⟩
theorem s32_same {x : Int} (h : 0 ≤ s32 x) (h0 : x < 4294967296) : s32 x = x := by
  unfold s32 at h ⊢
  split
  · rfl
  · rename_i h2; rw [if_neg h2] at h; omega
theorem geom_ref (p : List Int) (hp : Bytes p) : (geomOk (geomOf p) = true ∧ geomLay (geomOf p) = p) ↔ (geomFits (refGeomOf p) ∧ geomLay (refGeomOf p) = p) := by
  have p4 : (256 : Int) ^ 4 = 4294967296 := by decide
  have hb : ∀ a, 0 ≤ getN p a 4 ∧ getN p a 4 < 4294967296 := fun a => by have := getN_bound hp a 4; omega
  constructor
  · rintro ⟨h1, h2⟩
    have hf := geomOf_fits hp h1
    obtain ⟨⟨a0, a1⟩, ⟨b0, b1⟩, ⟨c0, c1⟩, ⟨d0, d1⟩, ⟨e0, e1⟩⟩ := geomFits_small hf
    have e : refGeomOf p = geomOf p := by
      unfold refGeomOf geomOf
      rw [s32_same (x := getN p 1 4) (by show 0 ≤ (geomOf p).conv; omega) (hb 1).2, s32_same (x := getN p 5 4) (by show 0 ≤ (geomOf p).soft; omega) (hb 5).2, s32_same (x := getN p 9 4) (by show 0 ≤ (geomOf p).seq; omega) (hb 9).2, s32_same (x := getN p 13 4) (by show 0 ≤ (geomOf p).size; omega) (hb 13).2, s32_same (x := getN p 17 4) (by show 0 ≤ (geomOf p).opn; omega) (hb 17).2]
    rw [e]
    exact ⟨hf, h2⟩
  · rintro ⟨h1, h2⟩
    obtain ⟨⟨a0, a1⟩, ⟨b0, b1⟩, ⟨c0, c1⟩, ⟨d0, d1⟩, ⟨e0, e1⟩⟩ := geomFits_small h1
    have g1 : (refGeomOf p).conv = getN p 1 4 := rfl
    have g2 : (refGeomOf p).soft = getN p 5 4 := rfl
    have g3 : (refGeomOf p).seq = getN p 9 4 := rfl
    have g4 : (refGeomOf p).size = getN p 13 4 := rfl
    have g5 : (refGeomOf p).opn = getN p 17 4 := rfl
    have e : geomOf p = refGeomOf p := by
      unfold refGeomOf geomOf s32
      rw [if_pos (by omega), if_pos (by omega), if_pos (by omega), if_pos (by omega), if_pos (by omega)]
    rw [e]
    exact ⟨h1.1, h2⟩
theorem geomLay_inj {g h : Geom} (hg : geomFits g) (hh : geomFits h) (e : geomLay g = geomLay h) : g = h := by
  rw [← geomOf_lay g hg, ← geomOf_lay h hh, e]
end Go.Proofs.Ytmkkkenpjealdaa.PlainSec
