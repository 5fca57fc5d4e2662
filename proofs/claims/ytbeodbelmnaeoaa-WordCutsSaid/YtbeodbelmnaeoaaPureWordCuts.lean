/- What is proved: the program cuts numbers as the reference does, for every input. Conditions: none beyond the statement's own. -/
import Derived.Test.YtbeodbelmnaeoaaPWordCutsx1
import Derived.Test.YtbeodbelmnaeoaaPlainWord
namespace Go.Proofs.Ytbeodbelmnaeoaa.Pure
open Go.RowKit Go.Proofs.Ytbeodbelmnaeoaa.PWordCuts Go.Proofs.YtbeodbelmnaeoaaW.PrintWords Go.Proofs.YtbeodbelmnaeoaaW.PrintLast Go.Proofs.YtbeodbelmnaeoaaW.PrintMore Go.Proofs.Ytbeodbelmnaeoaa.PlainWord

theorem fits_eq (l : List Int) (a n : Int) (hl : l.length ≤ 140737488351232) : word_fits.f l a n = some (decide (Fit l a n)) := by
  unfold word_fits.f
  by_cases h1 : n ≥ 1
  · by_cases h2 : n ≤ 8
    · by_cases h3 : a ≥ 0
      · rw [if_pos h1, if_pos h2, if_pos h3, wrap64_in _ (by omega) (by omega)]
        congr 1
        rw [Bool.eq_iff_iff, decide_eq_true_eq, decide_eq_true_eq]; unfold Fit; omega
      · rw [if_pos h1, if_pos h2, if_neg h3]; congr 1; symm; rw [decide_eq_false_iff_not]; unfold Fit; omega
    · rw [if_pos h1, if_neg h2]; congr 1; symm; rw [decide_eq_false_iff_not]; unfold Fit; omega
  · rw [if_neg h1]; congr 1; symm; rw [decide_eq_false_iff_not]; unfold Fit; omega

theorem put_l (d : Nat) : ∀ (k : Nat) (l : List Int) (a x n i : Int), 0 ≤ i → i ≤ n → n ≤ 8 → 0 ≤ a → a + n ≤ l.length → l.length ≤ 140737488351232 → n - i = d → d < k →
    ∃ r, word_Put.l0 k l a x n i = some (true, r) ∧ r.length = l.length ∧ ∀ j : Nat, j < l.length → r.getD j 0 = if a + i ≤ (j : Int) ∧ (j : Int) < a + n then x / 256 ^ ((j : Int) - a).toNat % 256 else l.getD j 0 := by
  induction d with
  | zero =>
    intro k l a x n i h0 h1 h2 h3 h4 h5 hd hk
    obtain ⟨k, rfl⟩ : ∃ m, k = m + 1 := ⟨k - 1, by omega⟩
    refine ⟨l, ?_, rfl, fun j hj => ?_⟩
    · simp only [word_Put.l0]; rw [if_neg (by omega)]
    · rw [if_neg (by omega)]
  | succ d ih =>
    intro k l a x n i h0 h1 h2 h3 h4 h5 hd hk
    obtain ⟨k, rfl⟩ : ∃ m, k = m + 1 := ⟨k - 1, by omega⟩
    have e1 := eight i h0 (by omega)
    have e2 : wrap64 (a + i) = a + i := wrap64_in _ (by omega) (by omega)
    have e3 : wrap64 (i + 1) = i + 1 := wrap64_in _ (by omega) (by omega)
    obtain ⟨r, hr, hrl, hg⟩ := ih k (l.set (a + i).toNat (x / 256 ^ i.toNat % 256)) a x n (i + 1) (by omega) (by omega) h2 h3 (by rw [List.length_set]; omega) (by rw [List.length_set]; omega) (by omega) (by omega)
    rw [List.length_set] at hrl hg
    refine ⟨r, ?_, hrl, fun j hj => ?_⟩
    · simp only [word_Put.l0]
      rw [e1, e2, e3, if_pos (by omega), if_pos (by omega), if_pos (by omega), if_pos (by omega), shr_byte x i h0 (by omega)]
      exact hr
    · rw [hg j hj, getD_set _ _ _ _ (by omega)]
      by_cases hji : (j : Int) = a + i
      · rw [if_neg (by omega), if_pos (by omega), if_pos (by omega)]
        have : ((j : Int) - a).toNat = i.toNat := by omega
        rw [this]
      · by_cases hc : a + (i + 1) ≤ (j : Int) ∧ (j : Int) < a + n
        · rw [if_pos hc, if_pos (by omega)]
        · rw [if_neg hc, if_neg (by omega), if_neg (by omega)]
theorem put_eq (k : Nat) (hk : 8 < k) (l : List Int) (a n x : Int) (hl : l.length ≤ 140737488351232) :
    word_Put.f k l a n x = some (if Fit l a n then (true, putL l a n x) else (false, l)) := by
  unfold word_Put.f
  rw [fits_eq l a n hl]
  simp only [Option.bind_some, decide_eq_true_eq]
  by_cases h : Fit l a n
  · rw [if_pos h, if_pos h]
    obtain ⟨h1, h2, h3, h4⟩ := h
    obtain ⟨r, hr, hrl, hg⟩ := put_l n.toNat k l a x n 0 (by omega) (by omega) h2 h3 h4 hl (by omega) (by omega)
    rw [hr]
    have : r = putL l a n x := ext_getD (by rw [hrl, putL_length]) (fun j hj => by rw [hg j (by omega), putL_getD _ _ _ _ _ (by omega), Int.add_zero])
    rw [this]
  · rw [if_neg h, if_neg h]
theorem put_fit (k : Nat) (hk : 8 < k) (l : List Int) (a n x : Int) (hl : l.length ≤ 140737488351232) (h : Fit l a n) : word_Put.f k l a n x = some (true, putL l a n x) := by rw [put_eq k hk l a n x hl, if_pos h]

theorem get_l (d : Nat) : ∀ (k : Nat) (l : List Int) (a x n i : Int), Bytes l → 0 ≤ i → i ≤ n → n ≤ 8 → 0 ≤ a → a + n ≤ l.length → l.length ≤ 140737488351232 → n - i = d → d < k → x = getN l a i.toNat →
    word_Get.l0 k l a x n i = some (getN l a n.toNat, true) := by
  induction d with
  | zero =>
    intro k l a x n i hb h0 h1 h2 h3 h4 h5 hd hk hx
    obtain ⟨k, rfl⟩ : ∃ m, k = m + 1 := ⟨k - 1, by omega⟩
    obtain rfl : i = n := by omega
    simp only [word_Get.l0]; rw [if_neg (by omega), hx]
  | succ d ih =>
    intro k l a x n i hb h0 h1 h2 h3 h4 h5 hd hk hx
    obtain ⟨k, rfl⟩ : ∃ m, k = m + 1 := ⟨k - 1, by omega⟩
    have e1 := eight i h0 (by omega)
    have e2 : wrap64 (a + i) = a + i := wrap64_in _ (by omega) (by omega)
    have e3 : wrap64 (i + 1) = i + 1 := wrap64_in _ (by omega) (by omega)
    have hc : 0 ≤ rd l (a + i) ∧ rd l (a + i) ≤ 255 := hb.getD (a + i).toNat
    have hbd := getN_bound hb a i.toNat
    have e4 : IntKind.u64.wrap (rd l (a + i)) = rd l (a + i) := wrapu _ hc.1 (by omega)
    have e5 : (i + 1).toNat = i.toNat + 1 := by omega
    simp only [word_Get.l0]
    rw [e1, e2, e3, e4, if_pos (by omega), if_pos (by omega), if_pos (by omega), if_pos (by omega), shl_byte _ i h0 (by omega) hc.1 (by omega), hx]
    rw [or_join _ _ _ (by omega) hbd.1 hbd.2 hc.1 hc.2]
    refine ih k l a _ n (i + 1) hb (by omega) (by omega) h2 h3 h4 h5 (by omega) (by omega) ?_
    rw [e5]; simp only [getN]
    have : (i.toNat : Int) = i := by omega
    rw [this]
theorem get_eq (k : Nat) (hk : 8 < k) (l : List Int) (a n : Int) (hb : Bytes l) (hl : l.length ≤ 140737488351232) :
    word_Get.f k l a n = some (if Fit l a n then (getN l a n.toNat, true) else (0, false)) := by
  unfold word_Get.f
  rw [fits_eq l a n hl]
  simp only [Option.bind_some, decide_eq_true_eq]
  by_cases h : Fit l a n
  · rw [if_pos h, if_pos h]
    obtain ⟨h1, h2, h3, h4⟩ := h
    exact get_l n.toNat k l a 0 n 0 hb (by omega) (by omega) h2 h3 h4 hl (by omega) (by omega) rfl
  · rw [if_neg h, if_neg h]
theorem get_fit (k : Nat) (hk : 8 < k) (l : List Int) (a n : Int) (hb : Bytes l) (hl : l.length ≤ 140737488351232) (h : Fit l a n) : word_Get.f k l a n = some (getN l a n.toNat, true) := by rw [get_eq k hk l a n hb hl, if_pos h]

theorem cut_eq (x n : Int) (_hn0 : -9223372036854775808 ≤ n) (_hn1 : n ≤ 9223372036854775807) : word_Cut.f x n = some (cutI x n) := by
  unfold word_Cut.f cutI
  by_cases h1 : n < 1
  · rw [if_pos h1, if_pos h1]
  · by_cases h2 : n > 7
    · rw [if_neg h1, if_pos h2, if_neg h1, if_pos h2]
    · rw [if_neg h1, if_neg h2, if_neg h1, if_neg h2, eight n (by omega) (by omega), wrapu (64 - 8 * n) (by omega) (by omega), if_pos (by omega), shl_shr x n (by omega) (by omega)]

theorem awake10 : windrowlaw01_awake.f 10 = some true := by decide +kernel
theorem awake_eq (k : Nat) (hk : 10 ≤ k) : windrowlaw01_awake.f k = some true := at_rounds (fun k => windrowlaw01_awake.mono k) hk awake10

theorem refcut_l (d : Nat) : ∀ (k : Nat) (x n u i : Int), 0 ≤ x → 0 ≤ i → i ≤ n → n ≤ 7 → n - i = d → d < k → u = 256 ^ i.toNat → windrowref01_Cut.l0 k x n u i = some (x % 256 ^ n.toNat) := by
  induction d with
  | zero =>
    intro k x n u i hx h0 h1 h2 hd hk hu
    obtain ⟨k, rfl⟩ : ∃ m, k = m + 1 := ⟨k - 1, by omega⟩
    obtain rfl : i = n := by omega
    have hp := pow256_pos i.toNat
    simp only [windrowref01_Cut.l0]; rw [if_neg (by omega), if_neg (by omega), hu, Int.tmod_eq_emod_of_nonneg hx]
  | succ d ih =>
    intro k x n u i hx h0 h1 h2 hd hk hu
    obtain ⟨k, rfl⟩ : ∃ m, k = m + 1 := ⟨k - 1, by omega⟩
    have hp := pow256_pos i.toNat
    have hl := pow256_lt i.toNat (by omega)
    have e3 : wrap64 (i + 1) = i + 1 := wrap64_in _ (by omega) (by omega)
    have e5 : (i + 1).toNat = i.toNat + 1 := by omega
    have e : IntKind.u64.wrap (u * 256) = 256 ^ (i + 1).toNat := by
      rw [e5, Int.pow_succ, ← hu]
      have hl6 : (256 : Int) ^ i.toNat * 256 ≤ 72057594037927936 := by rw [← Int.pow_succ]; exact pow256_lt _ (by omega)
      exact wrapu _ (by omega) (by omega)
    simp only [windrowref01_Cut.l0]; rw [if_pos (by omega), e, e3]
    exact ih k x n _ (i + 1) hx (by omega) (by omega) h2 (by omega) (by omega) rfl
theorem refcut_eq (k : Nat) (hk : 8 < k) (x n : Int) (hx : 0 ≤ x) : windrowref01_Cut.f k x n = some (cutI x n) := by
  unfold windrowref01_Cut.f cutI
  by_cases h1 : n < 1
  · rw [if_pos h1, if_pos h1]
  · by_cases h2 : n > 7
    · rw [if_neg h1, if_pos h2, if_neg h1, if_pos h2]
    · rw [if_neg h1, if_neg h2, if_neg h1, if_neg h2]
      exact refcut_l n.toNat k x n 1 0 hx (by omega) (by omega) (by omega) (by omega) (by omega) rfl

theorem WordCuts : windrowlaw01_WordCuts.Pure := by
  intro x n hx hn
  have hb := bounds_i64 hn
  have hxb := bounds_u64 hx
  refine ⟨20, ?_⟩
  unfold windrowlaw01_WordCuts.f
  rw [awake_eq 20 (by decide)]
  simp only [Option.bind_some, if_true]
  rw [cut_eq x n hb.1 hb.2, Option.bind_some, refcut_eq 20 (by decide) x n hxb.1, Option.bind_some]
  simp

end Go.Proofs.Ytbeodbelmnaeoaa.Pure
