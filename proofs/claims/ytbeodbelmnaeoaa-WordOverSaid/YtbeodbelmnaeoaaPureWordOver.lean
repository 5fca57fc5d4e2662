/- What is proved: two numbers beside one another do not touch one another, for every input. Conditions: none beyond the statement's own. -/
import Derived.Test.YtbeodbelmnaeoaaPWordOverx2
import Derived.Test.YtbeodbelmnaeoaaPlainWord
import Derived.Test.YtbeodbelmnaeoaaWSized
namespace Go.Proofs.Ytbeodbelmnaeoaa.Pure
open Go.RowKit Go.Proofs.Ytbeodbelmnaeoaa.PWordOver Go.Proofs.YtbeodbelmnaeoaaW.PrintWords Go.Proofs.YtbeodbelmnaeoaaW.PrintLast Go.Proofs.YtbeodbelmnaeoaaW.PrintMore Go.Proofs.Ytbeodbelmnaeoaa.PlainWord

theorem fits_eq (l : List Int) (a n : Int) (hl : l.length ≤ 140737488351232) : word_fits.f l a n = some (decide (Fit l a n)) := by
  unfold word_fits.f
  by_cases h1 : n ≥ 1
  · by_cases h2 : n ≤ 8
    · by_cases h3 : a ≥ 0
      · rw [if_pos h1, if_pos h2, if_pos h3, wrap64_in _ (by omega) (by omega)]
        congr 1
        rw [Bool.eq_iff_iff, decide_eq_true_eq, decide_eq_true_eq]; unfold Fit; omega
      · rw [if_pos h1, if_pos h2, if_neg h3]; congr 1; symm; rw [decide_eq_false_iff_not]; unfold Fit; omega
    · rw [if_pos h1, if_neg h2]; congr 1; symm; rw [decide_eq_false_iff_not]; unfold Fit; omega
  · rw [if_neg h1]; congr 1; symm; rw [decide_eq_false_iff_not]; unfold Fit; omega

theorem put_l (d : Nat) : ∀ (k : Nat) (l : List Int) (a x n i : Int), 0 ≤ i → i ≤ n → n ≤ 8 → 0 ≤ a → a + n ≤ l.length → l.length ≤ 140737488351232 → n - i = d → d < k →
    ∃ r, word_Put.l0 k l a x n i = some (true, r) ∧ r.length = l.length ∧ ∀ j : Nat, j < l.length → r.getD j 0 = if a + i ≤ (j : Int) ∧ (j : Int) < a + n then x / 256 ^ ((j : Int) - a).toNat % 256 else l.getD j 0 := by
  induction d with
  | zero =>
    intro k l a x n i h0 h1 h2 h3 h4 h5 hd hk
    obtain ⟨k, rfl⟩ : ∃ m, k = m + 1 := ⟨k - 1, by omega⟩
    refine ⟨l, ?_, rfl, fun j hj => ?_⟩
    · simp only [word_Put.l0]; rw [if_neg (by omega)]
    · rw [if_neg (by omega)]
  | succ d ih =>
    intro k l a x n i h0 h1 h2 h3 h4 h5 hd hk
    obtain ⟨k, rfl⟩ : ∃ m, k = m + 1 := ⟨k - 1, by omega⟩
    have e1 := eight i h0 (by omega)
    have e2 : wrap64 (a + i) = a + i := wrap64_in _ (by omega) (by omega)
    have e3 : wrap64 (i + 1) = i + 1 := wrap64_in _ (by omega) (by omega)
    obtain ⟨r, hr, hrl, hg⟩ := ih k (l.set (a + i).toNat (x / 256 ^ i.toNat % 256)) a x n (i + 1) (by omega) (by omega) h2 h3 (by rw [List.length_set]; omega) (by rw [List.length_set]; omega) (by omega) (by omega)
    rw [List.length_set] at hrl hg
    refine ⟨r, ?_, hrl, fun j hj => ?_⟩
    · simp only [word_Put.l0]
      rw [e1, e2, e3, if_pos (by omega), if_pos (by omega), if_pos (by omega), if_pos (by omega), shr_byte x i h0 (by omega)]
      exact hr
    · rw [hg j hj, getD_set _ _ _ _ (by omega)]
      by_cases hji : (j : Int) = a + i
      · rw [if_neg (by omega), if_pos (by omega), if_pos (by omega)]
        have : ((j : Int) - a).toNat = i.toNat := by omega
        rw [this]
      · by_cases hc : a + (i + 1) ≤ (j : Int) ∧ (j : Int) < a + n
        · rw [if_pos hc, if_pos (by omega)]
        · rw [if_neg hc, if_neg (by omega), if_neg (by omega)]
theorem put_eq (k : Nat) (hk : 8 < k) (l : List Int) (a n x : Int) (hl : l.length ≤ 140737488351232) :
    word_Put.f k l a n x = some (if Fit l a n then (true, putL l a n x) else (false, l)) := by
  unfold word_Put.f
  rw [fits_eq l a n hl]
  simp only [Option.bind_some, decide_eq_true_eq]
  by_cases h : Fit l a n
  · rw [if_pos h, if_pos h]
    obtain ⟨h1, h2, h3, h4⟩ := h
    obtain ⟨r, hr, hrl, hg⟩ := put_l n.toNat k l a x n 0 (by omega) (by omega) h2 h3 h4 hl (by omega) (by omega)
    rw [hr]
    have : r = putL l a n x := ext_getD (by rw [hrl, putL_length]) (fun j hj => by rw [hg j (by omega), putL_getD _ _ _ _ _ (by omega), Int.add_zero])
    rw [this]
  · rw [if_neg h, if_neg h]
theorem put_fit (k : Nat) (hk : 8 < k) (l : List Int) (a n x : Int) (hl : l.length ≤ 140737488351232) (h : Fit l a n) : word_Put.f k l a n x = some (true, putL l a n x) := by rw [put_eq k hk l a n x hl, if_pos h]

theorem get_l (d : Nat) : ∀ (k : Nat) (l : List Int) (a x n i : Int), Bytes l → 0 ≤ i → i ≤ n → n ≤ 8 → 0 ≤ a → a + n ≤ l.length → l.length ≤ 140737488351232 → n - i = d → d < k → x = getN l a i.toNat →
    word_Get.l0 k l a x n i = some (getN l a n.toNat, true) := by
  induction d with
  | zero =>
    intro k l a x n i hb h0 h1 h2 h3 h4 h5 hd hk hx
    obtain ⟨k, rfl⟩ : ∃ m, k = m + 1 := ⟨k - 1, by omega⟩
    obtain rfl : i = n := by omega
    simp only [word_Get.l0]; rw [if_neg (by omega), hx]
  | succ d ih =>
    intro k l a x n i hb h0 h1 h2 h3 h4 h5 hd hk hx
    obtain ⟨k, rfl⟩ : ∃ m, k = m + 1 := ⟨k - 1, by omega⟩
    have e1 := eight i h0 (by omega)
    have e2 : wrap64 (a + i) = a + i := wrap64_in _ (by omega) (by omega)
    have e3 : wrap64 (i + 1) = i + 1 := wrap64_in _ (by omega) (by omega)
    have hc : 0 ≤ rd l (a + i) ∧ rd l (a + i) ≤ 255 := hb.getD (a + i).toNat
    have hbd := getN_bound hb a i.toNat
    have e4 : IntKind.u64.wrap (rd l (a + i)) = rd l (a + i) := wrapu _ hc.1 (by omega)
    have e5 : (i + 1).toNat = i.toNat + 1 := by omega
    simp only [word_Get.l0]
    rw [e1, e2, e3, e4, if_pos (by omega), if_pos (by omega), if_pos (by omega), if_pos (by omega), shl_byte _ i h0 (by omega) hc.1 (by omega), hx]
    rw [or_join _ _ _ (by omega) hbd.1 hbd.2 hc.1 hc.2]
    refine ih k l a _ n (i + 1) hb (by omega) (by omega) h2 h3 h4 h5 (by omega) (by omega) ?_
    rw [e5]; simp only [getN]
    have : (i.toNat : Int) = i := by omega
    rw [this]
theorem get_eq (k : Nat) (hk : 8 < k) (l : List Int) (a n : Int) (hb : Bytes l) (hl : l.length ≤ 140737488351232) :
    word_Get.f k l a n = some (if Fit l a n then (getN l a n.toNat, true) else (0, false)) := by
  unfold word_Get.f
  rw [fits_eq l a n hl]
  simp only [Option.bind_some, decide_eq_true_eq]
  by_cases h : Fit l a n
  · rw [if_pos h, if_pos h]
    obtain ⟨h1, h2, h3, h4⟩ := h
    exact get_l n.toNat k l a 0 n 0 hb (by omega) (by omega) h2 h3 h4 hl (by omega) (by omega) rfl
  · rw [if_neg h, if_neg h]
theorem get_fit (k : Nat) (hk : 8 < k) (l : List Int) (a n : Int) (hb : Bytes l) (hl : l.length ≤ 140737488351232) (h : Fit l a n) : word_Get.f k l a n = some (getN l a n.toNat, true) := by rw [get_eq k hk l a n hb hl, if_pos h]

theorem cut_eq (x n : Int) (_hn0 : -9223372036854775808 ≤ n) (_hn1 : n ≤ 9223372036854775807) : word_Cut.f x n = some (cutI x n) := by
  unfold word_Cut.f cutI
  by_cases h1 : n < 1
  · rw [if_pos h1, if_pos h1]
  · by_cases h2 : n > 7
    · rw [if_neg h1, if_pos h2, if_neg h1, if_pos h2]
    · rw [if_neg h1, if_neg h2, if_neg h1, if_neg h2, eight n (by omega) (by omega), wrapu (64 - 8 * n) (by omega) (by omega), if_pos (by omega), shl_shr x n (by omega) (by omega)]

theorem awake10 : windrowlaw01_awake.f 10 = some true := by decide +kernel
theorem awake_eq (k : Nat) (hk : 10 ≤ k) : windrowlaw01_awake.f k = some true := at_rounds (fun k => windrowlaw01_awake.mono k) hk awake10

theorem reffits_eq (l : List Int) (a n : Int) (hl : l.length ≤ 140737488351232) : windrowref01_Fits.f l a n = some (decide (Fit l a n)) := by
  unfold windrowref01_Fits.f
  by_cases h1 : n < 1
  · rw [if_pos h1]; congr 1; symm; rw [decide_eq_false_iff_not]; unfold Fit; omega
  · by_cases h2 : n > 8
    · rw [if_neg h1, if_pos h2]; congr 1; symm; rw [decide_eq_false_iff_not]; unfold Fit; omega
    · by_cases h3 : a < 0
      · rw [if_neg h1, if_neg h2, if_pos h3]; congr 1; symm; rw [decide_eq_false_iff_not]; unfold Fit; omega
      · by_cases h4 : a > l.length
        · rw [if_neg h1, if_neg h2, if_neg h3, if_pos h4]; congr 1; symm; rw [decide_eq_false_iff_not]; unfold Fit; omega
        · rw [if_neg h1, if_neg h2, if_neg h3, if_neg h4, wrap64_in _ (by omega) (by omega)]
          congr 1
          rw [Bool.eq_iff_iff, decide_eq_true_eq, decide_eq_true_eq]; unfold Fit; omega

theorem same_l (d : Nat) : ∀ (k : Nat) (l m : List Int) (i : Int), l.length = m.length → 0 ≤ i → i ≤ l.length → l.length ≤ 140737488351232 → (l.length : Int) - i = d → d < k →
    ∃ r, windrowref01_Same.l0 k l m i = some r ∧ (r = true ↔ ∀ j : Nat, i ≤ (j : Int) → j < l.length → l.getD j 0 = m.getD j 0) := by
  induction d with
  | zero =>
    intro k l m i h0 h1 h2 h3 hd hk
    obtain ⟨k, rfl⟩ : ∃ m, k = m + 1 := ⟨k - 1, by omega⟩
    refine ⟨true, ?_, iff_of_true rfl (fun j _ _ => by omega)⟩
    simp only [windrowref01_Same.l0]; rw [if_neg (by omega)]
  | succ d ih =>
    intro k l m i h0 h1 h2 h3 hd hk
    obtain ⟨k, rfl⟩ : ∃ m, k = m + 1 := ⟨k - 1, by omega⟩
    have e3 : wrap64 (i + 1) = i + 1 := wrap64_in _ (by omega) (by omega)
    obtain ⟨r, hr, hi⟩ := ih k l m (i + 1) h0 (by omega) (by omega) h3 (by omega) (by omega)
    by_cases hc : rd l i = rd m i
    · refine ⟨r, ?_, hi.trans ⟨fun h j h4 h5 => ?_, fun h j h4 h5 => h j (by omega) h5⟩⟩
      · simp only [windrowref01_Same.l0]; rw [if_pos (by omega), if_pos (by omega), if_pos (by omega), if_pos hc, e3]; exact hr
      · by_cases hj : (j : Int) = i
        · have : i.toNat = j := by omega
          rw [rd_nat, rd_nat, this] at hc; exact hc
        · exact h j (by omega) h5
    · refine ⟨false, ?_, iff_of_false (by simp) (fun h => hc ?_)⟩
      · simp only [windrowref01_Same.l0]; rw [if_pos (by omega), if_pos (by omega), if_pos (by omega), if_neg hc]
      · exact h i.toNat (by omega) (by omega)
theorem same_eq (k : Nat) (l m : List Int) (hk : l.length < k) (hl : l.length ≤ 140737488351232) : windrowref01_Same.f k l m = some (decide (l = m)) := by
  unfold windrowref01_Same.f
  by_cases h : l.length = m.length
  · rw [if_pos (by omega)]
    obtain ⟨r, hr, hi⟩ := same_l l.length k l m 0 h (by omega) (by omega) hl (by omega) hk
    rw [hr]
    congr 1
    rw [Bool.eq_iff_iff, hi, decide_eq_true_eq]
    exact ⟨fun hh => ext_getD h (fun j hj => hh j (by omega) hj), fun e j _ _ => by rw [e]⟩
  · rw [if_neg (by omega)]
    simp only [Option.some.injEq]
    exact (decide_eq_false (fun e => h (by rw [e]))).symm

theorem WordOver : windrowlaw01_WordOver.Pure := by
  intro l p q x y hl0 hl hw hp hq hx hy
  have hb := Bytes.of_wf hw
  have hxb := bounds_u64 hx
  have hyb := bounds_u64 hy
  have hpb := bounds_u8 hp
  have hqb := bounds_u8 hq
  have hl' : l.length ≤ 140737488351232 := by omega
  obtain ⟨n, hn⟩ : ∃ n, n = 1 + p % 8 := ⟨_, rfl⟩
  obtain ⟨m, hm⟩ : ∃ n, n = 1 + q % 8 := ⟨_, rfl⟩
  have e1 : wrap64 (1 + wrap64 (Int.tmod p 8)) = n := by rw [Int.tmod_eq_emod_of_nonneg hpb.1, wrap64_in (p % 8) (by omega) (by omega), wrap64_in _ (by omega) (by omega), hn]
  have e2 : wrap64 (1 + wrap64 (Int.tmod q 8)) = m := by rw [Int.tmod_eq_emod_of_nonneg hqb.1, wrap64_in (q % 8) (by omega) (by omega), wrap64_in _ (by omega) (by omega), hm]
  refine ⟨2001, ?_⟩
  unfold windrowlaw01_WordOver.f
  rw [awake_eq 2001 (by decide), e1, e2]
  simp only [Option.bind_some, if_true, windrowlaw01_WordOver.j0]
  by_cases h : (l.length : Int) > 1000
  · rw [if_pos h, awake_eq 2000 (by decide)]; rfl
  · rw [if_neg h, reffits_eq l 0 n hl', Option.bind_some]
    by_cases hf : Fit l 0 n
    · rw [if_pos (by simpa using hf), reffits_eq l n m hl', Option.bind_some]
      by_cases hg : Fit l n m
      · rw [if_neg (by simpa using hg)]
        simp only [List.nil_append, List.length_nil, Nat.zero_add]
        have hla : ∀ a n x, (putL l a n x).length ≤ 140737488351232 := fun a n x => by rw [putL_length]; exact hl'
        have hlb : ∀ a n x b m y, (putL (putL l a n x) b m y).length ≤ 140737488351232 := fun a n x b m y => by rw [putL_length, putL_length]; exact hl'
        have fit1 : ∀ a n x b m, Fit l b m → Fit (putL l a n x) b m := fun a n x b m h => by unfold Fit; rw [putL_length]; exact h
        have fit2 : ∀ a n x a' n' x' b m, Fit l b m → Fit (putL (putL l a n x) a' n' x') b m := fun a n x a' n' x' b m h => by unfold Fit; rw [putL_length, putL_length]; exact h
        rw [if_pos (by omega), if_pos (by omega), put_fit 2000 (by decide) l 0 n x hl' hf, Option.bind_some, put_fit 2000 (by decide) _ n m y (hla _ _ _) (fit1 _ _ _ _ _ hg), Option.bind_some,
          put_fit 2000 (by decide) l n m y hl' hg, Option.bind_some, put_fit 2000 (by decide) _ 0 n x (hla _ _ _) (fit1 _ _ _ _ _ hf), Option.bind_some]
        have hbb : Bytes (putL (putL l 0 n x) n m y) := putL_bytes (putL_bytes hb _ _ _) _ _ _
        rw [get_fit 2000 (by decide) _ 0 n hbb (hlb _ _ _ _ _ _) (fit2 _ _ _ _ _ _ _ _ hf), Option.bind_some, get_fit 2000 (by decide) _ n m hbb (hlb _ _ _ _ _ _) (fit2 _ _ _ _ _ _ _ _ hg), Option.bind_some]
        have epp : putL (putL l 0 n x) n m y = putL (putL l n m y) 0 n x := by
          have := put_put l 0 n m x y
          rw [Int.zero_add] at this; exact this
        simp only [if_true]
        rw [same_eq 2000 _ _ (by rw [putL_length, putL_length]; omega) (hlb _ _ _ _ _ _), Option.bind_some, if_pos (by simpa using epp), cut_eq x n (by omega) (by omega), Option.bind_some, cut_eq y m (by omega) (by omega)]
        have en : (n.toNat : Int) = n := by omega
        have em : (m.toNat : Int) = m := by omega
        have g1 : getN (putL (putL l 0 n x) n m y) 0 n.toNat = cutI x n := by
          rw [epp, cutI_mod x n (by omega) (by omega) hxb.1 (by omega)]
          have := getN_put (putL l n m y) 0 x n.toNat (by omega) (by rw [putL_length]; have := hf.2.2.2
                                                                     omega) n.toNat (Nat.le_refl _)
          rw [en] at this; exact this
        have g2 : getN (putL (putL l 0 n x) n m y) n m.toNat = cutI y m := by
          rw [cutI_mod y m (by omega) (by omega) hyb.1 (by omega)]
          have := getN_put (putL l 0 n x) n y m.toNat (by omega) (by rw [putL_length]; have := hg.2.2.2
                                                                     omega) m.toNat (Nat.le_refl _)
          rw [em] at this; exact this
        rw [if_pos g1, Option.bind_some, g2]
        simp
      · rw [if_pos (by simpa using hg), awake_eq 2000 (by decide)]; rfl
    · rw [if_neg (by simpa using hf), awake_eq 2000 (by decide)]; rfl

end Go.Proofs.Ytbeodbelmnaeoaa.Pure

/- The row names this word without its seat's own prefix: the same word, under that name. -/
namespace Go.Proofs.Ytbeodbelmnaeoaa.PrintWords
open Go.ChangeShapes Go.WideShapes
theorem sized_ints {H : Type} {enc : TypeId × Value → H} {P : Program} {W : World} {base : Nat} {spare : Nat → Bool} {held : Bool} {t e : TypeId} {k : IntKind} {a : Option Addr} {len cap : Nat} {d : DataW H} {ps : List MemPlace} {ts : List TypeId} {ds : List (DataW H)} {j : Nat}
    (hsz : (DataW.weightsEach P ts ds).all (· ≤ reachBytes) = true) (ht : ts[j]? = some t) (hd : ds[j]? = some d) (hu : P.underlying t = some (.slice e)) (he : P.underlying e = some (.int k)) (hc : P.cellsOf e = 1) {B : Nat} (hB : P.bytesOf e = B)
    (h : DataW.Trod enc P W base spare held t (.slice a len cap) d ps) : len * B ≤ 140737488351232 :=
  Go.Proofs.YtbeodbelmnaeoaaW.PrintWords.sized_ints hsz ht hd hu he hc hB h
end Go.Proofs.Ytbeodbelmnaeoaa.PrintWords
