/- What is proved: what is laid is read as it was, and what is read is laid as it was, for every input. Conditions: none beyond the statement's own. -/
import Derived.Test.YtbeodbelmnaeoaaPWordBackx2
import Derived.Test.YtbeodbelmnaeoaaPlainWord
import Derived.Test.YtbeodbelmnaeoaaWSized
namespace Go.Proofs.Ytbeodbelmnaeoaa.Pure
open Go.RowKit Go.Proofs.Ytbeodbelmnaeoaa.PWordBack Go.Proofs.YtbeodbelmnaeoaaW.PrintWords Go.Proofs.YtbeodbelmnaeoaaW.PrintLast Go.Proofs.YtbeodbelmnaeoaaW.PrintMore Go.Proofs.Ytbeodbelmnaeoaa.PlainWord

theorem fits_eq (l : List Int) (a n : Int) (hl : l.length ≤ 140737488351232) : word_fits.f l a n = some (decide (Fit l a n)) := by
  unfold word_fits.f
  by_cases h1 : n ≥ 1
  · by_cases h2 : n ≤ 8
    · by_cases h3 : a ≥ 0
      · rw [if_pos h1, if_pos h2, if_pos h3, wrap64_in _ (by omega) (by omega)]
        congr 1
        rw [Bool.eq_iff_iff, decide_eq_true_eq, decide_eq_true_eq]; unfold Fit; omega
      · rw [if_pos h1, if_pos h2, if_neg h3]; congr 1; symm; rw [decide_eq_false_iff_not]; unfold Fit; omega
    · rw [if_pos h1, if_neg h2]; congr 1; symm; rw [decide_eq_false_iff_not]; unfold Fit; omega
  · rw [if_neg h1]; congr 1; symm; rw [decide_eq_false_iff_not]; unfold Fit; omega

theorem put_l (d : Nat) : ∀ (k : Nat) (l : List Int) (a x n i : Int), 0 ≤ i → i ≤ n → n ≤ 8 → 0 ≤ a → a + n ≤ l.length → l.length ≤ 140737488351232 → n - i = d → d < k →
    ∃ r, word_Put.l0 k l a x n i = some (true, r) ∧ r.length = l.length ∧ ∀ j : Nat, j < l.length → r.getD j 0 = if a + i ≤ (j : Int) ∧ (j : Int) < a + n then x / 256 ^ ((j : Int) - a).toNat % 256 else l.getD j 0 := by
  induction d with
  | zero =>
    intro k l a x n i h0 h1 h2 h3 h4 h5 hd hk
    obtain ⟨k, rfl⟩ : ∃ m, k = m + 1 := ⟨k - 1, by omega⟩
    refine ⟨l, ?_, rfl, fun j hj => ?_⟩
    · simp only [word_Put.l0]; rw [if_neg (by omega)]
    · rw [if_neg (by omega)]
  | succ d ih =>
    intro k l a x n i h0 h1 h2 h3 h4 h5 hd hk
    obtain ⟨k, rfl⟩ : ∃ m, k = m + 1 := ⟨k - 1, by omega⟩
    have e1 := eight i h0 (by omega)
    have e2 : wrap64 (a + i) = a + i := wrap64_in _ (by omega) (by omega)
    have e3 : wrap64 (i + 1) = i + 1 := wrap64_in _ (by omega) (by omega)
    obtain ⟨r, hr, hrl, hg⟩ := ih k (l.set (a + i).toNat (x / 256 ^ i.toNat % 256)) a x n (i + 1) (by omega) (by omega) h2 h3 (by rw [List.length_set]; omega) (by rw [List.length_set]; omega) (by omega) (by omega)
    rw [List.length_set] at hrl hg
    refine ⟨r, ?_, hrl, fun j hj => ?_⟩
    · simp only [word_Put.l0]
      rw [e1, e2, e3, if_pos (by omega), if_pos (by omega), if_pos (by omega), if_pos (by omega), shr_byte x i h0 (by omega)]
      exact hr
    · rw [hg j hj, getD_set _ _ _ _ (by omega)]
      by_cases hji : (j : Int) = a + i
      · rw [if_neg (by omega), if_pos (by omega), if_pos (by omega)]
        have : ((j : Int) - a).toNat = i.toNat := by omega
        rw [this]
      · by_cases hc : a + (i + 1) ≤ (j : Int) ∧ (j : Int) < a + n
        · rw [if_pos hc, if_pos (by omega)]
        · rw [if_neg hc, if_neg (by omega), if_neg (by omega)]
theorem put_eq (k : Nat) (hk : 8 < k) (l : List Int) (a n x : Int) (hl : l.length ≤ 140737488351232) :
    word_Put.f k l a n x = some (if Fit l a n then (true, putL l a n x) else (false, l)) := by
  unfold word_Put.f
  rw [fits_eq l a n hl]
  simp only [Option.bind_some, decide_eq_true_eq]
  by_cases h : Fit l a n
  · rw [if_pos h, if_pos h]
    obtain ⟨h1, h2, h3, h4⟩ := h
    obtain ⟨r, hr, hrl, hg⟩ := put_l n.toNat k l a x n 0 (by omega) (by omega) h2 h3 h4 hl (by omega) (by omega)
    rw [hr]
    have : r = putL l a n x := ext_getD (by rw [hrl, putL_length]) (fun j hj => by rw [hg j (by omega), putL_getD _ _ _ _ _ (by omega), Int.add_zero])
    rw [this]
  · rw [if_neg h, if_neg h]
theorem put_fit (k : Nat) (hk : 8 < k) (l : List Int) (a n x : Int) (hl : l.length ≤ 140737488351232) (h : Fit l a n) : word_Put.f k l a n x = some (true, putL l a n x) := by rw [put_eq k hk l a n x hl, if_pos h]

theorem get_l (d : Nat) : ∀ (k : Nat) (l : List Int) (a x n i : Int), Bytes l → 0 ≤ i → i ≤ n → n ≤ 8 → 0 ≤ a → a + n ≤ l.length → l.length ≤ 140737488351232 → n - i = d → d < k → x = getN l a i.toNat →
    word_Get.l0 k l a x n i = some (getN l a n.toNat, true) := by
  induction d with
  | zero =>
    intro k l a x n i hb h0 h1 h2 h3 h4 h5 hd hk hx
    obtain ⟨k, rfl⟩ : ∃ m, k = m + 1 := ⟨k - 1, by omega⟩
    obtain rfl : i = n := by omega
    simp only [word_Get.l0]; rw [if_neg (by omega), hx]
  | succ d ih =>
    intro k l a x n i hb h0 h1 h2 h3 h4 h5 hd hk hx
    obtain ⟨k, rfl⟩ : ∃ m, k = m + 1 := ⟨k - 1, by omega⟩
    have e1 := eight i h0 (by omega)
    have e2 : wrap64 (a + i) = a + i := wrap64_in _ (by omega) (by omega)
    have e3 : wrap64 (i + 1) = i + 1 := wrap64_in _ (by omega) (by omega)
    have hc : 0 ≤ rd l (a + i) ∧ rd l (a + i) ≤ 255 := hb.getD (a + i).toNat
    have hbd := getN_bound hb a i.toNat
    have e4 : IntKind.u64.wrap (rd l (a + i)) = rd l (a + i) := wrapu _ hc.1 (by omega)
    have e5 : (i + 1).toNat = i.toNat + 1 := by omega
    simp only [word_Get.l0]
    rw [e1, e2, e3, e4, if_pos (by omega), if_pos (by omega), if_pos (by omega), if_pos (by omega), shl_byte _ i h0 (by omega) hc.1 (by omega), hx]
    rw [or_join _ _ _ (by omega) hbd.1 hbd.2 hc.1 hc.2]
    refine ih k l a _ n (i + 1) hb (by omega) (by omega) h2 h3 h4 h5 (by omega) (by omega) ?_
    rw [e5]; simp only [getN]
    have : (i.toNat : Int) = i := by omega
    rw [this]
theorem get_eq (k : Nat) (hk : 8 < k) (l : List Int) (a n : Int) (hb : Bytes l) (hl : l.length ≤ 140737488351232) :
    word_Get.f k l a n = some (if Fit l a n then (getN l a n.toNat, true) else (0, false)) := by
  unfold word_Get.f
  rw [fits_eq l a n hl]
  simp only [Option.bind_some, decide_eq_true_eq]
  by_cases h : Fit l a n
  · rw [if_pos h, if_pos h]
    obtain ⟨h1, h2, h3, h4⟩ := h
    exact get_l n.toNat k l a 0 n 0 hb (by omega) (by omega) h2 h3 h4 hl (by omega) (by omega) rfl
  · rw [if_neg h, if_neg h]
theorem get_fit (k : Nat) (hk : 8 < k) (l : List Int) (a n : Int) (hb : Bytes l) (hl : l.length ≤ 140737488351232) (h : Fit l a n) : word_Get.f k l a n = some (getN l a n.toNat, true) := by rw [get_eq k hk l a n hb hl, if_pos h]

theorem cut_eq (x n : Int) (_hn0 : -9223372036854775808 ≤ n) (_hn1 : n ≤ 9223372036854775807) : word_Cut.f x n = some (cutI x n) := by
  unfold word_Cut.f cutI
  by_cases h1 : n < 1
  · rw [if_pos h1, if_pos h1]
  · by_cases h2 : n > 7
    · rw [if_neg h1, if_pos h2, if_neg h1, if_pos h2]
    · rw [if_neg h1, if_neg h2, if_neg h1, if_neg h2, eight n (by omega) (by omega), wrapu (64 - 8 * n) (by omega) (by omega), if_pos (by omega), shl_shr x n (by omega) (by omega)]

theorem awake10 : windrowlaw01_awake.f 10 = some true := by decide +kernel
theorem awake_eq (k : Nat) (hk : 10 ≤ k) : windrowlaw01_awake.f k = some true := at_rounds (fun k => windrowlaw01_awake.mono k) hk awake10

theorem reffits_eq (l : List Int) (a n : Int) (hl : l.length ≤ 140737488351232) : windrowref01_Fits.f l a n = some (decide (Fit l a n)) := by
  unfold windrowref01_Fits.f
  by_cases h1 : n < 1
  · rw [if_pos h1]; congr 1; symm; rw [decide_eq_false_iff_not]; unfold Fit; omega
  · by_cases h2 : n > 8
    · rw [if_neg h1, if_pos h2]; congr 1; symm; rw [decide_eq_false_iff_not]; unfold Fit; omega
    · by_cases h3 : a < 0
      · rw [if_neg h1, if_neg h2, if_pos h3]; congr 1; symm; rw [decide_eq_false_iff_not]; unfold Fit; omega
      · by_cases h4 : a > l.length
        · rw [if_neg h1, if_neg h2, if_neg h3, if_pos h4]; congr 1; symm; rw [decide_eq_false_iff_not]; unfold Fit; omega
        · rw [if_neg h1, if_neg h2, if_neg h3, if_neg h4, wrap64_in _ (by omega) (by omega)]
          congr 1
          rw [Bool.eq_iff_iff, decide_eq_true_eq, decide_eq_true_eq]; unfold Fit; omega

theorem same_l (d : Nat) : ∀ (k : Nat) (l m : List Int) (i : Int), l.length = m.length → 0 ≤ i → i ≤ l.length → l.length ≤ 140737488351232 → (l.length : Int) - i = d → d < k →
    ∃ r, windrowref01_Same.l0 k l m i = some r ∧ (r = true ↔ ∀ j : Nat, i ≤ (j : Int) → j < l.length → l.getD j 0 = m.getD j 0) := by
  induction d with
  | zero =>
    intro k l m i h0 h1 h2 h3 hd hk
    obtain ⟨k, rfl⟩ : ∃ m, k = m + 1 := ⟨k - 1, by omega⟩
    refine ⟨true, ?_, iff_of_true rfl (fun j _ _ => by omega)⟩
    simp only [windrowref01_Same.l0]; rw [if_neg (by omega)]
  | succ d ih =>
    intro k l m i h0 h1 h2 h3 hd hk
    obtain ⟨k, rfl⟩ : ∃ m, k = m + 1 := ⟨k - 1, by omega⟩
    have e3 : wrap64 (i + 1) = i + 1 := wrap64_in _ (by omega) (by omega)
    obtain ⟨r, hr, hi⟩ := ih k l m (i + 1) h0 (by omega) (by omega) h3 (by omega) (by omega)
    by_cases hc : rd l i = rd m i
    · refine ⟨r, ?_, hi.trans ⟨fun h j h4 h5 => ?_, fun h j h4 h5 => h j (by omega) h5⟩⟩
      · simp only [windrowref01_Same.l0]; rw [if_pos (by omega), if_pos (by omega), if_pos (by omega), if_pos hc, e3]; exact hr
      · by_cases hj : (j : Int) = i
        · have : i.toNat = j := by omega
          rw [rd_nat, rd_nat, this] at hc; exact hc
        · exact h j (by omega) h5
    · refine ⟨false, ?_, iff_of_false (by simp) (fun h => hc ?_)⟩
      · simp only [windrowref01_Same.l0]; rw [if_pos (by omega), if_pos (by omega), if_pos (by omega), if_neg hc]
      · exact h i.toNat (by omega) (by omega)
theorem same_eq (k : Nat) (l m : List Int) (hk : l.length < k) (hl : l.length ≤ 140737488351232) : windrowref01_Same.f k l m = some (decide (l = m)) := by
  unfold windrowref01_Same.f
  by_cases h : l.length = m.length
  · rw [if_pos (by omega)]
    obtain ⟨r, hr, hi⟩ := same_l l.length k l m 0 h (by omega) (by omega) hl (by omega) hk
    rw [hr]
    congr 1
    rw [Bool.eq_iff_iff, hi, decide_eq_true_eq]
    exact ⟨fun hh => ext_getD h (fun j hj => hh j (by omega) hj), fun e j _ _ => by rw [e]⟩
  · rw [if_neg (by omega)]
    simp only [Option.some.injEq]
    exact (decide_eq_false (fun e => h (by rw [e]))).symm

theorem WordBack : windrowlaw01_WordBack.Pure := by
  intro l a n x hl0 hl hw ha hn hx
  have hb := Bytes.of_wf hw
  have hxb := bounds_u64 hx
  have hnb := bounds_i64 hn
  have hl' : l.length ≤ 140737488351232 := by omega
  refine ⟨2001, ?_⟩
  unfold windrowlaw01_WordBack.f
  rw [awake_eq 2001 (by decide)]
  simp only [Option.bind_some, if_true, windrowlaw01_WordBack.j0]
  by_cases h : (l.length : Int) > 1000
  · rw [if_pos h, awake_eq 2000 (by decide)]; rfl
  · rw [if_neg h, reffits_eq l a n hl']
    by_cases hf : Fit l a n
    · have hf0 := hf
      obtain ⟨f1, f2, f3, f4⟩ := hf
      have en : (n.toNat : Int) = n := by omega
      have epg : putL l a n (getN l a n.toNat) = l := by have := put_get hb a n.toNat f3
                                                         rw [en] at this; exact this
      have egp : getN (putL l a n x) a n.toNat = cutI x n := by
        rw [cutI_mod x n f1 f2 hxb.1 (by omega)]
        have := getN_put l a x n.toNat f3 (by omega) n.toNat (Nat.le_refl _)
        rw [en] at this; exact this
      have hf1 : Fit (putL l a n x) a n := by unfold Fit; rw [putL_length]; exact hf0
      simp only [hf0, decide_true, Bool.not_true, Option.bind_some, Bool.false_eq_true, if_false, List.nil_append, List.length_nil, Nat.zero_add]
      rw [if_pos (by omega), get_fit 2000 (by decide) l a n hb hl' hf0, Option.bind_some, put_fit 2000 (by decide) l a n _ hl' hf0, Option.bind_some, epg, same_eq 2000 l l (by omega) hl']
      simp only [decide_true, Option.bind_some, if_true]
      rw [put_fit 2000 (by decide) l a n x hl' hf0, Option.bind_some, get_fit 2000 (by decide) _ a n (putL_bytes hb a n x) (by rw [putL_length]; exact hl') hf1, egp]
      simp only [Option.bind_some, if_true]
      rw [cut_eq x n hnb.1 hnb.2, Option.bind_some, if_pos rfl, cut_eq _ n hnb.1 hnb.2, Option.bind_some, cutI_cut x n f1 f2 hxb.1 (by omega)]
      simp
    · simp only [hf, decide_false, Bool.not_false, Option.bind_some, if_true]
      rw [awake_eq 2000 (by decide)]; rfl

end Go.Proofs.Ytbeodbelmnaeoaa.Pure

/- The row names this word without its seat's own prefix: the same word, under that name. -/
namespace Go.Proofs.Ytbeodbelmnaeoaa.PrintWords
open Go.ChangeShapes Go.WideShapes
theorem sized_ints {H : Type} {enc : TypeId × Value → H} {P : Program} {W : World} {base : Nat} {spare : Nat → Bool} {held : Bool} {t e : TypeId} {k : IntKind} {a : Option Addr} {len cap : Nat} {d : DataW H} {ps : List MemPlace} {ts : List TypeId} {ds : List (DataW H)} {j : Nat}
    (hsz : (DataW.weightsEach P ts ds).all (· ≤ reachBytes) = true) (ht : ts[j]? = some t) (hd : ds[j]? = some d) (hu : P.underlying t = some (.slice e)) (he : P.underlying e = some (.int k)) (hc : P.cellsOf e = 1) {B : Nat} (hB : P.bytesOf e = B)
    (h : DataW.Trod enc P W base spare held t (.slice a len cap) d ps) : len * B ≤ 140737488351232 :=
  Go.Proofs.YtbeodbelmnaeoaaW.PrintWords.sized_ints hsz ht hd hu he hc hB h
end Go.Proofs.Ytbeodbelmnaeoaa.PrintWords
