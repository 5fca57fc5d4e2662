/- Leaves and the table they make, in plain Lean. -/
import Derived.Test.YtkkmmbbnaafhlaaTabClean
namespace Go.Proofs.Ytkkmmbbnaafhlaa.Tab
set_option linter.unusedSimpArgs false
set_option linter.unusedVariables false
open Go.RowKit Go.Proofs.YtkkmmbbnaafhlaaW.PrintWords Go.Proofs.YtkkmmbbnaafhlaaW.PrintLast Go.Proofs.YtkkmmbbnaafhlaaW.PrintMore Arr

/-! ### a list's numbers from nought up to one -/
def cin (p : Nat) (l : List Int) : Nat := l.countP fun x => decide (0 ≤ x ∧ x < (p : Int))
theorem cin_zero (l : List Int) : cin 0 l = 0 := by
  unfold cin
  rw [List.countP_eq_zero]
  intro x _
  simp
theorem cin_succ (p : Nat) (l : List Int) : cin (p + 1) l = cin p l + l.count (p : Int) := by
  induction l with
  | nil => rfl
  | cons x l ih =>
    unfold cin at ih ⊢
    rw [List.countP_cons, List.countP_cons, List.count_cons, ih]
    by_cases h1 : x = (p : Int)
    · subst h1
      have h2 : ¬ (0 ≤ (p : Int) ∧ (p : Int) < (p : Int)) := by omega
      have h3 : 0 ≤ (p : Int) ∧ (p : Int) < ((p + 1 : Nat) : Int) := by omega
      simp only [decide_eq_true h3, decide_eq_false h2, beq_self_eq_true, if_true, Bool.false_eq_true, if_false]
      omega
    · by_cases h2 : 0 ≤ x ∧ x < (p : Int)
      · have h3 : 0 ≤ x ∧ x < ((p + 1 : Nat) : Int) := by omega
        simp only [decide_eq_true h2, decide_eq_true h3]
        simp [h1]
        omega
      · have h3 : ¬ (0 ≤ x ∧ x < ((p + 1 : Nat) : Int)) := by omega
        simp only [decide_eq_false h2, decide_eq_false h3]
        simp [h1]
theorem cin_le (p : Nat) (l : List Int) : cin p l ≤ l.length := List.countP_le_length
theorem cin_many {p : Nat} {l : List Int} (h : ∀ i, i < p → (i : Int) ∈ l) : p ≤ cin p l := by
  induction p with
  | zero => omega
  | succ p ih =>
    rw [cin_succ]
    have h1 := ih fun i hi => h i (by omega)
    have h2 := List.count_pos_iff.2 (h p (by omega))
    omega
theorem cin_more {p : Nat} {l : List Int} (h : ∀ i, i < p → (i : Int) ∈ l) {i0 : Nat} (h0 : i0 < p) (h2 : 2 ≤ l.count (i0 : Int)) : p + 1 ≤ cin p l := by
  induction p with
  | zero => omega
  | succ p ih =>
    rw [cin_succ]
    by_cases e : i0 = p
    · subst e
      have := cin_many (p := i0) fun i hi => h i (by omega)
      omega
    · have h1 := ih (fun i hi => h i (by omega)) (by omega)
      have h3 := List.count_pos_iff.2 (h p (by omega))
      omega
theorem cin_few {p : Nat} {l : List Int} (h : ∀ i : Nat, i < p → l.count (i : Int) ≤ 1) : cin p l ≤ p := by
  induction p with
  | zero => rw [cin_zero]; omega
  | succ p ih =>
    rw [cin_succ]
    have := ih fun i hi => h i (by omega)
    have := h p (by omega)
    omega
theorem cin_all {p : Nat} {l : List Int} (h : ∀ x ∈ l, 0 ≤ x ∧ x < (p : Int)) : cin p l = l.length := by
  unfold cin
  rw [List.countP_eq_length]
  intro x hx
  simpa using h x hx
theorem cin_full {p : Nat} {l : List Int} (h : cin p l = l.length) : ∀ x ∈ l, 0 ≤ x ∧ x < (p : Int) := by
  unfold cin at h
  rw [List.countP_eq_length] at h
  intro x hx
  simpa using h x hx
theorem count_two {l : List Int} {a b : Nat} (hab : a < b) (hb : b < l.length) (h : l.getD a 0 = l.getD b 0) : 2 ≤ l.count (l.getD b 0) := by
  have e : l = l.take b ++ l.drop b := (List.take_append_drop b l).symm
  have h1 : 1 ≤ (l.take b).count (l.getD b 0) := List.count_pos_iff.2 (by
    rw [← h, ← getD_take hab, List.getD_eq_getElem?_getD, List.getElem?_eq_getElem (by rw [List.length_take]; omega)]
    exact List.getElem_mem _)
  have h2 : 1 ≤ (l.drop b).count (l.getD b 0) := List.count_pos_iff.2 (by
    rw [show l.getD b 0 = (l.drop b).getD 0 0 by rw [getD_drop]; rfl, List.getD_eq_getElem?_getD, List.getElem?_eq_getElem (by rw [List.length_drop]; omega)]
    exact List.getElem_mem _)
  have h3 : l.count (l.getD b 0) = (l.take b).count (l.getD b 0) + (l.drop b).count (l.getD b 0) := by
    rw [← List.count_append, List.take_append_drop]
  omega
theorem count_one {l : List Int} (x : Int) (h : ∀ a b, a < b → b < l.length → l.getD a 0 ≠ l.getD b 0) : l.count x ≤ 1 := by
  induction l with
  | nil => simp
  | cons y l ih =>
    rw [List.count_cons]
    have hi := ih fun a b hab hb => by
      have := h (a + 1) (b + 1) (by omega) (by simpa using hb)
      simpa using this
    by_cases e : (y == x) = true
    · rw [if_pos e]
      have h0 : l.count x = 0 := by
        rw [List.count_eq_zero]
        intro hx
        obtain ⟨j, hj, hjx⟩ := List.getElem_of_mem hx
        have := h 0 (j + 1) (by omega) (by simpa using hj)
        simp only [beq_iff_eq] at e
        apply this
        rw [List.getD_eq_getElem?_getD, List.getD_eq_getElem?_getD]
        simp [hj, hjx, e]
      omega
    · rw [if_neg e]; omega
/-! ### leaves -/
def lastL (ls : List Leaf) (i : Int) : Option Leaf := ls.foldl (fun a L => if L.idx = i then some L else a) none
theorem lastL_snoc (ls : List Leaf) (x : Leaf) (i : Int) : lastL (ls ++ [x]) i = if x.idx = i then some x else lastL ls i := by
  unfold lastL
  rw [List.foldl_append]
  rfl
def plc (ls : List Leaf) (m : Nat) : Int := ((lastL ls ((m / 10 : Nat) : Int)).getD leaf0).ps.getD (m % 10) 0
def psOf (ls : List Leaf) (p : Nat) : List Int := (List.range (10 * p)).map (plc ls)
def seenOf (ls : List Leaf) (p : Nat) : List Bool := (List.range p).map fun (i : Nat) => ls.any fun L => L.idx == (i : Int)
theorem psOf_length (ls : List Leaf) (p : Nat) : (psOf ls p).length = 10 * p := by simp [psOf]
theorem seenOf_length (ls : List Leaf) (p : Nat) : (seenOf ls p).length = p := by simp [seenOf]
theorem psOf_getD (ls : List Leaf) (p m : Nat) (h : m < 10 * p) : (psOf ls p).getD m 0 = plc ls m := by
  unfold psOf
  rw [List.getD_eq_getElem?_getD]
  simp [h]
theorem seenOf_getD (ls : List Leaf) (p i : Nat) (h : i < p) : (seenOf ls p).getD i false = ls.any fun L => L.idx == (i : Int) := by
  unfold seenOf
  rw [List.getD_eq_getElem?_getD]
  simp [h]
theorem psOf_nil (p : Nat) : psOf [] p = zeros (10 * p) := by
  apply ext_getD (by rw [psOf_length, zeros_length])
  intro j hj
  rw [psOf_length] at hj
  rw [psOf_getD _ _ _ hj, zeros_getD]
  unfold plc lastL
  exact zeros_getD _ _
theorem seenOf_nil (p : Nat) : seenOf [] p = List.replicate p false := by
  apply List.ext_getElem (by simp [seenOf])
  intro i h1 h2
  simp [seenOf]
theorem psOf_snoc (ls : List Leaf) (p q : Nat) (x : Leaf) (hq : q < p) (hx : x.idx = (q : Int)) (hl : x.ps.length = 10) : psOf (ls ++ [x]) p = (psOf ls p).take (q * 10) ++ x.ps ++ (psOf ls p).drop (q * 10 + 10) := by
  have h1 : ((psOf ls p).take (q * 10)).length = q * 10 := by rw [List.length_take, psOf_length]; omega
  have h2 : ((psOf ls p).take (q * 10) ++ x.ps).length = q * 10 + 10 := by rw [List.length_append, h1, hl]
  apply ext_getD
  · rw [List.length_append, h2, List.length_drop, psOf_length, psOf_length]; omega
  · intro j hj
    rw [psOf_length] at hj
    rw [psOf_getD _ _ _ hj]
    unfold plc
    rw [lastL_snoc]
    by_cases e : x.idx = ((j / 10 : Nat) : Int)
    · rw [if_pos e]
      have e1 : j / 10 = q := by omega
      rw [getD_left (by omega), getD_right (by omega), h1]
      show x.ps.getD (j % 10) 0 = _
      congr 1
      omega
    · rw [if_neg e]
      have e1 : j / 10 ≠ q := by omega
      by_cases h3 : j < q * 10
      · rw [getD_left (by omega), getD_left (by omega), getD_take h3, psOf_getD _ _ _ hj]
        rfl
      · rw [getD_right (by omega), h2, getD_drop, show q * 10 + 10 + (j - (q * 10 + 10)) = j by omega, psOf_getD _ _ _ hj]
        rfl
theorem seenOf_snoc (ls : List Leaf) (p q : Nat) (x : Leaf) (hx : x.idx = (q : Int)) : seenOf (ls ++ [x]) p = (seenOf ls p).set q true := by
  apply List.ext_getElem (by simp [seenOf])
  intro i h1 h2
  rw [List.getElem_set]
  simp only [seenOf, List.getElem_map, List.getElem_range, List.any_append, List.any_cons, List.any_nil, Bool.or_false, hx]
  by_cases e : q = i
  · subst e; simp
  · have : ¬ ((q : Int) = (i : Int)) := by omega
    simp [e, this]
/-! ### when they make a table -/
def goodPs (n : Nat) (i : Int) (ps : List Int) : Prop := ∀ k, k < 10 → 0 ≤ ps.getD k 0 ∧ (0 < ps.getD k 0 → i * 10 + k < (n : Int))
def goodL (n : Nat) (L : Leaf) : Prop := 0 ≤ L.idx ∧ L.idx < (pg n : Int) ∧ goodPs n L.idx L.ps
def lf (ls : List Leaf) (a : Nat) : Leaf := ls.getD a leaf0
def OkTo (n : Nat) (ls : List Leaf) (j : Nat) : Prop := ∀ a, a < j → goodL n (lf ls a) ∧ ∀ b, b < a → (lf ls b).idx ≠ (lf ls a).idx
def Ok31 (n : Nat) (ls : List Leaf) : Prop := OkTo n ls ls.length ∧ ∀ i : Nat, i < pg n → ∃ a, a < ls.length ∧ (lf ls a).idx = (i : Int)
def Ok32 (n : Nat) (ls : List Leaf) : Prop := ls.length = pg n ∧ ∀ i : Nat, i < pg n → ∃ L, lastL ls (i : Int) = some L ∧ goodPs n (i : Int) L.ps
theorem lf_at (ls : List Leaf) (a : Nat) (h : a < ls.length) : ls[a]? = some (lf ls a) := by
  unfold lf
  rw [List.getD_eq_getElem?_getD, List.getElem?_eq_getElem h]
  rfl
theorem take_lf (ls : List Leaf) (k : Nat) (h : k < ls.length) : ls.take (k + 1) = ls.take k ++ [lf ls k] := by
  rw [List.take_succ_eq_append_getElem h]
  unfold lf
  rw [List.getD_eq_getElem?_getD, List.getElem?_eq_getElem h]
  rfl
/-- The last of a number, up to a place. -/
def Fnd (ls : List Leaf) (i : Int) (k : Nat) (f : Int) : Prop := (f = -1 ∧ lastL (ls.take k) i = none ∧ ∀ a, a < k → (lf ls a).idx ≠ i) ∨ ∃ a : Nat, a < k ∧ f = a ∧ lastL (ls.take k) i = some (lf ls a) ∧ (lf ls a).idx = i
theorem Fnd.zero (ls : List Leaf) (i : Int) : Fnd ls i 0 (-1) := .inl ⟨rfl, rfl, fun a h => by omega⟩
theorem Fnd.yes {ls : List Leaf} {i : Int} {k : Nat} {f : Int} (h : Fnd ls i k f) (hk : k < ls.length) (e : (lf ls k).idx = i) : Fnd ls i (k + 1) (k : Int) :=
  .inr ⟨k, by omega, rfl, by rw [take_lf ls k hk, lastL_snoc, if_pos e], e⟩
theorem Fnd.no {ls : List Leaf} {i : Int} {k : Nat} {f : Int} (h : Fnd ls i k f) (hk : k < ls.length) (e : (lf ls k).idx ≠ i) : Fnd ls i (k + 1) f := by
  rcases h with ⟨h1, h2, h3⟩ | ⟨a, h1, h2, h3, h4⟩
  · exact .inl ⟨h1, by rw [take_lf ls k hk, lastL_snoc, if_neg e]; exact h2, fun a ha => by
      by_cases e2 : a = k
      · rw [e2]; exact e
      · exact h3 a (by omega)⟩
  · exact .inr ⟨a, by omega, h2, by rw [take_lf ls k hk, lastL_snoc, if_neg e]; exact h3, h4⟩
theorem fnd_all (ls : List Leaf) (i : Int) : ∀ k, k ≤ ls.length → ∃ f, Fnd ls i k f
  | 0, _ => ⟨_, Fnd.zero ls i⟩
  | k + 1, h => by
    obtain ⟨f, hf⟩ := fnd_all ls i k (by omega)
    by_cases e : (lf ls k).idx = i
    · exact ⟨_, hf.yes (by omega) e⟩
    · exact ⟨_, hf.no (by omega) e⟩
def ids (ls : List Leaf) : List Int := ls.map (·.idx)
theorem ids_length (ls : List Leaf) : (ids ls).length = ls.length := by simp [ids]
theorem ids_at (ls : List Leaf) (a : Nat) (h : a < ls.length) : (ids ls).getD a 0 = (lf ls a).idx := by
  unfold ids lf
  rw [List.getD_eq_getElem?_getD, List.getD_eq_getElem?_getD]
  simp [h]
theorem ids_mem (ls : List Leaf) (x : Int) : x ∈ ids ls ↔ ∃ a, a < ls.length ∧ (lf ls a).idx = x := by
  unfold ids
  rw [List.mem_map]
  constructor
  · rintro ⟨L, hL, rfl⟩
    obtain ⟨a, ha, rfl⟩ := List.getElem_of_mem hL
    exact ⟨a, ha, by unfold lf; rw [List.getD_eq_getElem?_getD, List.getElem?_eq_getElem ha]; rfl⟩
  · rintro ⟨a, ha, rfl⟩
    exact ⟨lf ls a, by unfold lf; rw [List.getD_eq_getElem?_getD, List.getElem?_eq_getElem ha]; exact List.getElem_mem ha, rfl⟩
theorem ok_both (n : Nat) (ls : List Leaf) : Ok31 n ls ↔ Ok32 n ls := by
  constructor
  · rintro ⟨h1, h2⟩
    have hin : ∀ i, i < pg n → (i : Int) ∈ ids ls := fun i hi => (ids_mem ls _).2 (h2 i hi)
    have hall : ∀ x ∈ ids ls, 0 ≤ x ∧ x < (pg n : Int) := by
      intro x hx
      obtain ⟨a, ha, rfl⟩ := (ids_mem ls x).1 hx
      exact ⟨(h1 a ha).1.1, (h1 a ha).1.2.1⟩
    have hone : ∀ x : Int, (ids ls).count x ≤ 1 := fun x => count_one x fun a b hab hb => by
      rw [ids_length] at hb
      rw [ids_at ls a (by omega), ids_at ls b hb]
      exact (h1 b hb).2 a hab
    have e1 := cin_all hall
    have e2 := cin_many hin
    have e3 := cin_few (p := pg n) (l := ids ls) fun i _ => hone i
    rw [ids_length] at e1
    refine ⟨by omega, fun i hi => ?_⟩
    obtain ⟨f, hf⟩ := fnd_all ls (i : Int) ls.length (Nat.le_refl _)
    rw [Fnd, List.take_length] at hf
    rcases hf with ⟨_, _, h5⟩ | ⟨a, ha, _, h5, h6⟩
    · obtain ⟨a, ha, hai⟩ := h2 i hi
      exact absurd hai (h5 a ha)
    · refine ⟨_, h5, ?_⟩
      rw [← h6]
      exact (h1 a ha).1.2.2
  · rintro ⟨h1, h2⟩
    have hin : ∀ i, i < pg n → (i : Int) ∈ ids ls := fun i hi => by
      obtain ⟨L, hL, _⟩ := h2 i hi
      obtain ⟨f, hf⟩ := fnd_all ls (i : Int) ls.length (Nat.le_refl _)
      rw [Fnd, List.take_length] at hf
      rcases hf with ⟨_, h5, _⟩ | ⟨a, ha, _, _, h6⟩
      · rw [h5] at hL; cases hL
      · exact (ids_mem ls _).2 ⟨a, ha, h6⟩
    have e2 := cin_many hin
    have e3 := cin_le (pg n) (ids ls)
    rw [ids_length] at e3
    have hall := cin_full (p := pg n) (l := ids ls) (by rw [ids_length]; omega)
    have hdis : ∀ a b, a < b → b < ls.length → (lf ls a).idx ≠ (lf ls b).idx := by
      intro a b hab hb e
      have hb' : b < (ids ls).length := by rw [ids_length]; exact hb
      have h3 := count_two (l := ids ls) hab hb' (by rw [ids_at ls a (by omega), ids_at ls b hb]; exact e)
      rw [ids_at ls b hb] at h3
      have h4 := hall (lf ls b).idx ((ids_mem ls _).2 ⟨b, hb, rfl⟩)
      obtain ⟨q, hq⟩ : ∃ q : Nat, (lf ls b).idx = (q : Int) := ⟨(lf ls b).idx.toNat, by omega⟩
      rw [hq] at h3 h4
      have := cin_more hin (i0 := q) (by omega) h3
      omega
    refine ⟨fun a ha => ⟨?_, fun b hb => hdis b a hb ha⟩, fun i hi => (ids_mem ls _).1 (hin i hi)⟩
    have h4 := hall (lf ls a).idx ((ids_mem ls _).2 ⟨a, ha, rfl⟩)
    refine ⟨h4.1, h4.2, ?_⟩
    obtain ⟨q, hq⟩ : ∃ q : Nat, (lf ls a).idx = (q : Int) := ⟨(lf ls a).idx.toNat, by omega⟩
    obtain ⟨L, hL, hg⟩ := h2 q (by omega)
    obtain ⟨f, hf⟩ := fnd_all ls (q : Int) ls.length (Nat.le_refl _)
    rw [Fnd, List.take_length] at hf
    rcases hf with ⟨_, h5, _⟩ | ⟨b, hb, _, h5, h6⟩
    · rw [h5] at hL; cases hL
    · have hba : b = a := by
        rcases Nat.lt_trichotomy b a with h | h | h
        · exact absurd (by rw [h6, hq]) (hdis b a h ha)
        · exact h
        · exact absurd (by rw [h6, hq]) (hdis a b h hb)
      subst hba
      rw [h5] at hL
      injection hL with hL
      rw [← hL] at hg
      rw [hq]
      exact hg
open Classical in
noncomputable def codeOf (n : Int) (ls : List Leaf) : Int := if n < 0 ∨ 4096 < n then 1 else if Ok31 n.toNat ls then 0 else 7
theorem codeOf_arg {n : Int} (ls : List Leaf) (h : n < 0 ∨ 4096 < n) : codeOf n ls = 1 := by unfold codeOf; rw [if_pos h]
theorem codeOf_ok {n : Nat} {ls : List Leaf} (hn : n ≤ 4096) (h : Ok31 n ls) : codeOf (n : Int) ls = 0 := by unfold codeOf; rw [if_neg (by omega), Int.toNat_natCast, if_pos h]
theorem codeOf_no {n : Nat} {ls : List Leaf} (hn : n ≤ 4096) (h : ¬ Ok31 n ls) : codeOf (n : Int) ls = 7 := by unfold codeOf; rw [if_neg (by omega), Int.toNat_natCast, if_neg h]
/-- Of a right list nothing stands behind the last block. -/
theorem ok_pad {n : Nat} {ls : List Leaf} (h : Ok31 n ls) : Pad n (psOf ls (pg n)) := by
  intro m hm
  by_cases hlt : m < 10 * pg n
  · rw [psOf_getD _ _ _ hlt]
    obtain ⟨L, hL, hg⟩ := ((ok_both n ls).1 h).2 (m / 10) (by omega)
    unfold plc
    rw [hL]
    show L.ps.getD (m % 10) 0 = 0
    have := hg (m % 10) (by omega)
    have h0 := this.1
    by_cases hp : 0 < L.ps.getD (m % 10) 0
    · have := this.2 hp
      omega
    · omega
  · rw [List.getD_eq_getElem?_getD, List.getElem?_eq_none (by rw [psOf_length]; omega)]
    rfl
end Go.Proofs.Ytkkmmbbnaafhlaa.Tab
