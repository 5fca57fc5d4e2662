/- Layer 17 in plain Lean: a list of commits, and what is kept of it. -/
import Derived.Test.YtipbgldfomejpaaSnapForget
namespace Go.Proofs.Ytipbgldfomejpaa.Snap
set_option linter.unusedSimpArgs false
set_option linter.unusedVariables false
open Go.RowKit Go.Proofs.YtipbgldfomejpaaW.PrintWords Go.Proofs.YtipbgldfomejpaaW.PrintLast Go.Proofs.YtipbgldfomejpaaW.PrintMore Arr

theorem snoc_ind {α : Type} {motive : List α → Prop} (nil : motive []) (snoc : ∀ l x, motive l → motive (l ++ [x])) (l : List α) : motive l := by
  rw [← List.reverse_reverse l]
  induction l.reverse with
  | nil => exact nil
  | cons x r ih => rw [List.reverse_cons]; exact snoc _ _ ih
abbrev All := List (List Old)
def inL (l : List Old) (b : Int) : Option Old := l.find? fun o => o.blk == b
def al (all : All) (i : Nat) : List Old := all.getD i []
theorem al_at (all : All) (i : Nat) (h : i < all.length) : all[i]? = some (al all i) := by
  unfold al; rw [List.getD_eq_getElem?_getD, List.getElem?_eq_getElem h]; rfl
theorem al_mem (all : All) (i : Nat) (h : i < all.length) : al all i ∈ all := by
  unfold al; rw [List.getD_eq_getElem?_getD, List.getElem?_eq_getElem h]; exact List.getElem_mem h
theorem al_lt (all : All) (x : List Old) (i : Nat) (h : i < all.length) : al (all ++ [x]) i = al all i := by
  unfold al; rw [List.getD_eq_getElem?_getD, List.getD_eq_getElem?_getD, List.getElem?_append_left h]
theorem al_eq (all : All) (x : List Old) : al (all ++ [x]) all.length = x := by
  unfold al; rw [List.getD_eq_getElem?_getD, List.getElem?_append_right (Nat.le_refl _), Nat.sub_self]; rfl
def fstep (acc : List Old) (o : Old) : List Old := if (inL acc o.blk).isSome then acc else acc ++ [o]
def firsts (l : List Old) : List Old := l.foldl fstep []
def tagN (n : Int) (l : List Old) : Cont := l.map fun o => ((o.blk, n), o)
def lastTo (all : All) (b : Int) : Nat → Int
  | 0 => 0
  | k + 1 => if (inL (al all k) b).isSome then ((k : Int) + 1) else lastTo all b k
def lastOf (all : All) (b : Int) : Int := lastTo all b all.length
def canon (all : All) (gone : Nat) : Cont := ((List.range all.length).filter fun i => decide (gone ≤ i)).flatMap fun (i : Nat) => tagN ((i : Int) + 1) (firsts (al all i))
theorem lastTo_app (all : All) (x : List Old) (b : Int) : ∀ k, k ≤ all.length → lastTo (all ++ [x]) b k = lastTo all b k
  | 0, _ => rfl
  | k + 1, h => by
    unfold lastTo
    rw [al_lt all x k (by omega), lastTo_app all x b k (by omega)]
theorem lastOf_app (all : All) (x : List Old) (b : Int) : lastOf (all ++ [x]) b = if (inL x b).isSome then (all.length : Int) + 1 else lastOf all b := by
  unfold lastOf
  rw [show (all ++ [x]).length = all.length + 1 by simp]
  show (if (inL (al (all ++ [x]) all.length) b).isSome then _ else _) = _
  rw [al_eq, lastTo_app all x b _ (Nat.le_refl _)]
theorem lastTo_le (all : All) (b : Int) : ∀ k, 0 ≤ lastTo all b k ∧ lastTo all b k ≤ k
  | 0 => ⟨Int.le_refl _, Int.le_refl _⟩
  | k + 1 => by
    unfold lastTo
    have := lastTo_le all b k
    split <;> omega
theorem canon_app (all : All) (x : List Old) (gone : Nat) (h : gone ≤ all.length) : canon (all ++ [x]) gone = canon all gone ++ tagN ((all.length : Int) + 1) (firsts x) := by
  unfold canon
  rw [show (all ++ [x]).length = all.length + 1 by simp, List.range_succ, List.filter_append, List.flatMap_append]
  congr 1
  · rw [List.flatMap_def, List.flatMap_def]
    congr 1
    apply List.map_congr_left
    intro i hi
    have : i < all.length := List.mem_range.1 (List.mem_filter.1 hi).1
    rw [al_lt all x i this]
  · have : [all.length].filter (fun i => decide (gone ≤ i)) = [all.length] := by simp [h]
    rw [this]
    simp [al_eq]
theorem inL_snoc (l : List Old) (o : Old) (b : Int) : inL (l ++ [o]) b = (inL l b).or (if o.blk = b then some o else none) := by
  unfold inL
  rw [List.find?_append]
  congr 1
  by_cases h : o.blk = b <;> simp [h]
theorem firsts_snoc (l : List Old) (o : Old) : firsts (l ++ [o]) = fstep (firsts l) o := by simp [firsts, List.foldl_append]
theorem firsts_in (l : List Old) (b : Int) : inL (firsts l) b = inL l b := by
  induction l using snoc_ind with
  | nil => rfl
  | snoc l o ih =>
    rw [firsts_snoc, inL_snoc]
    unfold fstep
    by_cases h : (inL (firsts l) o.blk).isSome
    · rw [if_pos h, ih]
      by_cases e : o.blk = b
      · subst e
        rw [← ih]
        cases h2 : inL (firsts l) o.blk with
        | none => rw [h2] at h; cases h
        | some y => rfl
      · rw [if_neg e]; cases inL l b <;> rfl
    · rw [if_neg h, inL_snoc, ih]
theorem fnd_app (L M : Cont) (k : Key) : fnd (L ++ M) k = (fnd L k).or (fnd M k) := by
  unfold fnd
  rw [List.find?_append]
  cases L.find? (fun p => p.1 == k) <;> rfl
theorem fnd_tag (n m b : Int) : ∀ l : List Old, fnd (tagN n l) (b, m) = if m = n then inL l b else none
  | [] => by simp [tagN, fnd, inL]
  | o :: l => by
    have ih := fnd_tag n m b l
    unfold tagN fnd inL at ih ⊢
    rw [List.map_cons, List.find?_cons, List.find?_cons]
    by_cases hm : m = n
    · subst hm
      rw [if_pos rfl] at ih ⊢
      by_cases hb : o.blk = b
      · subst hb; simp
      · have e1 : (((o.blk, m) : Key) == (b, m)) = false := by simp [hb]
        have e2 : (o.blk == b) = false := by simp [hb]
        simp only [e1, e2]
        exact ih
    · rw [if_neg hm] at ih ⊢
      have e1 : (((o.blk, n) : Key) == (b, m)) = false := by simp; intro _ e; exact hm e.symm
      simp only [e1]
      exact ih
theorem canon_nums {all : All} {gone : Nat} {p : Key × Old} (h : p ∈ canon all gone) : 1 ≤ p.1.2 ∧ p.1.2 ≤ all.length ∧ (gone : Int) < p.1.2 := by
  unfold canon at h
  obtain ⟨i, hi, hp⟩ := List.mem_flatMap.1 h
  obtain ⟨h1, h2⟩ := List.mem_filter.1 hi
  have h3 := List.mem_range.1 h1
  have h4 : gone ≤ i := by simpa using h2
  unfold tagN at hp
  obtain ⟨o, _, rfl⟩ := List.mem_map.1 hp
  simp only
  omega
theorem fnd_none_of {L : Cont} {k : Key} (h : ∀ p ∈ L, p.1 ≠ k) : fnd L k = none := by
  unfold fnd
  rw [Option.map_eq_none_iff, List.find?_eq_none]
  intro p hp
  simpa using h p hp
theorem fnd_canon (all : All) (gone : Nat) (b : Int) (i : Int) : fnd (canon all gone) (b, i) = if (gone : Int) < i ∧ 1 ≤ i ∧ i ≤ all.length then inL (al all (i - 1).toNat) b else none := by
  induction all using snoc_ind with
  | nil =>
    rw [if_neg (by simp; omega)]
    rfl
  | snoc all x ih =>
    by_cases hg : gone ≤ all.length
    · rw [canon_app all x gone hg, fnd_app, fnd_tag, firsts_in, ih]
      by_cases e : i = (all.length : Int) + 1
      · rw [if_neg (by omega), if_pos e, if_pos (by simp; omega), show (i - 1).toNat = all.length by omega, al_eq]
        rfl
      · rw [if_neg e]
        by_cases h2 : (gone : Int) < i ∧ 1 ≤ i ∧ i ≤ all.length
        · rw [if_pos h2, if_pos (by simp; omega), al_lt all x _ (by omega)]
          cases inL (al all (i - 1).toNat) b <;> rfl
        · rw [if_neg h2, if_neg (by simp; omega)]
          rfl
    · rw [if_neg (by simp; omega)]
      exact fnd_none_of (fun p hp e => by
        have := canon_nums hp
        rw [e] at this
        simp at this
        omega)
/-- A commit. -/
theorem cTo_canon (n : Int) (L : Cont) (f : Int → Int) (hL : ∀ p ∈ L, p.1.2 ≠ n) (l : List Old) : cTo n (L, f) l = (L ++ tagN n (firsts l), fun x => if (inL l x).isSome then n else f x) := by
  induction l using snoc_ind with
  | nil => simp [cTo, firsts, tagN, inL]
  | snoc l o ih =>
    have e : cTo n (L, f) (l ++ [o]) = cstep n (cTo n (L, f) l) o := by simp [cTo, List.foldl_append]
    rw [e, ih, firsts_snoc]
    unfold cstep fstep
    have h1 : fnd (L ++ tagN n (firsts l)) (o.blk, n) = inL (firsts l) o.blk := by
      rw [fnd_app, fnd_tag, if_pos rfl, fnd_none_of (fun p hp e => hL p hp (by rw [e]))]
      rfl
    simp only [h1]
    by_cases h : (inL (firsts l) o.blk).isSome
    · rw [if_pos h, if_pos h]
      refine Prod.ext rfl (funext fun x => ?_)
      simp only [inL_snoc]
      by_cases ex : o.blk = x
      · subst ex
        rw [firsts_in] at h
        rw [if_pos h, if_pos (by cases inL l o.blk <;> simp_all)]
      · rw [if_neg ex]; cases inL l x <;> rfl
    · rw [if_neg h, if_neg h]
      refine Prod.ext (by simp [tagN]) (funext fun x => ?_)
      simp only [inL_snoc]
      by_cases ex : x = o.blk
      · subst ex; rw [if_pos rfl, if_pos rfl]
        cases inL l o.blk <;> rfl
      · have e2 : ¬ (o.blk = x) := fun e => ex e.symm
        simp only [if_neg ex, if_neg e2]
        cases inL l x <;> rfl
theorem canon_commit (all : All) (gone : Nat) (hg : gone ≤ all.length) (x : List Old) : cTo ((all.length : Int) + 1) (canon all gone, lastOf all) x = (canon (all ++ [x]) gone, lastOf (all ++ [x])) := by
  rw [cTo_canon _ _ _ (fun p hp => by have := canon_nums hp; omega), canon_app all x gone hg]
  refine Prod.ext rfl (funext fun b => ?_)
  show _ = lastOf (all ++ [x]) b
  rw [lastOf_app]
/-- What is forgotten. -/
theorem canon_forget (all : All) (gone : Nat) (n : Int) (g' : Nat) (hg : ∀ i : Nat, i < all.length → (g' ≤ i ↔ gone ≤ i ∧ n ≤ (i : Int))) : (canon all gone).filter (fun q => !upTo n q.1) = canon all g' := by
  unfold canon
  rw [List.filter_flatMap]
  have h1 : (List.range all.length).filter (fun i => decide (g' ≤ i)) = ((List.range all.length).filter fun i => decide (gone ≤ i)).filter fun i : Nat => decide (n ≤ (i : Int)) := by
    rw [List.filter_filter]
    apply List.filter_congr
    intro i hi
    rw [Bool.eq_iff_iff]
    simp only [decide_eq_true_eq, Bool.and_eq_true]
    rw [hg i (List.mem_range.1 hi)]
    exact and_comm
  rw [h1]
  generalize (List.range all.length).filter (fun i => decide (gone ≤ i)) = r
  induction r with
  | nil => rfl
  | cons i r ih =>
    rw [List.flatMap_cons, ih]
    have h2 : ∀ q ∈ tagN ((i : Int) + 1) (firsts (al all i)), (!upTo n q.1) = decide (n ≤ (i : Int)) := fun q hq => by
      unfold tagN at hq
      obtain ⟨o, _, rfl⟩ := List.mem_map.1 hq
      unfold upTo
      by_cases h : n ≤ (i : Int)
      · have h3 : ¬ ((i : Int) + 1 ≤ n) := by omega
        simp [h, h3]
      · have h3 : (i : Int) + 1 ≤ n := by omega
        simp [h, h3]
    rw [List.filter_congr h2]
    by_cases h : n ≤ (i : Int)
    · simp [h]
    · simp [h]
/-- How many firsts. -/
def cnt (l : List Old) (k : Nat) : Nat := (firsts (l.take k)).length
theorem cnt_succ (l : List Old) (k : Nat) (h : k < l.length) : cnt l (k + 1) = cnt l k + if (inL (l.take k) (og l k).blk).isSome then 0 else 1 := by
  unfold cnt
  rw [take_og l k h, firsts_snoc]
  unfold fstep
  rw [firsts_in]
  split <;> simp
def sizeTo (all : All) (gone k : Nat) : Nat := (((List.range k).filter fun i => decide (gone ≤ i)).map fun i => (firsts (al all i)).length).sum
theorem sizeTo_succ (all : All) (gone k : Nat) (h : gone ≤ k) : sizeTo all gone (k + 1) = sizeTo all gone k + (firsts (al all k)).length := by
  unfold sizeTo
  rw [List.range_succ, List.filter_append]
  simp [h]
theorem sizeTo_lo (all : All) (gone k : Nat) (h : k ≤ gone) : sizeTo all gone k = 0 := by
  unfold sizeTo
  rw [List.filter_eq_nil_iff.2 (fun i hi => by have := List.mem_range.1 hi; simp; omega)]
  rfl
theorem canon_len (all : All) (gone : Nat) : (canon all gone).length = sizeTo all gone all.length := by
  unfold canon sizeTo
  rw [List.length_flatMap]
  congr 1
  apply List.map_congr_left
  intro i _
  simp [tagN]
/-- What the document's reading comes to. -/
def RefIs (all : All) (gone : Nat) (b n : Int) (o : Old) (ok : Bool) : Prop :=
  (ok = true ∧ ∃ i : Nat, i < all.length ∧ n ≤ (i : Int) ∧ gone ≤ i ∧ inL (al all i) b = some o ∧ ∀ j : Nat, j < i → ¬ ((inL (al all j) b).isSome = true ∧ n ≤ (j : Int) ∧ gone ≤ j)) ∨
  (ok = false ∧ o = old0 ∧ ∀ j : Nat, j < all.length → ¬ ((inL (al all j) b).isSome = true ∧ n ≤ (j : Int) ∧ gone ≤ j))
theorem lastTo_max (all : All) (b : Int) : ∀ k j : Nat, j < k → (inL (al all j) b).isSome = true → (j : Int) + 1 ≤ lastTo all b k
  | k + 1, j, h, hs => by
    unfold lastTo
    by_cases hk : (inL (al all k) b).isSome
    · rw [if_pos hk]; omega
    · rw [if_neg hk]
      by_cases e : j = k
      · subst e; exact absurd hs hk
      · exact lastTo_max all b k j (by omega) hs
theorem read_ref {all : All} {gone : Nat} {b n : Int} {o : Old} {ok : Bool} (h : RefIs all gone b n o ok) : ReadIs all.length (canon all gone) (lastOf all) b n o ok := by
  have hf : ∀ j : Int, fnd (canon all gone) (b, j) = if (gone : Int) < j ∧ 1 ≤ j ∧ j ≤ all.length then inL (al all (j - 1).toNat) b else none := fnd_canon all gone b
  rcases h with ⟨rfl, i, h1, h2, h3, h4, h5⟩ | ⟨rfl, rfl, h1⟩
  · refine .inl ⟨rfl, by omega, (i : Int) + 1, by omega, lastTo_max all b all.length i h1 (by rw [h4]; rfl), ?_, fun j hj1 hj2 => ?_⟩
    · rw [hf, if_pos (by omega), show ((i : Int) + 1 - 1).toNat = i by omega, h4]
    · rw [hf]
      by_cases hc : (gone : Int) < j ∧ 1 ≤ j ∧ j ≤ all.length
      · rw [if_pos hc]
        have h6 := h5 (j - 1).toNat (by omega)
        cases hx : inL (al all (j - 1).toNat) b with
        | none => rfl
        | some y => exact absurd ⟨by rw [hx]; rfl, by omega, by omega⟩ h6
      · rw [if_neg hc]
  · refine .inr ⟨rfl, rfl, .inr fun j hj1 hj2 => ?_⟩
    rw [hf]
    by_cases hc : (gone : Int) < j ∧ 1 ≤ j ∧ j ≤ all.length
    · rw [if_pos hc]
      have h6 := h1 (j - 1).toNat (by omega)
      cases hx : inL (al all (j - 1).toNat) b with
      | none => rfl
      | some y => exact absurd ⟨by rw [hx]; rfl, by omega, by omega⟩ h6
    · rw [if_neg hc]
end Go.Proofs.Ytipbgldfomejpaa.Snap
