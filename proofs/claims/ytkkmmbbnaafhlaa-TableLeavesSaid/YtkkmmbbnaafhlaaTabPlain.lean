/- Rows of whole numbers in plain Lean. -/
import Derived.Test.YtkkmmbbnaafhlaaTabWalks
namespace Go.Proofs.Ytkkmmbbnaafhlaa.Tab
set_option linter.unusedSimpArgs false
set_option linter.unusedVariables false
open Go.RowKit Go.Proofs.YtkkmmbbnaafhlaaW.PrintWords Go.Proofs.YtkkmmbbnaafhlaaW.PrintLast Go.Proofs.YtkkmmbbnaafhlaaW.PrintMore Arr

theorem getD_set (l : List Int) (i j : Nat) (v : Int) (hi : i < l.length) : (l.set i v).getD j 0 = if i = j then v else l.getD j 0 := by
  rw [List.getD_eq_getElem?_getD, List.getD_eq_getElem?_getD, List.getElem?_set]
  by_cases h : i = j
  · subst h; simp [hi]
  · simp [h]
theorem ext_getD {l m : List Int} (h : l.length = m.length) (hg : ∀ j, j < l.length → l.getD j 0 = m.getD j 0) : l = m := by
  apply List.ext_getElem h
  intro j h1 h2
  have := hg j h1
  rw [List.getD_eq_getElem?_getD, List.getD_eq_getElem?_getD, List.getElem?_eq_getElem h1, List.getElem?_eq_getElem h2] at this
  exact this
theorem getD_left {a b : List Int} {j : Nat} (h : j < a.length) : (a ++ b).getD j 0 = a.getD j 0 := by
  rw [List.getD_eq_getElem?_getD, List.getElem?_append_left h, ← List.getD_eq_getElem?_getD]
theorem getD_right {a b : List Int} {j : Nat} (h : a.length ≤ j) : (a ++ b).getD j 0 = b.getD (j - a.length) 0 := by
  rw [List.getD_eq_getElem?_getD, List.getElem?_append_right h, ← List.getD_eq_getElem?_getD]
theorem getD_take {l : List Int} {n j : Nat} (h : j < n) : (l.take n).getD j 0 = l.getD j 0 := by
  rw [List.getD_eq_getElem?_getD, List.getElem?_take_of_lt h, ← List.getD_eq_getElem?_getD]
theorem take_rd (l : List Int) (k : Nat) (h : k < l.length) : l.take (k + 1) = l.take k ++ [l.getD k 0] := by
  rw [List.take_succ_eq_append_getElem h, List.getD_eq_getElem?_getD, List.getElem?_eq_getElem h]; rfl
/-- The first k numbers of one, noughts behind. -/
def upTo (s : List Int) (k : Nat) : List Int := s.take k ++ zeros (s.length - k)
theorem upTo_length (s : List Int) (k : Nat) : (upTo s k).length = s.length := by unfold upTo; rw [List.length_append, zeros_length, List.length_take]; omega
theorem upTo_zero (s : List Int) : upTo s 0 = zeros s.length := by simp [upTo]
theorem upTo_all (s : List Int) : upTo s s.length = s := by simp [upTo, zeros]
theorem upTo_getD (s : List Int) (k j : Nat) (hk : k ≤ s.length) : (upTo s k).getD j 0 = if j < k then s.getD j 0 else 0 := by
  unfold upTo
  have hl : (s.take k).length = k := by rw [List.length_take]; omega
  by_cases h : j < k
  · rw [if_pos h, getD_left (by omega), getD_take h]
  · rw [if_neg h, getD_right (by omega), zeros_getD]
theorem upTo_succ (s : List Int) (k : Nat) (h : k < s.length) : (upTo s k).set k (s.getD k 0) = upTo s (k + 1) := by
  apply ext_getD (by rw [List.length_set, upTo_length, upTo_length])
  intro j hj
  rw [List.length_set, upTo_length] at hj
  rw [getD_set _ _ _ _ (by rw [upTo_length]; exact h), upTo_getD _ _ _ (by omega), upTo_getD _ _ _ (by omega)]
  by_cases e : k = j
  · rw [if_pos e, if_pos (by omega), e]
  · rw [if_neg e]
    by_cases h1 : j < k
    · rw [if_pos h1, if_pos (by omega)]
    · rw [if_neg h1, if_neg (by omega)]
/-- How many numbers are no nought. -/
def some0 (l : List Int) : Int := ((l.filter (· != 0)).length : Int)
theorem some0_snoc (l : List Int) (x : Int) : some0 (l ++ [x]) = some0 l + (if x != 0 then 1 else 0) := by
  unfold some0
  rw [List.filter_append, List.length_append]
  by_cases h : (x != 0) = true
  · simp [h]
  · simp [h]
theorem some0_le (l : List Int) : 0 ≤ some0 l ∧ some0 l ≤ l.length := ⟨by unfold some0; omega, by unfold some0; have := List.length_filter_le (· != 0) l; omega⟩
/-- Where a row of truths is true. -/
def trueTo (ds : List Bool) (k : Nat) : List Int := ((List.range k).filter fun i => ds.getD i false).map fun (i : Nat) => (i : Int)
def trues (ds : List Bool) : List Int := trueTo ds ds.length
theorem trueTo_succ (ds : List Bool) (k : Nat) : trueTo ds (k + 1) = trueTo ds k ++ (if ds.getD k false then [(k : Int)] else []) := by
  unfold trueTo
  rw [List.range_succ, List.filter_append, List.map_append]
  congr 1
  by_cases h : ds.getD k false = true
  · rw [if_pos h, List.filter_cons, if_pos h]; rfl
  · rw [if_neg h, List.filter_cons, if_neg h]; rfl
theorem trueTo_length (ds : List Bool) (k : Nat) : (trueTo ds k).length ≤ k := by
  unfold trueTo
  rw [List.length_map]
  have := List.length_filter_le (fun i => ds.getD i false) (List.range k)
  rwa [List.length_range] at this
end Go.Proofs.Ytkkmmbbnaafhlaa.Tab
