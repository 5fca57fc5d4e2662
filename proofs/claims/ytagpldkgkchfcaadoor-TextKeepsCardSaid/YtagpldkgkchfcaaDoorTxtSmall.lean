/- Layer 25: what a text's length says of its steps; where its lines begin. No program here. -/
import Derived.Test.YtagpldkgkchfcaaDoorTxtLaws3
namespace Go.Proofs.YtagpldkgkchfcaaDoor.Txt
set_option linter.unusedSimpArgs false
set_option linter.unusedVariables false
open Go

theorem refKeep_len : ∀ (l : List Int) (s s' : Bs), refKeep l s = some s' → s.length + l.length ≤ s'.length
  | [], s, s', h => by obtain rfl := Option.some.inj h; simp
  | n :: r, s, s', h => by
    unfold refKeep at h
    split at h
    · have := refKeep_len r _ s' h
      simp at this ⊢
      omega
    · cases h
theorem refLine_keep {x : Step} {t : Bs} (h : refLine x = some t) : x.keep.length ≤ t.length := by
  unfold refLine at h
  split at h
  · split at h
    · cases h
    · obtain ⟨s', h1, rfl⟩ := Option.map_eq_some_iff.1 h
      have := refKeep_len _ _ _ h1
      simp at this ⊢
      omega
  · split at h
    · cases h
    · rename_i h1
      have : x.keep.length = 0 := Classical.byContradiction fun e => h1 (Or.inr (Or.inr e))
      omega
theorem refPrint_mem : ∀ (l : List Step) (s : Bs), refPrint l = some s → ∀ x ∈ l, ∃ t, refLine x = some t ∧ t.length ≤ s.length
  | [], s, h, x, hx => by cases hx
  | y :: l, s, h, x, hx => by
    obtain ⟨a, b, h1, h2, rfl⟩ := refPrint_cons h
    rcases List.mem_cons.1 hx with rfl | hx
    · exact ⟨a, h1, by simp⟩
    · obtain ⟨t, h3, h4⟩ := refPrint_mem l b h2 x hx
      exact ⟨t, h3, by simp; omega⟩
theorem parse_small {s : Bs} {l : List Step} (h : parseOf s = .ok l) : l.length ≤ s.length ∧ ∀ x ∈ l, x.keep.length ≤ s.length := by
  refine ⟨by rw [← lines_count l 1 s h]; exact List.count_le_length, fun x hx => ?_⟩
  obtain ⟨t, h1, h2⟩ := refPrint_mem l s (parse_iff.1 h).1 x hx
  have := refLine_keep h1
  omega
theorem first_lt : ∀ (s : Bs) (j : Nat), j < first s → s.getD j 0 ≠ 10
  | [], j, h => by simp [first] at h
  | b :: l, j, h => by
    unfold first at h
    rw [List.takeWhile_cons] at h
    split at h
    · rename_i hb
      match j with
      | 0 => simpa using hb
      | j + 1 =>
        have := first_lt l j (by unfold first; simpa using h)
        simpa using this
    · simp at h
theorem first_at : ∀ (s : Bs), first s < s.length → s.getD (first s) 0 = 10
  | [], h => by simp at h
  | b :: l, h => by
    unfold first at h ⊢
    rw [List.takeWhile_cons] at h ⊢
    split at h
    · rename_i hb
      have := first_at l (by unfold first; simpa using h)
      unfold first at this
      rw [if_pos hb]
      simpa using this
    · rename_i hb
      rw [if_neg hb]
      simpa using hb
end Go.Proofs.YtagpldkgkchfcaaDoor.Txt
