/- Layer 17 in plain Lean: commits, what is kept of them, what is read. -/
import Derived.Test.YtipbgldfomejpaaSnapMem2
namespace Go.Proofs.Ytipbgldfomejpaa.Snap
set_option linter.unusedSimpArgs false
set_option linter.unusedVariables false
open Go.RowKit Go.Proofs.YtipbgldfomejpaaW.PrintWords Go.Proofs.YtipbgldfomejpaaW.PrintLast Go.Proofs.YtipbgldfomejpaaW.PrintMore Arr

def cstep (n : Int) (s : Cont × (Int → Int)) (o : Old) : Cont × (Int → Int) :=
  if (fnd s.1 (o.blk, n)).isSome then s else (s.1 ++ [((o.blk, n), o)], fun x => if x = o.blk then n else s.2 x)
def cTo (n : Int) (s : Cont × (Int → Int)) (l : List Old) : Cont × (Int → Int) := l.foldl (cstep n) s
theorem cTo_succ (n : Int) (s : Cont × (Int → Int)) (l : List Old) (k : Nat) (h : k < l.length) : cTo n s (l.take (k + 1)) = cstep n (cTo n s (l.take k)) (og l k) := by
  unfold cTo; rw [take_og l k h, List.foldl_append]; rfl
/-- What a reading comes to. -/
def ReadIs (now : Int) (L : Cont) (f : Int → Int) (b n : Int) (o : Old) (ok : Bool) : Prop :=
  (ok = true ∧ n < now ∧ ∃ i, max n 0 < i ∧ i ≤ f b ∧ fnd L (b, i) = some o ∧ ∀ j, max n 0 < j → j < i → fnd L (b, j) = none) ∨
  (ok = false ∧ o = old0 ∧ (now ≤ n ∨ ∀ j, max n 0 < j → j ≤ f b → fnd L (b, j) = none))
theorem ReadIs.unique {now : Int} {L : Cont} {f : Int → Int} {b n : Int} {o o' : Old} {ok ok' : Bool} (h : ReadIs now L f b n o ok) (h' : ReadIs now L f b n o' ok') : o = o' ∧ ok = ok' := by
  rcases h with ⟨rfl, h1, i, h2, h3, h4, h5⟩ | ⟨rfl, rfl, h1⟩ <;> rcases h' with ⟨rfl, g1, j, g2, g3, g4, g5⟩ | ⟨rfl, rfl, g1⟩
  · have : i = j := by
      rcases Int.lt_trichotomy i j with e | e | e
      · rw [g5 i h2 e] at h4; cases h4
      · exact e
      · rw [h5 j g2 e] at g4; cases g4
    subst this
    rw [h4] at g4
    exact ⟨Option.some.inj g4, rfl⟩
  · rcases g1 with g1 | g1
    · omega
    · rw [g1 i h2 h3] at h4; cases h4
  · rcases h1 with h1 | h1
    · omega
    · rw [h1 j g2 g3] at g4; cases g4
  · exact ⟨rfl, rfl⟩
theorem fnd_snoc (L : Cont) (k k' : Key) (o : Old) (h : fnd L k' = none) : fnd (L ++ [(k', o)]) k = if k = k' then some o else fnd L k := by
  unfold fnd at h ⊢
  rw [List.find?_append]
  by_cases e : k = k'
  · subst e
    have : L.find? (fun p => p.1 == k) = none := by simpa using h
    rw [this, if_pos rfl]
    simp
  · rw [if_neg e]
    have : [(k', o)].find? (fun p => p.1 == k) = none := by simp; exact fun e' => e e'.symm
    rw [this]
    cases L.find? (fun p => p.1 == k) <;> rfl
end Go.Proofs.Ytipbgldfomejpaa.Snap
