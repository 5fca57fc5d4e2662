/- The plain law of layer 16: which of two candidates is better. No program in sight. -/
import Derived.WalkKit
import Derived.WideLaws
namespace Go.Proofs.Ytipbgldfomejpaa.PlainPick
open Go.RowKit

def num (s p l a : Int) : Int := if p = 1 then (s - l) * (a + 1) else s - l
def den (s p l : Int) : Int := if p = 1 then s + l else 1
theorem num_bound {s p l a : Int} (hs : s ≤ 256) (hl : 0 ≤ l ∧ l < s) (ha : 0 ≤ a ∧ a ≤ 1099511627776) : 1 ≤ num s p l a ∧ num s p l a ≤ 281474976710912 := by
  unfold num
  split
  · have h1 : 1 * 1 ≤ (s - l) * (a + 1) := Int.mul_le_mul (by omega) (by omega) (by omega) (by omega)
    have h2 : (s - l) * (a + 1) ≤ 256 * 1099511627777 := Int.mul_le_mul (by omega) (by omega) (by omega) (by omega)
    omega
  · omega
theorem den_bound {s p l : Int} (hs : s ≤ 256) (hl : 0 ≤ l ∧ l < s) : 1 ≤ den s p l ∧ den s p l ≤ 512 := by unfold den; split <;> omega
theorem nd_bound {s p l a l' : Int} (hs : s ≤ 256) (hl : 0 ≤ l ∧ l < s) (ha : 0 ≤ a ∧ a ≤ 1099511627776) (hl' : 0 ≤ l' ∧ l' < s) : 1 ≤ num s p l a * den s p l' ∧ num s p l a * den s p l' ≤ 144115188075986944 := by
  have h1 := num_bound (p := p) hs hl ha
  have h2 := den_bound (p := p) hs hl'
  have h3 : 1 * 1 ≤ num s p l a * den s p l' := Int.mul_le_mul (by omega) (by omega) (by omega) (by omega)
  have h4 : num s p l a * den s p l' ≤ 281474976710912 * 512 := Int.mul_le_mul (by omega) (by omega) (by omega) (by omega)
  omega
/-- One candidate is no worse but for its zone. -/
def ge (s p l a l' a' : Int) : Prop := num s p l' a' * den s p l ≤ num s p l a * den s p l'
def bt (s p z l a z' l' a' : Int) : Bool := decide (num s p l' a' * den s p l < num s p l a * den s p l' ∨ (num s p l a * den s p l' = num s p l' a' * den s p l ∧ z < z'))
theorem bt_iff {s p z l a z' l' a' : Int} : bt s p z l a z' l' a' = true ↔ ge s p l a l' a' ∧ (ge s p l' a' l a → z < z') := by
  unfold bt ge
  rw [decide_eq_true_eq]
  omega
theorem bt_false {s p z l a z' l' a' : Int} : bt s p z l a z' l' a' = false ↔ ge s p l' a' l a ∧ (ge s p l a l' a' → z' ≤ z) := by
  rw [← Bool.not_eq_true, bt_iff]
  unfold ge
  omega
theorem ge_trans {s p l a l' a' l'' a'' : Int} (h' : 1 ≤ den s p l') (h1 : 1 ≤ den s p l) (h2 : 1 ≤ den s p l'') (g : ge s p l a l' a') (k : ge s p l' a' l'' a'') : ge s p l a l'' a'' := by
  unfold ge at *
  refine Int.le_of_mul_le_mul_right (a := den s p l') ?_ (by omega)
  have g2 := Int.mul_le_mul_of_nonneg_right g (show 0 ≤ den s p l'' by omega)
  have k2 := Int.mul_le_mul_of_nonneg_right k (show 0 ≤ den s p l by omega)
  calc num s p l'' a'' * den s p l * den s p l' = num s p l'' a'' * den s p l' * den s p l := by rw [Int.mul_assoc, Int.mul_comm (den s p l), ← Int.mul_assoc]
    _ ≤ num s p l' a' * den s p l'' * den s p l := k2
    _ = num s p l' a' * den s p l * den s p l'' := by rw [Int.mul_assoc, Int.mul_comm (den s p l''), ← Int.mul_assoc]
    _ ≤ num s p l a * den s p l' * den s p l'' := g2
    _ = num s p l a * den s p l'' * den s p l' := by rw [Int.mul_assoc, Int.mul_comm (den s p l'), ← Int.mul_assoc]
theorem bt_self (s p z l a : Int) : bt s p z l a z l a = false := by
  rw [bt_false]; exact ⟨Int.le_refl _, fun _ => Int.le_refl _⟩
theorem bt_trans {s p z l a z' l' a' z'' l'' a'' : Int} (h' : 1 ≤ den s p l') (h1 : 1 ≤ den s p l) (h2 : 1 ≤ den s p l'') (g : bt s p z l a z' l' a' = true) (k : bt s p z' l' a' z'' l'' a'' = true) : bt s p z l a z'' l'' a'' = true := by
  rw [bt_iff] at *
  refine ⟨ge_trans h' h1 h2 g.1 k.1, fun h => ?_⟩
  have e1 := g.2 (ge_trans h2 h' h1 k.1 h)
  have e2 := k.2 (ge_trans h1 h2 h' h g.1)
  omega
/-- Two that neither beats the other: of one zone. -/
theorem bt_tie {s p z l a z' l' a' : Int} (g : bt s p z l a z' l' a' = false) (k : bt s p z' l' a' z l a = false) : z = z' := by
  rw [bt_false] at *
  have := g.2 k.1
  have := k.2 g.1
  omega
theorem bt_one {s p z l a z' l' a' : Int} (h : z ≠ z') : bt s p z l a z' l' a' ≠ bt s p z' l' a' z l a := by
  intro e
  cases h1 : bt s p z l a z' l' a'
  · rw [h1] at e; exact h (bt_tie h1 e.symm)
  · rw [h1] at e
    rw [bt_iff] at h1
    have h2 := bt_iff.1 e.symm
    have := h1.2 h2.1
    have := h2.2 h1.1
    omega
/-- A better one than an unbeaten one that a worse one beats: none. -/
theorem bt_over {s p z l a z' l' a' z'' l'' a'' : Int} (h' : 1 ≤ den s p l') (h1 : 1 ≤ den s p l) (h2 : 1 ≤ den s p l'') (g : bt s p z' l' a' z'' l'' a'' = true) (k : bt s p z l a z'' l'' a'' = false) : bt s p z l a z' l' a' = false := by
  cases e : bt s p z l a z' l' a'
  · rfl
  · rw [bt_trans h' h1 h2 e g] at k; exact k
end Go.Proofs.Ytipbgldfomejpaa.PlainPick
