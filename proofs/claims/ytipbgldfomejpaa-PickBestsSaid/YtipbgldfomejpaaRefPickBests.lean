/- The reference of layer 16 and the candidates that are right, in the law PickBests's names. -/
import Derived.Test.YtipbgldfomejpaaPurePickBests
namespace Go.Proofs.Ytipbgldfomejpaa.PurePickBests
open Go.RowKit Go.Proofs.Ytipbgldfomejpaa.PPickBests Go.Proofs.YtipbgldfomejpaaW.PrintWords Go.Proofs.YtipbgldfomejpaaW.PrintLast Go.Proofs.YtipbgldfomejpaaW.PrintMore Go.Proofs.Ytipbgldfomejpaa.PlainPick
theorem mul3 (x a y : Int) : x * (a + 1) * y = (x * (a + 1)) * y := rfl
theorem refbetter_eq {s p : Int} (hs : s ≤ 256) {c d : S59} (hc : V s c) (hd : V s d) (ac : Ag c) (ad : Ag d) : windrowref16_Better.f c.f0 c.f1 c.f2 d.f0 d.f1 d.f2 s p = some (bs s p c d) := by
  unfold windrowref16_Better.f bs PlainPick.bt
  by_cases hp : p = 1
  · subst hp
    have h1 := nd_bound (p := 1) hs hc ac hd
    have h2 := nd_bound (p := 1) hs hd ad hc
    have h3 := num_bound (p := 1) hs hc ac
    have h4 := num_bound (p := 1) hs hd ad
    unfold num den at *
    simp only [if_pos] at *
    have hc' := hc; have hd' := hd; have ac' := ac; have ad' := ad
    unfold V at hc' hd'
    unfold Ag at ac' ad'
    rw [IntWalk.wrap64_in (s - c.f1) (by omega), IntWalk.wrap64_in (s - d.f1) (by omega), IntWalk.wrap64_in (c.f2 + 1) (by omega), IntWalk.wrap64_in (d.f2 + 1) (by omega), IntWalk.wrap64_in (s + d.f1) (by omega), IntWalk.wrap64_in (s + c.f1) (by omega),
      IntWalk.wrap64_in ((s - c.f1) * (c.f2 + 1)) (by omega), IntWalk.wrap64_in ((s - d.f1) * (d.f2 + 1)) (by omega), IntWalk.wrap64_in ((s - c.f1) * (c.f2 + 1) * (s + d.f1)) (by omega), IntWalk.wrap64_in ((s - d.f1) * (d.f2 + 1) * (s + c.f1)) (by omega)]
    generalize (s - c.f1) * (c.f2 + 1) * (s + d.f1) = x at *
    generalize (s - d.f1) * (d.f2 + 1) * (s + c.f1) = y at *
    by_cases g : x = y
    · rw [if_pos g]; congr 1; rw [Bool.eq_iff_iff]; simp only [decide_eq_true_eq]; omega
    · rw [if_neg g]; congr 1; rw [Bool.eq_iff_iff]; simp only [decide_eq_true_eq]; omega
  · rw [if_neg hp]
    unfold num den
    simp only [if_neg hp]
    unfold V at hc hd
    rw [IntWalk.wrap64_in _ (by omega), IntWalk.wrap64_in _ (by omega)]
    by_cases g : -c.f1 = -d.f1
    · rw [if_pos g]; congr 1; rw [Bool.eq_iff_iff]; simp only [decide_eq_true_eq]; omega
    · rw [if_neg g]; congr 1; rw [Bool.eq_iff_iff]; simp only [decide_eq_true_eq]; omega
theorem right_l (l : List S59) (d : Nat) : ∀ (k i : Nat), i + d = 100 → 2 * d + 1 < k → (∀ c ∈ l.take i, Ag c) → i ≤ l.length →
    ∃ b, windrowref16_Right.l0 k l (i : Int) = some b ∧ (b = true → (∀ c ∈ l, Ag c) ∧ l.length ≤ 60) := by
  have fin : ∀ (i : Nat), (∀ c ∈ l.take i, Ag c) → (i = 100 ∨ i = l.length) → (decide ((l.length : Int) ≤ 60) = true → (∀ c ∈ l, Ag c) ∧ l.length ≤ 60) := by
    intro i h1 h2 h3
    have h4 := of_decide_eq_true h3
    rw [List.take_of_length_le (by omega)] at h1
    exact ⟨h1, by omega⟩
  induction d with
  | zero =>
    intro k i hi hk h hil
    obtain ⟨k, rfl⟩ : ∃ m, k = m + 2 := ⟨k - 2, by omega⟩
    simp only [windrowref16_Right.l0, windrowref16_Right.j1]
    rw [decide_eq_false (by omega), ite_self, if_neg (by decide)]
    exact ⟨_, rfl, fin i h (Or.inl (by omega))⟩
  | succ d ih =>
    intro k i hi hk h hil
    obtain ⟨k, rfl⟩ : ∃ m, k = m + 2 := ⟨k - 2, by omega⟩
    simp only [windrowref16_Right.l0]
    by_cases hlt : i < l.length
    · rw [if_pos (by omega), decide_eq_true (by omega)]
      simp only [windrowref16_Right.j1]
      have e3 : wrap64 ((i : Int) + 1) = ((i + 1 : Nat) : Int) := by rw [IntWalk.wrap64_in _ (by omega)]; omega
      have ht := mem_take_succ l i hlt
      rw [if_pos trivial, if_pos (by omega), if_pos (by omega), e3]
      generalize rd_T59 l (i : Int) = c at *
      by_cases g : c.f2 < 0
      · rw [if_pos g]; exact ⟨_, rfl, fun h => by cases h⟩
      · rw [if_neg g]
        by_cases g2 : c.f2 > 1099511627776
        · rw [if_pos g2]; exact ⟨_, rfl, fun h => by cases h⟩
        · rw [if_neg g2]
          refine ih k (i + 1) (by omega) (by omega) (fun x hx => ?_) (by omega)
          rcases (ht x).1 hx with g3 | g3
          · exact h x g3
          · rw [g3]; unfold Ag; omega
    · rw [if_neg (by omega)]
      simp only [windrowref16_Right.j1]
      rw [if_neg (by decide)]
      exact ⟨_, rfl, fin i h (Or.inr (by omega))⟩
theorem right_eq (l : List S59) (k : Nat) (hk : 202 ≤ k) : ∃ b, windrowref16_Right.f k l = some b ∧ (b = true → (∀ c ∈ l, Ag c) ∧ l.length ≤ 60) :=
  right_l l 100 k 0 (by omega) (by omega) (fun c hc => by simp at hc) (by omega)
end Go.Proofs.Ytipbgldfomejpaa.PurePickBests
