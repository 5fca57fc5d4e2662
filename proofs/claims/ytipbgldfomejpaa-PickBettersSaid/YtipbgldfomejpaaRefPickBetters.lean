/- The reference of layer 16 and the candidates that are right, in the law PickBetters's names. -/
import Derived.Test.YtipbgldfomejpaaPurePickBetters
namespace Go.Proofs.Ytipbgldfomejpaa.PurePickBetters
open Go.RowKit Go.Proofs.Ytipbgldfomejpaa.PPickBetters Go.Proofs.YtipbgldfomejpaaW.PrintWords Go.Proofs.YtipbgldfomejpaaW.PrintLast Go.Proofs.YtipbgldfomejpaaW.PrintMore Go.Proofs.Ytipbgldfomejpaa.PlainPick
theorem mul3 (x a y : Int) : x * (a + 1) * y = (x * (a + 1)) * y := rfl
theorem refbetter_eq {s p : Int} (hs : s ≤ 256) {c d : S59} (hc : V s c) (hd : V s d) (ac : Ag c) (ad : Ag d) : windrowref16_Better.f c.f0 c.f1 c.f2 d.f0 d.f1 d.f2 s p = some (bs s p c d) := by
  unfold windrowref16_Better.f bs PlainPick.bt
  by_cases hp : p = 1
  · subst hp
    have h1 := nd_bound (p := 1) hs hc ac hd
    have h2 := nd_bound (p := 1) hs hd ad hc
    have h3 := num_bound (p := 1) hs hc ac
    have h4 := num_bound (p := 1) hs hd ad
    unfold num den at *
    simp only [if_pos] at *
    have hc' := hc; have hd' := hd; have ac' := ac; have ad' := ad
    unfold V at hc' hd'
    unfold Ag at ac' ad'
    rw [IntWalk.wrap64_in (s - c.f1) (by omega), IntWalk.wrap64_in (s - d.f1) (by omega), IntWalk.wrap64_in (c.f2 + 1) (by omega), IntWalk.wrap64_in (d.f2 + 1) (by omega), IntWalk.wrap64_in (s + d.f1) (by omega), IntWalk.wrap64_in (s + c.f1) (by omega),
      IntWalk.wrap64_in ((s - c.f1) * (c.f2 + 1)) (by omega), IntWalk.wrap64_in ((s - d.f1) * (d.f2 + 1)) (by omega), IntWalk.wrap64_in ((s - c.f1) * (c.f2 + 1) * (s + d.f1)) (by omega), IntWalk.wrap64_in ((s - d.f1) * (d.f2 + 1) * (s + c.f1)) (by omega)]
    generalize (s - c.f1) * (c.f2 + 1) * (s + d.f1) = x at *
    generalize (s - d.f1) * (d.f2 + 1) * (s + c.f1) = y at *
    by_cases g : x = y
    · rw [if_pos g]; congr 1; rw [Bool.eq_iff_iff]; simp only [decide_eq_true_eq]; omega
    · rw [if_neg g]; congr 1; rw [Bool.eq_iff_iff]; simp only [decide_eq_true_eq]; omega
  · rw [if_neg hp]
    unfold num den
    simp only [if_neg hp]
    unfold V at hc hd
    rw [IntWalk.wrap64_in _ (by omega), IntWalk.wrap64_in _ (by omega)]
    by_cases g : -c.f1 = -d.f1
    · rw [if_pos g]; congr 1; rw [Bool.eq_iff_iff]; simp only [decide_eq_true_eq]; omega
    · rw [if_neg g]; congr 1; rw [Bool.eq_iff_iff]; simp only [decide_eq_true_eq]; omega
theorem may_eq (s : Int) (c : S59) : windrowref16_May.f c.f0 c.f1 c.f2 s = some (decide (V s c ∧ Ag c)) := by
  unfold windrowref16_May.f V Ag
  by_cases h1 : c.f1 ≥ 0
  · by_cases h2 : c.f1 < s
    · by_cases h3 : c.f2 ≥ 0
      · rw [if_pos h1, if_pos h2, if_pos h3]; congr 1; rw [Bool.eq_iff_iff]; simp only [decide_eq_true_eq]; omega
      · rw [if_pos h1, if_pos h2, if_neg h3]; congr 1; symm; rw [decide_eq_false_iff_not]; omega
    · rw [if_pos h1, if_neg h2]; congr 1; symm; rw [decide_eq_false_iff_not]; omega
  · rw [if_neg h1]; congr 1; symm; rw [decide_eq_false_iff_not]; omega
end Go.Proofs.Ytipbgldfomejpaa.PurePickBetters
