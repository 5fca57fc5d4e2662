/- The reference of layer 16 and the candidates that are right, in the law PickOrders's names. -/
import Derived.Test.YtipbgldfomejpaaPurePickOrders
namespace Go.Proofs.Ytipbgldfomejpaa.PurePickOrders
open Go.RowKit Go.Proofs.Ytipbgldfomejpaa.PPickOrders Go.Proofs.YtipbgldfomejpaaW.PrintWords Go.Proofs.YtipbgldfomejpaaW.PrintLast Go.Proofs.YtipbgldfomejpaaW.PrintMore Go.Proofs.Ytipbgldfomejpaa.PlainPick
theorem may_eq (s : Int) (c : S59) : windrowref16_May.f c.f0 c.f1 c.f2 s = some (decide (V s c ∧ Ag c)) := by
  unfold windrowref16_May.f V Ag
  by_cases h1 : c.f1 ≥ 0
  · by_cases h2 : c.f1 < s
    · by_cases h3 : c.f2 ≥ 0
      · rw [if_pos h1, if_pos h2, if_pos h3]; congr 1; rw [Bool.eq_iff_iff]; simp only [decide_eq_true_eq]; omega
      · rw [if_pos h1, if_pos h2, if_neg h3]; congr 1; symm; rw [decide_eq_false_iff_not]; omega
    · rw [if_pos h1, if_neg h2]; congr 1; symm; rw [decide_eq_false_iff_not]; omega
  · rw [if_neg h1]; congr 1; symm; rw [decide_eq_false_iff_not]; omega
end Go.Proofs.Ytipbgldfomejpaa.PurePickOrders
