/- The law PickBetters: what it answers for every input. Conditions: none beyond the statement's own. -/
import Derived.Test.YtipbgldfomejpaaRefPickBetters
import Derived.Test.YtipbgldfomejpaaDec
import Derived.KernelRfl
namespace Go.Proofs.Ytipbgldfomejpaa.PurePickBetters
open Go.RowKit Go.Proofs.Ytipbgldfomejpaa.PPickBetters Go.Proofs.YtipbgldfomejpaaW.PrintWords Go.Proofs.YtipbgldfomejpaaW.PrintLast Go.Proofs.YtipbgldfomejpaaW.PrintMore Go.Proofs.Ytipbgldfomejpaa.PlainPick

abbrev Holds (W : World) : Ending → World → Prop := fun e w' => e = .returned (.bool true) ∧ Below W.heap.size W w'
def G59 (x : S59) : Prop := (Lit.int .i64 x.f0).wf = true ∧ (Lit.int .i64 x.f1).wf = true ∧ (Lit.int .i64 x.f2).wf = true
section
attribute [local irreducible] Dec.Dec Dec.DecF
theorem dec59 : Dec.Dec Try.prog 59 k59 G59 :=
  Dec.dec_struct (k := Kd.pair (Kd.int .i64) (Kd.pair (Kd.int .i64) (Kd.int .i64))) (G := fun x => (Lit.int .i64 x.1).wf = true ∧ (Lit.int .i64 x.2.1).wf = true ∧ (Lit.int .i64 x.2.2).wf = true) (pr := fun x : S59 => (x.f0, x.f1, x.f2)) Try.underlying59 (by kernel_rfl)
    (Dec.decf_cons (Dec.dec_int Try.underlying3) rfl (by kernel_rfl) (Dec.decf_cons (Dec.dec_int Try.underlying3) rfl (by kernel_rfl) (Dec.decf_one (Dec.dec_int Try.underlying3) rfl (by kernel_rfl)))) (fun ⟨a, b, c⟩ => ⟨⟨a, b, c⟩, rfl⟩)
theorem dec64 : Dec.Dec Try.prog 64 (Kd.slice 59 k59) (fun l => ∀ x ∈ l, G59 x) := Dec.dec_slice Try.underlying64 dec59 (by kernel_rfl)
end
theorem cells59 {w : World} {x : S59} {cs : Array Value} (h : k59.K w x cs.toList) : cs = #[.int .i64 x.f0, .int .i64 x.f1, .int .i64 x.f2] := by
  have := k59_open h
  cases cs; simp at this; rw [this]

theorem law_eq (a b : S59) (n p : Int) (hn : 0 ≤ n ∧ n ≤ 255) : windrowlaw16_PickBetters.f 22 a.f0 a.f1 a.f2 b.f0 b.f1 b.f2 n p = some true := by
  have hj : windrowlaw16_PickBetters.j0 22 n p true a.f0 a.f1 a.f2 b.f0 b.f1 b.f2 = some true := by
    simp only [windrowlaw16_PickBetters.j0]
    rw [if_pos trivial, awake_eq 21 (by omega)]; rfl
  unfold windrowlaw16_PickBetters.f
  rw [awake_eq 22 (by omega)]
  simp only [Option.bind_some]
  rw [if_pos trivial, size_eq hn]
  simp only [Option.bind_some]
  rw [may_eq]
  simp only [Option.bind_some]
  by_cases h1 : V (1 + n) a ∧ Ag a
  · rw [decide_eq_true h1, if_pos rfl, may_eq]
    simp only [Option.bind_some]
    by_cases h2 : V (1 + n) b ∧ Ag b
    · rw [decide_eq_true h2]
      simp only [windrowlaw16_PickBetters.j0]
      rw [if_neg (by decide), size_eq hn]
      simp only [Option.bind_some]
      rw [better_eq (by omega) h1.1 h2.1 h1.2 h2.2, refbetter_eq (by omega) h1.1 h2.1 h1.2 h2.2]
      simp
    · rw [decide_eq_false h2]; exact hj
  · rw [decide_eq_false h1, if_neg (by decide)]; exact hj
theorem walk (W : World) (a : S59) (ca : Array Value) (ka : k59.K W a ca.toList) (_ga : G59 a) (b : S59) (cb : Array Value) (kb : k59.K W b cb.toList) (_gb : G59 b) (n : Int) (hn : (Lit.int .u8 n).wf = true) (p : Int) (_hp : (Lit.int .i64 p).wf = true) :
    Calls Try.prog 8 #[.agg ca, .agg cb, .int .u8 n, .int .i64 p] W (Holds W) := by
  rw [cells59 ka, cells59 kb]
  exact windrowlaw16_PickBetters.calls 22 _ _ _ _ _ _ _ _ true W (law_eq a b n p (bounds_u8 hn))
end Go.Proofs.Ytipbgldfomejpaa.PurePickBetters
