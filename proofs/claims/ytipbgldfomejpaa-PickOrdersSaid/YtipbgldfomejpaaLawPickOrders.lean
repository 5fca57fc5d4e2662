/- The law PickOrders: what it answers for every input. Conditions: none beyond the statement's own. -/
import Derived.Test.YtipbgldfomejpaaRefPickOrders
import Derived.Test.YtipbgldfomejpaaDec
import Derived.KernelRfl
namespace Go.Proofs.Ytipbgldfomejpaa.PurePickOrders
open Go.RowKit Go.Proofs.Ytipbgldfomejpaa.PPickOrders Go.Proofs.YtipbgldfomejpaaW.PrintWords Go.Proofs.YtipbgldfomejpaaW.PrintLast Go.Proofs.YtipbgldfomejpaaW.PrintMore Go.Proofs.Ytipbgldfomejpaa.PlainPick

abbrev Holds (W : World) : Ending → World → Prop := fun e w' => e = .returned (.bool true) ∧ Below W.heap.size W w'
def G59 (x : S59) : Prop := (Lit.int .i64 x.f0).wf = true ∧ (Lit.int .i64 x.f1).wf = true ∧ (Lit.int .i64 x.f2).wf = true
section
attribute [local irreducible] Dec.Dec Dec.DecF
theorem dec59 : Dec.Dec Try.prog 59 k59 G59 :=
  Dec.dec_struct (k := Kd.pair (Kd.int .i64) (Kd.pair (Kd.int .i64) (Kd.int .i64))) (G := fun x => (Lit.int .i64 x.1).wf = true ∧ (Lit.int .i64 x.2.1).wf = true ∧ (Lit.int .i64 x.2.2).wf = true) (pr := fun x : S59 => (x.f0, x.f1, x.f2)) Try.underlying59 (by kernel_rfl)
    (Dec.decf_cons (Dec.dec_int Try.underlying3) rfl (by kernel_rfl) (Dec.decf_cons (Dec.dec_int Try.underlying3) rfl (by kernel_rfl) (Dec.decf_one (Dec.dec_int Try.underlying3) rfl (by kernel_rfl)))) (fun ⟨a, b, c⟩ => ⟨⟨a, b, c⟩, rfl⟩)
theorem dec64 : Dec.Dec Try.prog 64 (Kd.slice 59 k59) (fun l => ∀ x ∈ l, G59 x) := Dec.dec_slice Try.underlying64 dec59 (by kernel_rfl)
end
theorem cells59 {w : World} {x : S59} {cs : Array Value} (h : k59.K w x cs.toList) : cs = #[.int .i64 x.f0, .int .i64 x.f1, .int .i64 x.f2] := by
  have := k59_open h
  cases cs; simp at this; rw [this]

theorem law_eq (a b c : S59) (n p : Int) (hn : 0 ≤ n ∧ n ≤ 255) : windrowlaw16_PickOrders.f 22 a.f0 a.f1 a.f2 b.f0 b.f1 b.f2 c.f0 c.f1 c.f2 n p = some true := by
  have hj : windrowlaw16_PickOrders.j0 22 p (1 + n) true a.f0 a.f1 a.f2 b.f0 b.f1 b.f2 c.f0 c.f1 c.f2 = some true := by
    simp only [windrowlaw16_PickOrders.j0]
    rw [if_pos trivial, awake_eq 21 (by omega)]; rfl
  unfold windrowlaw16_PickOrders.f
  rw [size_eq hn]
  simp only [Option.bind_some]
  rw [awake_eq 22 (by omega)]
  simp only [Option.bind_some]
  rw [if_pos trivial, may_eq]
  simp only [Option.bind_some]
  by_cases h1 : V (1 + n) a ∧ Ag a
  · rw [decide_eq_true h1, if_pos rfl, may_eq]
    simp only [Option.bind_some]
    by_cases h2 : V (1 + n) b ∧ Ag b
    · rw [decide_eq_true h2, if_pos rfl, may_eq]
      simp only [Option.bind_some]
      by_cases h3 : V (1 + n) c ∧ Ag c
      · rw [decide_eq_true h3]
        have hs : 1 + n ≤ 256 := by omega
        simp only [windrowlaw16_PickOrders.j0]
        rw [if_neg (by decide), better_eq hs h1.1 h1.1 h1.2 h1.2]
        simp only [Option.bind_some]
        rw [bs_self, if_neg (by decide)]
        have hj1 : windrowlaw16_PickOrders.j1 21 p (1 + n) false a.f0 a.f1 a.f2 b.f0 b.f1 b.f2 c.f0 c.f1 c.f2 = some true := by
          simp only [windrowlaw16_PickOrders.j1]
          rw [if_neg (by decide), better_eq hs h1.1 h2.1 h1.2 h2.2]
          simp only [Option.bind_some]
          cases e1 : bs (1 + n) p a b
          · rfl
          · rw [if_pos rfl, better_eq hs h2.1 h3.1 h2.2 h3.2]
            simp only [Option.bind_some]
            cases e2 : bs (1 + n) p b c
            · rfl
            · rw [if_pos rfl, better_eq hs h1.1 h3.1 h1.2 h3.2, bs_trans hs h1.1 h2.1 h3.1 e1 e2]
              rfl
        by_cases hz : a.f0 = b.f0
        · rw [if_pos hz]; exact hj1
        · rw [if_neg hz, better_eq hs h1.1 h2.1 h1.2 h2.2]
          simp only [Option.bind_some]
          rw [better_eq hs h2.1 h1.1 h2.2 h1.2]
          simp only [Option.bind_some]
          have : (bs (1 + n) p a b == bs (1 + n) p b a) = false := beq_eq_false_iff_ne.2 (bt_one hz)
          rw [this]; exact hj1
      · rw [decide_eq_false h3]; exact hj
    · rw [decide_eq_false h2, if_neg (by decide)]; exact hj
  · rw [decide_eq_false h1, if_neg (by decide)]; exact hj
theorem walk (W : World) (a : S59) (ca : Array Value) (ka : k59.K W a ca.toList) (_ga : G59 a) (b : S59) (cb : Array Value) (kb : k59.K W b cb.toList) (_gb : G59 b) (c : S59) (cc : Array Value) (kc : k59.K W c cc.toList) (_gc : G59 c)
    (n : Int) (hn : (Lit.int .u8 n).wf = true) (p : Int) (_hp : (Lit.int .i64 p).wf = true) :
    Calls Try.prog 11 #[.agg ca, .agg cb, .agg cc, .int .u8 n, .int .i64 p] W (Holds W) := by
  rw [cells59 ka, cells59 kb, cells59 kc]
  exact windrowlaw16_PickOrders.calls 22 _ _ _ _ _ _ _ _ _ _ _ true W (law_eq a b c n p (bounds_u8 hn))
end Go.Proofs.Ytipbgldfomejpaa.PurePickOrders
