/- The law PickBests: what it answers for every input. Conditions: none beyond the statement's own. -/
import Derived.Test.YtipbgldfomejpaaRefPickBests
import Derived.Test.YtipbgldfomejpaaDec
import Derived.KernelRfl
namespace Go.Proofs.Ytipbgldfomejpaa.PurePickBests
open Go.RowKit Go.Proofs.Ytipbgldfomejpaa.PPickBests Go.Proofs.YtipbgldfomejpaaW.PrintWords Go.Proofs.YtipbgldfomejpaaW.PrintLast Go.Proofs.YtipbgldfomejpaaW.PrintMore Go.Proofs.Ytipbgldfomejpaa.PlainPick

abbrev Holds (W : World) : Ending → World → Prop := fun e w' => e = .returned (.bool true) ∧ Below W.heap.size W w'
def G59 (x : S59) : Prop := (Lit.int .i64 x.f0).wf = true ∧ (Lit.int .i64 x.f1).wf = true ∧ (Lit.int .i64 x.f2).wf = true
section
attribute [local irreducible] Dec.Dec Dec.DecF
theorem dec59 : Dec.Dec Try.prog 59 k59 G59 :=
  Dec.dec_struct (k := Kd.pair (Kd.int .i64) (Kd.pair (Kd.int .i64) (Kd.int .i64))) (G := fun x => (Lit.int .i64 x.1).wf = true ∧ (Lit.int .i64 x.2.1).wf = true ∧ (Lit.int .i64 x.2.2).wf = true) (pr := fun x : S59 => (x.f0, x.f1, x.f2)) Try.underlying59 (by kernel_rfl)
    (Dec.decf_cons (Dec.dec_int Try.underlying3) rfl (by kernel_rfl) (Dec.decf_cons (Dec.dec_int Try.underlying3) rfl (by kernel_rfl) (Dec.decf_one (Dec.dec_int Try.underlying3) rfl (by kernel_rfl)))) (fun ⟨a, b, c⟩ => ⟨⟨a, b, c⟩, rfl⟩)
theorem dec64 : Dec.Dec Try.prog 64 (Kd.slice 59 k59) (fun l => ∀ x ∈ l, G59 x) := Dec.dec_slice Try.underlying64 dec59 (by kernel_rfl)
end
theorem cells59 {w : World} {x : S59} {cs : Array Value} (h : k59.K w x cs.toList) : cs = #[.int .i64 x.f0, .int .i64 x.f1, .int .i64 x.f2] := by
  have := k59_open h
  cases cs; simp at this; rw [this]

/-- Does anything from j on beat it? -/
def beats (s p : Int) (l : List S59) (c : S59) : Bool := l.any fun d => decide (V s d) && bs s p d c
theorem drop_rd (l : List S59) (j : Nat) (h : j < l.length) : l.drop j = rd_T59 l (j : Int) :: l.drop (j + 1) := by
  rw [List.drop_eq_getElem_cons h]
  unfold rd_T59
  rw [Int.toNat_natCast, List.getD_eq_getElem?_getD, List.getElem?_eq_getElem h]
  rfl
theorem inner {s p : Int} (hs : s ≤ 256) (l : List S59) (ha : ∀ c ∈ l, Ag c) (hl : l.length ≤ 1000000) (i : Nat) (hi : i < l.length) (d : Nat) : ∀ (k j : Nat) (f : Bool), j + d = l.length → d < k → (f = true → V s (rd_T59 l (i : Int))) →
    windrowref16_Best.l1 k l s p (i : Int) f (j : Int) = if (f && !beats s p (l.drop j) (rd_T59 l (i : Int))) = true then some ((rd_T59 l (i : Int)).f0, true) else windrowref16_Best.l0 (k - d - 1) l s p ((i + 1 : Nat) : Int) := by
  induction d with
  | zero =>
    intro k j f hj hk hf
    obtain ⟨k, rfl⟩ : ∃ m, k = m + 1 := ⟨k - 1, by omega⟩
    have e3 : wrap64 ((i : Int) + 1) = ((i + 1 : Nat) : Int) := by rw [IntWalk.wrap64_in _ (by omega)]; omega
    simp only [windrowref16_Best.l1]
    rw [if_neg (by omega), List.drop_of_length_le (by omega), e3]
    cases f
    · rw [if_neg (by decide), if_neg (by simp)]; rfl
    · rw [if_pos rfl, if_pos (by omega), if_pos (by omega), if_pos (by simp [beats])]
  | succ d ih =>
    intro k j f hj hk hf
    obtain ⟨k, rfl⟩ : ∃ m, k = m + 1 := ⟨k - 1, by omega⟩
    have hjl : j < l.length := by omega
    have e3 : wrap64 ((j : Int) + 1) = ((j + 1 : Nat) : Int) := by rw [IntWalk.wrap64_in _ (by omega)]; omega
    have hac := ha _ (rd_mem l j hjl)
    have hai := ha _ (rd_mem l i hi)
    have hd := drop_rd l j hjl
    simp only [windrowref16_Best.l1]
    rw [if_pos (by omega), if_pos (by omega), e3, hd]
    generalize hc : rd_T59 l (j : Int) = c at *
    have hb : beats s p (c :: l.drop (j + 1)) (rd_T59 l (i : Int)) = (decide (V s c) && bs s p c (rd_T59 l (i : Int)) || beats s p (l.drop (j + 1)) (rd_T59 l (i : Int))) := by simp [beats]
    rw [hb, show k + 1 - (d + 1) - 1 = k - d - 1 by omega]
    have go := ih k (j + 1) f (by omega) (by omega) hf
    have no := ih k (j + 1) false (by omega) (by omega) (fun h => by cases h)
    by_cases hv : V s c
    · rw [if_pos hv.1, if_pos hv.2]
      cases f
      · rw [if_neg (by decide), go]; rfl
      · have hvi := hf rfl
        rw [if_pos rfl, if_pos (by omega), if_pos (by omega)]
        generalize rd_T59 l (i : Int) = ci at *
        have e := refbetter_eq (p := p) hs hv hvi hac hai
        rw [e]
        simp only [Option.bind_some]
        cases bs s p c ci
        · rw [if_neg (by decide), go]; simp
        · rw [if_pos rfl, no]; simp [hv]
    · have e : ∀ x : Option (Int × Bool), (if c.f1 ≥ 0 then (if c.f1 < s then x else windrowref16_Best.l1 k l s p (i : Int) f ((j + 1 : Nat) : Int)) else windrowref16_Best.l1 k l s p (i : Int) f ((j + 1 : Nat) : Int)) = windrowref16_Best.l1 k l s p (i : Int) f ((j + 1 : Nat) : Int) := by
        intro x
        unfold V at hv
        split
        · split
          · omega
          · rfl
        · rfl
      rw [e, go, decide_eq_false hv]
      simp
theorem outer {s p : Int} (hs : s ≤ 256) (l : List S59) (ha : ∀ c ∈ l, Ag c) (hl : l.length ≤ 1000000) (hE : (∃ c ∈ l, V s c) → ∃ c ∈ l, V s c ∧ beats s p l c = false) (d : Nat) : ∀ (k i : Nat), i + d = l.length → d * (l.length + 4) + 1 < k →
    (∀ c ∈ l.take i, V s c → beats s p l c = true) → ∃ z ok, windrowref16_Best.l0 k l s p (i : Int) = some (z, ok) ∧ IsB s p l z ok := by
  induction d with
  | zero =>
    intro k i hi hk h
    obtain ⟨k, rfl⟩ : ∃ m, k = m + 1 := ⟨k - 1, by omega⟩
    rw [List.take_of_length_le (by omega)] at h
    simp only [windrowref16_Best.l0]
    rw [if_neg (by omega)]
    refine ⟨0, false, rfl, Or.inr ⟨rfl, rfl, fun c hc hv => ?_⟩⟩
    obtain ⟨e, he, ve, be⟩ := hE ⟨c, hc, hv⟩
    rw [h e he ve] at be
    cases be
  | succ d ih =>
    intro k i hi hk h
    rw [Nat.succ_mul] at hk
    obtain ⟨k, rfl⟩ : ∃ m, k = m + 2 := ⟨k - 2, by omega⟩
    have hil : i < l.length := by omega
    have ht := mem_take_succ l i hil
    have hm := rd_mem l i hil
    simp only [windrowref16_Best.l0, windrowref16_Best.j1]
    rw [if_pos (by omega), if_pos (by omega)]
    have go : ∀ (f : Bool), f = decide (V s (rd_T59 l (i : Int))) → ∃ z ok, windrowref16_Best.l1 k l s p (i : Int) f 0 = some (z, ok) ∧ IsB s p l z ok := by
      intro f hf
      have e := inner (p := p) hs l ha hl i hil l.length k 0 f (by omega) (by omega) (fun g => of_decide_eq_true (hf ▸ g))
      rw [Int.natCast_zero] at e
      rw [e, List.drop_zero]
      by_cases g : (f && !beats s p l (rd_T59 l (i : Int))) = true
      · rw [if_pos g]
        rw [Bool.and_eq_true, Bool.not_eq_true'] at g
        have gv := of_decide_eq_true (hf ▸ g.1)
        refine ⟨_, _, rfl, Or.inl ⟨rfl, _, hm, gv, rfl, fun e he ve => ?_⟩⟩
        have := g.2
        unfold beats at this
        rw [List.any_eq_false] at this
        have := this e he
        rw [decide_eq_true ve, Bool.true_and] at this
        simpa using this
      · rw [if_neg g]
        refine ih (k - l.length - 1) (i + 1) (by omega) (by omega) (fun e he ve => ?_)
        rcases (ht e).1 he with q | q
        · exact h e q ve
        · rw [← q] at g hf
          rw [decide_eq_true ve] at hf
          rw [hf] at g
          simpa using g
    by_cases h1 : (rd_T59 l (i : Int)).f1 ≥ 0
    · rw [if_pos h1]
      refine go _ ?_
      rw [Bool.eq_iff_iff, decide_eq_true_eq, decide_eq_true_eq]; unfold V; omega
    · rw [if_neg h1]
      refine go _ ?_
      symm; rw [decide_eq_false_iff_not]; unfold V; omega
theorem law_eq (l : List S59) (n p : Int) (hn : 0 ≤ n ∧ n ≤ 255) : windrowlaw16_PickBests.f 4000 l n p = some true := by
  have hj : windrowlaw16_PickBests.j0 4000 l n p true = some true := by
    simp only [windrowlaw16_PickBests.j0]
    rw [if_pos trivial, awake_eq 3999 (by omega)]; rfl
  obtain ⟨b, hb, hr⟩ := right_eq l 4000 (by omega)
  unfold windrowlaw16_PickBests.f
  rw [awake_eq 4000 (by omega)]
  simp only [Option.bind_some]
  rw [if_pos trivial, hb]
  simp only [Option.bind_some]
  cases b
  · exact hj
  · obtain ⟨ha, hl⟩ := hr rfl
    simp only [windrowlaw16_PickBests.j0]
    rw [if_neg (by decide), size_eq hn]
    simp only [Option.bind_some]
    obtain ⟨z, ok, h1, h2⟩ := best_eq (s := 1 + n) (p := p) (by omega) l ha (by omega) 3999 (by omega)
    have h5 : l.length * (l.length + 4) ≤ 60 * 64 := Nat.mul_le_mul hl (by omega)
    obtain ⟨z', ok', h3, h4⟩ := outer (s := 1 + n) (p := p) (by omega) l ha (by omega) (fun hx => by
      rcases h2 with ⟨_, c, hc, vc, _, uc⟩ | ⟨_, _, no⟩
      · refine ⟨c, hc, vc, ?_⟩
        unfold beats
        rw [List.any_eq_false]
        intro d hd
        by_cases vd : V (1 + n) d
        · rw [uc d hd vd]; simp
        · rw [decide_eq_false vd]; simp
      · obtain ⟨c, hc, vc⟩ := hx
        exact absurd vc (no c hc)) l.length 3999 0 (by omega) (by omega) (fun c hc => by simp at hc)
    rw [h1]
    simp only [Option.bind_some]
    rw [show windrowref16_Best.f 3999 l (1 + n) p = some (z', ok') from h3]
    simp only [Option.bind_some]
    obtain ⟨rfl, rfl⟩ := h2.one (fun _ => Iff.rfl) h4
    rw [if_pos rfl]; simp
theorem walk (W : World) (A : Option Addr) (c : Nat) (l : List S59) (hlc : l.length ≤ c) (hC : Kd.C k59 W A l.length l) (_hg : ∀ x ∈ l, G59 x) (n : Int) (hn : (Lit.int .u8 n).wf = true) (p : Int) (_hp : (Lit.int .i64 p).wf = true) :
    Calls Try.prog 9 #[.slice A l.length c, .int .u8 n, .int .i64 p] W (Holds W) :=
  windrowlaw16_PickBests.calls 4000 _ _ _ _ _ true W hC hlc (law_eq l n p (bounds_u8 hn))
end Go.Proofs.Ytipbgldfomejpaa.PurePickBests
