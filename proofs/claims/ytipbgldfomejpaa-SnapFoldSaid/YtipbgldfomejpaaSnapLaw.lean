/- What layer 17's statements' walks share: the acts, done one after another. -/
import Derived.Test.YtipbgldfomejpaaSnapAwake
namespace Go.Proofs.Ytipbgldfomejpaa.Snap
set_option linter.unusedSimpArgs false
set_option linter.unusedVariables false
open Go.RowKit Go.Proofs.YtipbgldfomejpaaW.PrintWords Go.Proofs.YtipbgldfomejpaaW.PrintLast Go.Proofs.YtipbgldfomejpaaW.PrintMore Arr

theorem bel_cell {w w' : World} (h : Below w.heap.size w w') {a : Addr} {v : Value} (hc : w.cell? a = some v) : w'.cell? a = some v := by
  rw [h.cell (World.block_lt_of_cell? w a hc)]
  exact hc
abbrev Holds (W : World) : Ending → World → Prop := fun e w' => e = .returned (.bool true) ∧ Below W.heap.size W w'
def doc0 : All × Nat := ([], 0)
def doc (l : List Act) : All × Nat := doTo doc0 l
theorem act_calls {W wr : World} {A : Option Addr} {l : List Act} (HC : Kd.C k48 W A l.length l) (HG : gActs l) (HB : Below W.heap.size W wr) {s ob lb k : Nat} (h1 : W.heap.size ≤ s) (h2 : W.heap.size ≤ ob) (h3 : W.heap.size ≤ lb) (HD : DocAt wr s ob lb (doc (l.take k)) (oldsTo l k)) (hk : k < l.length) (hf : tot l l.length ≤ 200) :
    ∃ ad Ao co, A = some ad ∧ (∀ j u, (actC (ac l k) Ao co)[j]? = some u → wr.cell? ((ad.add (k * 3)).add j) = some u) ∧
      Calls Try.prog 18 #[.pointer (some ⟨s, 0, none⟩), .agg (actC (ac l k) Ao co).toArray] wr fun e w' => e = .returned (.tuple #[]) ∧ DocAt w' s ob lb (doc (l.take (k + 1))) (oldsTo l (k + 1)) ∧ Below W.heap.size W w' := by
  obtain ⟨ad, Ao, co, e, hc', _, hCO'⟩ := at48v HC k hk
  have hc : ∀ j u, (actC (ac l k) Ao co)[j]? = some u → wr.cell? ((ad.add (k * 3)).add j) = some u := fun j u hu => bel_cell HB (hc' j u hu)
  have ho := oldsTo_le l (k + 1) (by omega)
  have ho' := oldsTo_succ l k hk
  have hl := doTo_len l k (by omega)
  have hll := oldsTo_le l 0 (by omega)
  refine ⟨ad, Ao, co, e, hc, (do_calls wr s ob lb _ _ HD Ao co (ac l k) (fun w1 hM => Kd.C_below hCO' (hM.below _ W HB HB.size h1 h2 h3)) (HG.2 _ (ac_mem l k hk)) (by show (doTo doc0 (l.take k)).1.length ≤ _; unfold doc0; omega) (by omega)).mono ?_⟩
  rintro x w' ⟨hx, hD, hM⟩
  refine ⟨hx, ?_, hM.below _ W HB HB.size h1 h2 h3⟩
  unfold doc at hD ⊢
  rw [doTo_succ _ _ _ hk, ho']
  exact hD
theorem ref_none {all : All} {gone : Nat} {b n : Int} (h : lastOf all b ≤ n) : RefIs all gone b n old0 false := .inr ⟨rfl, rfl, fun j hj hh => by
  have := lastTo_max all b all.length j hj hh.1
  unfold lastOf at h
  omega⟩
theorem ref_now {all : All} {gone : Nat} {b n : Int} (h : (all.length : Int) ≤ n) : RefIs all gone b n old0 false := .inr ⟨rfl, rfl, fun j hj hh => by omega⟩
theorem canon_full (all : All) : canon all all.length = [] := by
  apply List.eq_nil_of_length_eq_zero
  rw [canon_len, sizeTo_lo _ _ _ (Nat.le_refl _)]
theorem canon_mono (all : All) {g g' : Nat} (h : g ≤ g') : (canon all g').length ≤ (canon all g).length := by
  have h1 := canon_forget all g (g' : Int) g' (fun i _ => by omega)
  rw [← h1]
  exact List.length_filter_le _ _
/-- What is read behind the forgotten is as before. -/
theorem ref_forget {all : All} {g g' : Nat} {b n : Int} {o : Old} {ok : Bool} (h : RefIs all g b n o ok) (hg : ∀ i : Nat, i < all.length → n ≤ (i : Int) → (g ≤ i ↔ g' ≤ i)) : RefIs all g' b n o ok := by
  rcases h with ⟨rfl, i, h1, h2, h3, h4, h5⟩ | ⟨rfl, rfl, h1⟩
  · exact .inl ⟨rfl, i, h1, h2, (hg i h1 h2).1 h3, h4, fun j hj hh => h5 j hj ⟨hh.1, hh.2.1, (hg j (by omega) hh.2.1).2 hh.2.2⟩⟩
  · exact .inr ⟨rfl, rfl, fun j hj hh => h1 j hj ⟨hh.1, hh.2.1, (hg j hj hh.2.1).2 hh.2.2⟩⟩
section
variable {P : Program} {ops : Array Oper} {rest : List Oper} {o : Oper} {a : Go.Act} {Q : Exit → Go.Act → World → Prop} {W : World}
theorem size48 : (Try.prog.info? 48).map (·.size) = some 3 := by kernel_rfl
theorem load48 (hgd : o.guard = none) (p : Operand) (ho : o.op = .load 48 p) (ad : Addr) (hp : a.eval p = .pointer (some ad)) (f : Act) (A : Option Addr) (c : Nat) (hc : ∀ j u, (actC f A c)[j]? = some u → W.cell? (ad.add j) = some u)
    (h : wpList Try.prog ops Q rest (a.put o.dst (.agg (actC f A c).toArray)) W) : wpList Try.prog ops Q (o :: rest) a W :=
  wpl_load hgd 48 p ho ad hp (actC f A c) Try.underlying48 rfl (by exact size48) hc h
end
end Go.Proofs.Ytipbgldfomejpaa.Snap
