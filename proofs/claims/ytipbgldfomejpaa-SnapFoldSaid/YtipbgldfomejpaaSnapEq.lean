/- Kept blocks compared; what is read is well formed. -/
import Derived.Test.YtipbgldfomejpaaSnapLaw
namespace Go.Proofs.Ytipbgldfomejpaa.Snap
set_option linter.unusedSimpArgs false
set_option linter.unusedVariables false
open Go.RowKit Go.Proofs.YtipbgldfomejpaaW.PrintWords Go.Proofs.YtipbgldfomejpaaW.PrintLast Go.Proofs.YtipbgldfomejpaaW.PrintMore Arr

theorem eqg29 : Try.prog.eqGuardType Try.prog.depth 29 = false := by kernel_rfl
theorem lits29 (o : Old) (hl : o.data.length = 32) (hw : gOld o) : Try.prog.keyLits 4 29 (oldC o) = some ([Lit.int .i64 o.blk, Lit.bool o.has] ++ o.data.map (Lit.int .u8)) := by
  obtain ⟨hg, _, hp⟩ := hw
  have h1 := lits_int (P := Try.prog) (D := 2) (e := 3) (k := .i64) Try.underlying3 hg
  have h2 := lits_bool (P := Try.prog) (D := 2) (e := 4) Try.underlying4 o.has
  have h3 := lits_ints (P := Try.prog) (D := 1) (T := 27) (e := 5) (n := 32) (k := .u8) Try.underlying27 Try.underlying5 (by kernel_rfl) (by kernel_rfl) hl hp
  have hlen : (oldC o).length = Try.prog.cellsOf 29 := by rw [oldC_len o hl]; kernel_rfl
  have c3 : Try.prog.cellsOf 3 = 1 := by kernel_rfl
  have c4 : Try.prog.cellsOf 4 = 1 := by kernel_rfl
  have c27 : Try.prog.cellsOf 27 = 32 := by kernel_rfl
  have e1 : ((oldC o).drop 0).take 1 = [Value.int .i64 o.blk] := rfl
  have e2 : ((oldC o).drop 1).take 1 = [Value.bool o.has] := rfl
  have e3 : ((oldC o).drop 2).take 32 = encs (Value.int .u8) o.data := by
    show (encs (Value.int .u8) o.data).take 32 = _
    rw [List.take_of_length_le (by simp [encs, hl])]
  unfold Program.keyLits
  rw [Try.underlying29]
  show (if _ then _ else _) = _
  rw [if_pos ⟨hlen, by decide +kernel⟩]
  simp only [List.mapM_cons, List.mapM_nil, c3, c4, c27]
  rw [e1, e2, e3, h1, h2, h3]
  simp
theorem eq29 {o : Old} (hl : o.data.length = 32) (wl : gOld o) (w : World) : (Op.equal 29 (.agg (oldC o).toArray) (.agg (oldC o).toArray)).run Try.prog w = .ok true w :=
  run_equal_cells (P := Try.prog) (T := 29) (m := 5) (by decide) (by kernel_rfl) Try.underlying29 rfl (by rw [oldC_len o hl]; kernel_rfl) (by rw [oldC_len o hl]; kernel_rfl) (lits29 o hl wl) (lits29 o hl wl) (by simp) w
theorem gold0 : gOld old0 := by refine ⟨by decide, trivial, fun x hx => ?_⟩; rw [List.eq_of_mem_replicate hx]; decide
def gAll (all : All) : Prop := ∀ x ∈ all, ∀ o ∈ x, gOld o
theorem inL_mem {l : List Old} {b : Int} {o : Old} (h : inL l b = some o) : o ∈ l := List.mem_of_find?_eq_some h
theorem ref_good {all : All} {gone : Nat} {b n : Int} {o : Old} {ok : Bool} (h : RefIs all gone b n o ok) (hg : gAll all) : gOld o := by
  rcases h with ⟨rfl, i, h1, h2, h3, h4, h5⟩ | ⟨rfl, rfl, h1⟩
  · exact hg _ (al_mem all i h1) _ (inL_mem h4)
  · exact gold0
theorem doc_good (l : List Act) (hG : ∀ a ∈ l, gAct a) : ∀ k, k ≤ l.length → gAll (doc (l.take k)).1
  | 0, _ => fun x hx => by cases hx
  | k + 1, h => by
    unfold doc
    rw [doTo_succ _ _ _ (by omega)]
    have ih := doc_good l hG k (by omega)
    unfold doc at ih
    unfold doAct
    split
    · intro x hx o ho
      rcases List.mem_append.1 hx with hx | hx
      · exact ih x hx o ho
      · rw [List.mem_singleton.1 hx] at ho
        exact (hG _ (ac_mem l k (by omega))).2.1.2 o ho
    · exact ih
section
variable {w : World} {s ob lb m g : Nat} {st : All × Nat} {o : Old}
theorem DocAt.apart (h : DocAt w s ob lb st m) (ho : OB w g o) : g ≠ s ∧ g ≠ ob ∧ g ≠ lb := by
  have e1 := h.1.blk.ne ho (by decide)
  have e2 := h.1.old.ne_blk ho
  have e3 := h.1.last.ne_blk ho
  omega
theorem DocAt.moves {w1 : World} (h : DocAt w s ob lb st m) (ho : OB w g o) (hM : Moves w w1 s ob lb) : OB w1 g o := hM.blk ho (h.apart ho).1 (h.apart ho).2.1 (h.apart ho).2.2
end
end Go.Proofs.Ytipbgldfomejpaa.Snap
