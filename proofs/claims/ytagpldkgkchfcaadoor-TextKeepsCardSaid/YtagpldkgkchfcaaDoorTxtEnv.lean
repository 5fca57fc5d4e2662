/- Layer 25: what the row's laid variables give; the wrap with the laid list and the world's shape. -/
import Derived.Test.YtagpldkgkchfcaaDoorTxtI
import Derived.Test.YtagpldkgkchfcaaDoorRows
import Derived.HandedShaped
import Derived.Handed
import Derived.LaidLaws
import Derived.MakeChecks
import Derived.Stop.Joined
import Derived.Lay
import Derived.Stop.LaidErr
import Derived.Lib.LaidTab
namespace Go.Proofs.YtagpldkgkchfcaaDoor.Txt
set_option linter.unusedVariables false
open Go

theorem gPow : Tryd.prog.globalNamed "internal/strconv.uint64pow10" = some 1 := by kernel_rfl
theorem gSyn : Tryd.prog.globalNamed "strconv.ErrSyntax" = some 2 := by kernel_rfl
theorem gRng : Tryd.prog.globalNamed "strconv.ErrRange" = some 3 := by kernel_rfl
theorem gPowT : (Tryd.prog.globals[1]?).map (·.type) = some 121 := by kernel_rfl
theorem gSynT : (Tryd.prog.globals[2]?).map (·.type) = some 65 := by kernel_rfl
theorem gRngT : (Tryd.prog.globals[3]?).map (·.type) = some 65 := by kernel_rfl
theorem star : "*" ++ "errors.errorString" = "*errors.errorString" := by decide
theorem row134 (u : TypeId) (h : Tryd.prog.typeName? 3 u = some "*errors.errorString") : u = 134 :=
  typeName_ptr_named (nm := "errors.errorString") (by rw [star]; kernel_rfl) (by kernel_rfl) (by decide) u (by rw [star]; exact h)
theorem cells136 : Tryd.prog.cellsOf 136 = 1 := by kernel_rfl
theorem cells9 : Tryd.prog.cellsOf 9 = 1 := by kernel_rfl
abbrev laidT : List (String × DataW Unit) := Rows.textPrintsRow.laid
theorem env_of_laid {W : World} (hL : laidMetH Tryd.prog laidT W) (hS : W.ShapedOpen Tryd.prog) : Env W := by
  rw [MakeChecks.laidMetH_plain _ _ _ (by kernel_rfl)] at hL
  have h3 := hL.tail.tail
  have h5 := h3.tail.tail
  have h6 := h5.tail
  obtain ⟨a, sa, hva, _, _, _⟩ := laid_sentinel h5 gRng gRngT Tryd.underlying65 row134 Tryd.underlying134 Tryd.underlying136 rfl rfl Tryd.underlying9 cells136 cells9
  obtain ⟨b, sb, hvb, _, _, _⟩ := laid_sentinel h6 gSyn gSynT Tryd.underlying65 row134 Tryd.underlying134 Tryd.underlying136 rfl rfl Tryd.underlying9 cells136 cells9
  exact ⟨Lib.tabIs_of_head gPow gPowT Tryd.underlying121 Tryd.underlying37 (by kernel_rfl) (by kernel_rfl) h3, Tryd.laysM145.s1_3 W hS, ⟨_, _, hvb⟩, ⟨_, _, hva⟩⟩
section
open Go.ChangeShapes Go.WideShapes Go.ChangeAt Go.RowKit Arr
/-- The wrap of a row whose list of laid variables is not empty, with the world's shape at hand. -/
theorem handed_laid {H : Type} {enc : TypeId × Value → H} {C : Checked} {os : Os} {f : FuncId} {fn : Func} {s : ChangeSpec} {conds : List PathCond} {L : List (String × DataW Unit)} (own : ownKnob C.prog.godebug = none) (started : os.Started) (noInit : C.prog.inits.idxOf? f = none) (hfn : C.prog.funcs[f]? = some fn)
    (witness : ∃ (w : World) (tape : Tape) (i : Input), w.os = os ∧ (w.forCall tape i).Shaped C.prog ∧ i.vars = [] ∧ Input.okWide C.prog (w.forCall tape i) .any w.heap.size f i ∧
      ((s.pre enc C.prog fn conds false (w.forCall tape i).memory i.args ∧ laidMetH C.prog L (w.forCall tape i).memory) ∧ sizedMet enc C.prog fn (OpenSpec.ofChange s) false (w.forCall tape i).memory i.args) ∧ ({} : Assume).holds C.prog (lone (Frame.enter C.prog f i.args .normal) [] (w.forCall tape i)))
    (walk : ∀ (W : World) (base : Nat) (args : Array Value) (ds gs : List (DataW H)) (before : List MemPlace),
      (∀ (j : Nat) t v, fn.params[j]? = some t → args[j]? = some v → Value.okWide C.prog W .any base t v) →
      DataW.Whole enc C.prog fn.params.toList s.vars false W args.toList ds gs before →
      (DataW.weightsEach C.prog (fn.params.toList ++ s.plain.varTypes C.prog) (ds ++ gs)).all (· ≤ reachBytes) = true → laidMetH C.prog L W → W.ShapedOpen C.prog →
      Calls C.prog f args W fun e W' => ∃ v, e = .returned v ∧ s.post enc C.prog fn false true false false W args v W') :
    ReturnsInHanded {} C os f .any (fun w args => (s.pre enc C.prog fn conds false w args ∧ laidMetH C.prog L w) ∧ sizedMet enc C.prog fn (OpenSpec.ofChange s) false w args) (s.post enc C.prog fn false true false false) :=
  returnsInHanded_of_calls own started noInit witness fun w tape i _ hsh _ hok hpre _ => by
    obtain ⟨_, _, _, g, hg, _, _, _, _, hval⟩ := hok
    obtain rfl : g = fn := Option.some.inj (hg.symm.trans hfn)
    obtain ⟨⟨⟨ds, gs, before, hw, _⟩, hx⟩, hz⟩ := hpre
    refine (walk (w.forCall tape i) w.heap.size i.args ds gs before hval (DataW.Whole.of_heap (by rfl) hw) (hz.weights hw) (laidMetH.of_heap (w' := w.forCall tape i) (by rfl) hx) hsh).mono ?_
    rintro e W' ⟨v, rfl, hp⟩
    exact ChangeSpec.post_blind hp
theorem bytes3 : Tryd.prog.bytesOf 3 = 8 := by kernel_rfl
theorem bytes41 : Tryd.prog.bytesOf 41 = 128 := by kernel_rfl
/-- What came in, as the walks ask for it. -/
theorem args_good {w : World} {A : Option Addr} {l : List Step} (hC : Go.Proofs.YtagpldkgkchfcaaDoorW.PrintWords.Kd.C k41 w A l.length l) (hg : l.length * Tryd.prog.bytesOf 41 ≤ reachBytes ∧ ∀ x ∈ l, gStep x) : (∀ x ∈ l, Good x) ∧ l.length ≤ 281474976710656 ∧ ∀ x ∈ l, x.keep.length ≤ 281474976710656 := by
  obtain ⟨h1, h2⟩ := hg
  rw [bytes41] at h1
  unfold reachBytes at h1
  refine ⟨fun x hx => ?_, by omega, fun x hx => ?_⟩
  · obtain ⟨i, hi, rfl⟩ := List.getElem_of_mem hx
    obtain ⟨_, _, _, _, _, hl, _, _⟩ := at41 hC i hi
    have e : sg l i = l[i] := by unfold sg; rw [List.getD_eq_getElem?_getD, List.getElem?_eq_getElem hi]; rfl
    rw [e] at hl
    exact good_of (h2 _ hx) hl
  · have := (h2 x hx).2.2.2.1.1
    change x.keep.length * _ ≤ _ at this
    rw [bytes3] at this
    unfold reachBytes at this
    omega
theorem arg_good {w : World} {x : Step} {cs : List Value} (hK : Go.Proofs.YtagpldkgkchfcaaDoorW.PrintWords.Kd.K k41 w x cs) (hg : gStep x) : Good x ∧ x.keep.length ≤ 281474976710656 ∧ ∃ A c, cs = stepC x (.slice A x.keep.length c) ∧ x.keep.length ≤ c ∧ Go.Proofs.YtagpldkgkchfcaaDoorW.PrintWords.Kd.C (Go.Proofs.YtagpldkgkchfcaaDoorW.PrintWords.Kd.int .i64) w A x.keep.length x.keep := by
  obtain ⟨A, c, h1, h2, h3, h4⟩ := k41_open hK
  refine ⟨good_of hg h2, ?_, A, c, h1, h3, h4⟩
  have := hg.2.2.2.1.1
  change x.keep.length * _ ≤ _ at this
  rw [bytes3] at this
  unfold reachBytes at this
  omega
end
end Go.Proofs.YtagpldkgkchfcaaDoor.Txt
