/-
  No cell of these rows narrows 'for every input' (looked for: loops, veiled, ifaces, maps, wideKeys, modest, calm, conditions, laid).
  DERIVED. THE GIVEN ROWS OF THIS SEAT. 15 by the template 'for every input the law returns true; each argument reads behind the call as it read before'; 0 by the template 'total and deterministic' (their statements: YtmkkkenpjealdaaTotals.lean).
  GIVEN WITH THE SEED: the statements are not yours to turn. If you find one false, say at which input.
  Laid BY PROGRAM, IN A SANDBOX (cutbox-rows.mjs): the forced cells as the released guide's own fill.sh prints them over the translation c8c9a16200ebedb8… (all of the seat's roots in one cut). By AI agents, Wed Nov 11 2026. No macro, syntax, notation, axiom, sorry.
-/
import Derived.Test.YtmkkkenpjealdaaChecked
import GoSem.Claim
import GoSem.ClaimJoined
import GoSem.ClaimMapViews
import Derived.JoinedTies
import Derived.KernelRfl
namespace Go.Proofs.Ytmkkkenpjealdaa
/- THE CELL 'sum', in the pinned program and in every row, IS THE sha256 OF THE DUMP (.gsa) THAT YtmkkkenpjealdaaProg.lean LOADS. Nothing in Lean hashes anything: it is a label: what it is worth is what the hold of that sum in a sandbox is worth. -/
noncomputable def Try.pinned : Pinned := { name := "ytmkkkenpjealdaa", sum := "c8c9a16200ebedb8900e49b3aca2f3bb3bf84eaceeec9c64415abf27fcad906c", checked := Try.checked }
namespace Rows
def none {H : Type} : Left H := { results := [], args := [] }

/-- 'windrowlaw07.PageLays': WHATEVER THE INPUT: true; the input reads as it did. -/
def pageLaysSpec : ChangeSpec := { name := "pageLays", fn := fun _ => fun
  | [d] => { results := [.lit (.bool true)], args := [d] }
  | _ => none }
def pageLaysRow : OpenClaim := { program := "ytmkkkenpjealdaa", sum := "c8c9a16200ebedb8900e49b3aca2f3bb3bf84eaceeec9c64415abf27fcad906c", func := "windrow/windrowlaw07.PageLays", spec := "pageLays", apart := false }
def PageLaysSaid : Prop := pageLaysRow.holds Try.pinned (OpenSpec.ofChange pageLaysSpec)

/-- ITS FALSE NEIGHBOUR: 'it returns false'. Refute it at one input. -/
def pageLaysWrong : ChangeSpec := { name := "pageLays", fn := fun _ => fun
  | [d] => { results := [.lit (.bool false)], args := [d] }
  | _ => none }
def PageLaysWrongFalsely : Prop := pageLaysRow.holds Try.pinned (OpenSpec.ofChange pageLaysWrong)

/-- 'windrowlaw07.PageReads': WHATEVER THE INPUT: true; the input reads as it did. -/
def pageReadsSpec : ChangeSpec := { name := "pageReads", fn := fun _ => fun
  | [d1, d2] => { results := [.lit (.bool true)], args := [d1, d2] }
  | _ => none }
def pageReadsRow : OpenClaim := { program := "ytmkkkenpjealdaa", sum := "c8c9a16200ebedb8900e49b3aca2f3bb3bf84eaceeec9c64415abf27fcad906c", func := "windrow/windrowlaw07.PageReads", spec := "pageReads", apart := false }
def PageReadsSaid : Prop := pageReadsRow.holds Try.pinned (OpenSpec.ofChange pageReadsSpec)

/-- ITS FALSE NEIGHBOUR: 'it returns false'. Refute it at one input. -/
def pageReadsWrong : ChangeSpec := { name := "pageReads", fn := fun _ => fun
  | [d1, d2] => { results := [.lit (.bool false)], args := [d1, d2] }
  | _ => none }
def PageReadsWrongFalsely : Prop := pageReadsRow.holds Try.pinned (OpenSpec.ofChange pageReadsWrong)

/-- 'windrowlaw07.PageBack': WHATEVER THE INPUT: true; the input reads as it did. -/
def pageBackSpec : ChangeSpec := { name := "pageBack", fn := fun _ => fun
  | [d1, d2] => { results := [.lit (.bool true)], args := [d1, d2] }
  | _ => none }
def pageBackRow : OpenClaim := { program := "ytmkkkenpjealdaa", sum := "c8c9a16200ebedb8900e49b3aca2f3bb3bf84eaceeec9c64415abf27fcad906c", func := "windrow/windrowlaw07.PageBack", spec := "pageBack", apart := false }
def PageBackSaid : Prop := pageBackRow.holds Try.pinned (OpenSpec.ofChange pageBackSpec)

/-- ITS FALSE NEIGHBOUR: 'it returns false'. Refute it at one input. -/
def pageBackWrong : ChangeSpec := { name := "pageBack", fn := fun _ => fun
  | [d1, d2] => { results := [.lit (.bool false)], args := [d1, d2] }
  | _ => none }
def PageBackWrongFalsely : Prop := pageBackRow.holds Try.pinned (OpenSpec.ofChange pageBackWrong)

/-- 'windrowlaw07.PageOnly': WHATEVER THE INPUT: true; the input reads as it did. -/
def pageOnlySpec : ChangeSpec := { name := "pageOnly", fn := fun _ => fun
  | [d1, d2, d3] => { results := [.lit (.bool true)], args := [d1, d2, d3] }
  | _ => none }
def pageOnlyRow : OpenClaim := { program := "ytmkkkenpjealdaa", sum := "c8c9a16200ebedb8900e49b3aca2f3bb3bf84eaceeec9c64415abf27fcad906c", func := "windrow/windrowlaw07.PageOnly", spec := "pageOnly", apart := false }
def PageOnlySaid : Prop := pageOnlyRow.holds Try.pinned (OpenSpec.ofChange pageOnlySpec)

/-- ITS FALSE NEIGHBOUR: 'it returns false'. Refute it at one input. -/
def pageOnlyWrong : ChangeSpec := { name := "pageOnly", fn := fun _ => fun
  | [d1, d2, d3] => { results := [.lit (.bool false)], args := [d1, d2, d3] }
  | _ => none }
def PageOnlyWrongFalsely : Prop := pageOnlyRow.holds Try.pinned (OpenSpec.ofChange pageOnlyWrong)

/-- 'windrowlaw06.RecLays': WHATEVER THE INPUT: true; the input reads as it did. -/
def recLaysSpec : ChangeSpec := { name := "recLays", fn := fun _ => fun
  | [d] => { results := [.lit (.bool true)], args := [d] }
  | _ => none }
def recLaysRow : OpenClaim := { program := "ytmkkkenpjealdaa", sum := "c8c9a16200ebedb8900e49b3aca2f3bb3bf84eaceeec9c64415abf27fcad906c", func := "windrow/windrowlaw06.RecLays", spec := "recLays", apart := false }
def RecLaysSaid : Prop := recLaysRow.holds Try.pinned (OpenSpec.ofChange recLaysSpec)

/-- ITS FALSE NEIGHBOUR: 'it returns false'. Refute it at one input. -/
def recLaysWrong : ChangeSpec := { name := "recLays", fn := fun _ => fun
  | [d] => { results := [.lit (.bool false)], args := [d] }
  | _ => none }
def RecLaysWrongFalsely : Prop := recLaysRow.holds Try.pinned (OpenSpec.ofChange recLaysWrong)

/-- 'windrowlaw06.RecReads': WHATEVER THE INPUT: true; the input reads as it did. -/
def recReadsSpec : ChangeSpec := { name := "recReads", fn := fun _ => fun
  | [d1, d2] => { results := [.lit (.bool true)], args := [d1, d2] }
  | _ => none }
def recReadsRow : OpenClaim := { program := "ytmkkkenpjealdaa", sum := "c8c9a16200ebedb8900e49b3aca2f3bb3bf84eaceeec9c64415abf27fcad906c", func := "windrow/windrowlaw06.RecReads", spec := "recReads", apart := false }
def RecReadsSaid : Prop := recReadsRow.holds Try.pinned (OpenSpec.ofChange recReadsSpec)

/-- ITS FALSE NEIGHBOUR: 'it returns false'. Refute it at one input. -/
def recReadsWrong : ChangeSpec := { name := "recReads", fn := fun _ => fun
  | [d1, d2] => { results := [.lit (.bool false)], args := [d1, d2] }
  | _ => none }
def RecReadsWrongFalsely : Prop := recReadsRow.holds Try.pinned (OpenSpec.ofChange recReadsWrong)

/-- 'windrowlaw06.RecBack': WHATEVER THE INPUT: true; the input reads as it did. -/
def recBackSpec : ChangeSpec := { name := "recBack", fn := fun _ => fun
  | [d1, d2, d3] => { results := [.lit (.bool true)], args := [d1, d2, d3] }
  | _ => none }
def recBackRow : OpenClaim := { program := "ytmkkkenpjealdaa", sum := "c8c9a16200ebedb8900e49b3aca2f3bb3bf84eaceeec9c64415abf27fcad906c", func := "windrow/windrowlaw06.RecBack", spec := "recBack", apart := false }
def RecBackSaid : Prop := recBackRow.holds Try.pinned (OpenSpec.ofChange recBackSpec)

/-- ITS FALSE NEIGHBOUR: 'it returns false'. Refute it at one input. -/
def recBackWrong : ChangeSpec := { name := "recBack", fn := fun _ => fun
  | [d1, d2, d3] => { results := [.lit (.bool false)], args := [d1, d2, d3] }
  | _ => none }
def RecBackWrongFalsely : Prop := recBackRow.holds Try.pinned (OpenSpec.ofChange recBackWrong)

/-- 'windrowlaw06.RecUnlike': WHATEVER THE INPUT: true; the input reads as it did. -/
def recUnlikeSpec : ChangeSpec := { name := "recUnlike", fn := fun _ => fun
  | [d1, d2] => { results := [.lit (.bool true)], args := [d1, d2] }
  | _ => none }
def recUnlikeRow : OpenClaim := { program := "ytmkkkenpjealdaa", sum := "c8c9a16200ebedb8900e49b3aca2f3bb3bf84eaceeec9c64415abf27fcad906c", func := "windrow/windrowlaw06.RecUnlike", spec := "recUnlike", apart := false }
def RecUnlikeSaid : Prop := recUnlikeRow.holds Try.pinned (OpenSpec.ofChange recUnlikeSpec)

/-- ITS FALSE NEIGHBOUR: 'it returns false'. Refute it at one input. -/
def recUnlikeWrong : ChangeSpec := { name := "recUnlike", fn := fun _ => fun
  | [d1, d2] => { results := [.lit (.bool false)], args := [d1, d2] }
  | _ => none }
def RecUnlikeWrongFalsely : Prop := recUnlikeRow.holds Try.pinned (OpenSpec.ofChange recUnlikeWrong)

/-- 'windrowlaw06.RecOnly': WHATEVER THE INPUT: true; the input reads as it did. -/
def recOnlySpec : ChangeSpec := { name := "recOnly", fn := fun _ => fun
  | [d1, d2] => { results := [.lit (.bool true)], args := [d1, d2] }
  | _ => none }
def recOnlyRow : OpenClaim := { program := "ytmkkkenpjealdaa", sum := "c8c9a16200ebedb8900e49b3aca2f3bb3bf84eaceeec9c64415abf27fcad906c", func := "windrow/windrowlaw06.RecOnly", spec := "recOnly", apart := false }
def RecOnlySaid : Prop := recOnlyRow.holds Try.pinned (OpenSpec.ofChange recOnlySpec)

/-- ITS FALSE NEIGHBOUR: 'it returns false'. Refute it at one input. -/
def recOnlyWrong : ChangeSpec := { name := "recOnly", fn := fun _ => fun
  | [d1, d2] => { results := [.lit (.bool false)], args := [d1, d2] }
  | _ => none }
def RecOnlyWrongFalsely : Prop := recOnlyRow.holds Try.pinned (OpenSpec.ofChange recOnlyWrong)

/-- 'windrowlaw08.MastLays': WHATEVER THE INPUT: true; the input reads as it did. -/
def mastLaysSpec : ChangeSpec := { name := "mastLays", fn := fun _ => fun
  | [d] => { results := [.lit (.bool true)], args := [d] }
  | _ => none }
def mastLaysRow : OpenClaim := { program := "ytmkkkenpjealdaa", sum := "c8c9a16200ebedb8900e49b3aca2f3bb3bf84eaceeec9c64415abf27fcad906c", func := "windrow/windrowlaw08.MastLays", spec := "mastLays", apart := false }
def MastLaysSaid : Prop := mastLaysRow.holds Try.pinned (OpenSpec.ofChange mastLaysSpec)

/-- ITS FALSE NEIGHBOUR: 'it returns false'. Refute it at one input. -/
def mastLaysWrong : ChangeSpec := { name := "mastLays", fn := fun _ => fun
  | [d] => { results := [.lit (.bool false)], args := [d] }
  | _ => none }
def MastLaysWrongFalsely : Prop := mastLaysRow.holds Try.pinned (OpenSpec.ofChange mastLaysWrong)

/-- 'windrowlaw08.MastReads': WHATEVER THE INPUT: true; the input reads as it did. -/
def mastReadsSpec : ChangeSpec := { name := "mastReads", fn := fun _ => fun
  | [d1, d2] => { results := [.lit (.bool true)], args := [d1, d2] }
  | _ => none }
def mastReadsRow : OpenClaim := { program := "ytmkkkenpjealdaa", sum := "c8c9a16200ebedb8900e49b3aca2f3bb3bf84eaceeec9c64415abf27fcad906c", func := "windrow/windrowlaw08.MastReads", spec := "mastReads", apart := false }
def MastReadsSaid : Prop := mastReadsRow.holds Try.pinned (OpenSpec.ofChange mastReadsSpec)

/-- ITS FALSE NEIGHBOUR: 'it returns false'. Refute it at one input. -/
def mastReadsWrong : ChangeSpec := { name := "mastReads", fn := fun _ => fun
  | [d1, d2] => { results := [.lit (.bool false)], args := [d1, d2] }
  | _ => none }
def MastReadsWrongFalsely : Prop := mastReadsRow.holds Try.pinned (OpenSpec.ofChange mastReadsWrong)

/-- 'windrowlaw08.MastBack': WHATEVER THE INPUT: true; the input reads as it did. -/
def mastBackSpec : ChangeSpec := { name := "mastBack", fn := fun _ => fun
  | [d1, d2, d3] => { results := [.lit (.bool true)], args := [d1, d2, d3] }
  | _ => none }
def mastBackRow : OpenClaim := { program := "ytmkkkenpjealdaa", sum := "c8c9a16200ebedb8900e49b3aca2f3bb3bf84eaceeec9c64415abf27fcad906c", func := "windrow/windrowlaw08.MastBack", spec := "mastBack", apart := false }
def MastBackSaid : Prop := mastBackRow.holds Try.pinned (OpenSpec.ofChange mastBackSpec)

/-- ITS FALSE NEIGHBOUR: 'it returns false'. Refute it at one input. -/
def mastBackWrong : ChangeSpec := { name := "mastBack", fn := fun _ => fun
  | [d1, d2, d3] => { results := [.lit (.bool false)], args := [d1, d2, d3] }
  | _ => none }
def MastBackWrongFalsely : Prop := mastBackRow.holds Try.pinned (OpenSpec.ofChange mastBackWrong)

/-- 'windrowlaw08.MastOnly': WHATEVER THE INPUT: true; the input reads as it did. -/
def mastOnlySpec : ChangeSpec := { name := "mastOnly", fn := fun _ => fun
  | [d1, d2] => { results := [.lit (.bool true)], args := [d1, d2] }
  | _ => none }
def mastOnlyRow : OpenClaim := { program := "ytmkkkenpjealdaa", sum := "c8c9a16200ebedb8900e49b3aca2f3bb3bf84eaceeec9c64415abf27fcad906c", func := "windrow/windrowlaw08.MastOnly", spec := "mastOnly", apart := false }
def MastOnlySaid : Prop := mastOnlyRow.holds Try.pinned (OpenSpec.ofChange mastOnlySpec)

/-- ITS FALSE NEIGHBOUR: 'it returns false'. Refute it at one input. -/
def mastOnlyWrong : ChangeSpec := { name := "mastOnly", fn := fun _ => fun
  | [d1, d2] => { results := [.lit (.bool false)], args := [d1, d2] }
  | _ => none }
def MastOnlyWrongFalsely : Prop := mastOnlyRow.holds Try.pinned (OpenSpec.ofChange mastOnlyWrong)

/-- 'windrowlaw07.PageAlone': WHATEVER THE INPUT: true; the input reads as it did. -/
def pageAloneSpec : ChangeSpec := { name := "pageAlone", fn := fun _ => fun
  | [d1, d2] => { results := [.lit (.bool true)], args := [d1, d2] }
  | _ => none }
def pageAloneRow : OpenClaim := { program := "ytmkkkenpjealdaa", sum := "c8c9a16200ebedb8900e49b3aca2f3bb3bf84eaceeec9c64415abf27fcad906c", func := "windrow/windrowlaw07.PageAlone", spec := "pageAlone", apart := false }
def PageAloneSaid : Prop := pageAloneRow.holds Try.pinned (OpenSpec.ofChange pageAloneSpec)

/-- ITS FALSE NEIGHBOUR: 'it returns false'. Refute it at one input. -/
def pageAloneWrong : ChangeSpec := { name := "pageAlone", fn := fun _ => fun
  | [d1, d2] => { results := [.lit (.bool false)], args := [d1, d2] }
  | _ => none }
def PageAloneWrongFalsely : Prop := pageAloneRow.holds Try.pinned (OpenSpec.ofChange pageAloneWrong)

/-- 'windrowlaw08.MastAlone': WHATEVER THE INPUT: true; the input reads as it did. -/
def mastAloneSpec : ChangeSpec := { name := "mastAlone", fn := fun _ => fun
  | [d1, d2, d3, d4] => { results := [.lit (.bool true)], args := [d1, d2, d3, d4] }
  | _ => none }
def mastAloneRow : OpenClaim := { program := "ytmkkkenpjealdaa", sum := "c8c9a16200ebedb8900e49b3aca2f3bb3bf84eaceeec9c64415abf27fcad906c", func := "windrow/windrowlaw08.MastAlone", spec := "mastAlone", apart := false }
def MastAloneSaid : Prop := mastAloneRow.holds Try.pinned (OpenSpec.ofChange mastAloneSpec)

/-- ITS FALSE NEIGHBOUR: 'it returns false'. Refute it at one input. -/
def mastAloneWrong : ChangeSpec := { name := "mastAlone", fn := fun _ => fun
  | [d1, d2, d3, d4] => { results := [.lit (.bool false)], args := [d1, d2, d3, d4] }
  | _ => none }
def MastAloneWrongFalsely : Prop := mastAloneRow.holds Try.pinned (OpenSpec.ofChange mastAloneWrong)

/- THE SECOND FORM. 'bulk': how many values and letters a reading holds, each counted each time it is reached (what is shared counts as often as it is met; a slice's spare places count too). A statement '..UptoSaid' is the law's where the arguments, and the package variables that the reading takes, are together of bulk at most 1048576: NARROWER than '..Said'. Prove '..Said' where nothing that the law and all that it calls make is longer than what came in: it says more and counts as full. Else prove '..UptoSaid'. A law counts once. -/
mutual
def uptoBulk {H : Type} : DataW H → Nat
  | .lit (.string bytes) => bytes.length + 1
  | .lit _ => 1
  | .nil => 1
  | .ptr d => uptoBulk d + 1
  | .slice elems spare => uptoBulkAll elems + uptoBulkAll spare + 1
  | .agg parts => uptoBulkAll parts + 1
  | .iface _ d => uptoBulk d + 1
  | .map entries => uptoBulkEntries entries + 1
  | .held _ => 1
def uptoBulkAll {H : Type} : List (DataW H) → Nat
  | [] => 0
  | d :: r => uptoBulk d + uptoBulkAll r
def uptoBulkEntries {H : Type} : List (Lit × DataW H) → Nat
  | [] => 0
  | x :: r => uptoBulkEntry x + uptoBulkEntries r
def uptoBulkEntry {H : Type} : Lit × DataW H → Nat
  | (.string bytes, d) => bytes.length + uptoBulk d + 1
  | (_, d) => uptoBulk d + 1
 end
def uptoSmall : (H : Type) → List (DataW H) → Bool := fun _ ds => decide (uptoBulkAll ds ≤ 1048576)
def OpenSpec.upto (s : _root_.Go.ChangeSpec) : _root_.Go.OpenSpec := { _root_.Go.OpenSpec.ofChange s with cond := some uptoSmall }

/-- 'windrowlaw07.PageLays', WHERE WHAT IT READS IS OF BULK AT MOST 1048576: true; the input reads as it did. -/
def pageLaysUptoRow : OpenClaim := { program := "ytmkkkenpjealdaa", sum := "c8c9a16200ebedb8900e49b3aca2f3bb3bf84eaceeec9c64415abf27fcad906c", func := "windrow/windrowlaw07.PageLays", spec := "pageLays", apart := false, narrowed := true }
def PageLaysUptoSaid : Prop := pageLaysUptoRow.holds Try.pinned (OpenSpec.upto pageLaysSpec)

/-- 'windrowlaw07.PageReads', WHERE WHAT IT READS IS OF BULK AT MOST 1048576: true; the input reads as it did. -/
def pageReadsUptoRow : OpenClaim := { program := "ytmkkkenpjealdaa", sum := "c8c9a16200ebedb8900e49b3aca2f3bb3bf84eaceeec9c64415abf27fcad906c", func := "windrow/windrowlaw07.PageReads", spec := "pageReads", apart := false, narrowed := true }
def PageReadsUptoSaid : Prop := pageReadsUptoRow.holds Try.pinned (OpenSpec.upto pageReadsSpec)

/-- 'windrowlaw07.PageBack', WHERE WHAT IT READS IS OF BULK AT MOST 1048576: true; the input reads as it did. -/
def pageBackUptoRow : OpenClaim := { program := "ytmkkkenpjealdaa", sum := "c8c9a16200ebedb8900e49b3aca2f3bb3bf84eaceeec9c64415abf27fcad906c", func := "windrow/windrowlaw07.PageBack", spec := "pageBack", apart := false, narrowed := true }
def PageBackUptoSaid : Prop := pageBackUptoRow.holds Try.pinned (OpenSpec.upto pageBackSpec)

/-- 'windrowlaw07.PageOnly', WHERE WHAT IT READS IS OF BULK AT MOST 1048576: true; the input reads as it did. -/
def pageOnlyUptoRow : OpenClaim := { program := "ytmkkkenpjealdaa", sum := "c8c9a16200ebedb8900e49b3aca2f3bb3bf84eaceeec9c64415abf27fcad906c", func := "windrow/windrowlaw07.PageOnly", spec := "pageOnly", apart := false, narrowed := true }
def PageOnlyUptoSaid : Prop := pageOnlyUptoRow.holds Try.pinned (OpenSpec.upto pageOnlySpec)

/-- 'windrowlaw06.RecLays', WHERE WHAT IT READS IS OF BULK AT MOST 1048576: true; the input reads as it did. -/
def recLaysUptoRow : OpenClaim := { program := "ytmkkkenpjealdaa", sum := "c8c9a16200ebedb8900e49b3aca2f3bb3bf84eaceeec9c64415abf27fcad906c", func := "windrow/windrowlaw06.RecLays", spec := "recLays", apart := false, narrowed := true }
def RecLaysUptoSaid : Prop := recLaysUptoRow.holds Try.pinned (OpenSpec.upto recLaysSpec)

/-- 'windrowlaw06.RecReads', WHERE WHAT IT READS IS OF BULK AT MOST 1048576: true; the input reads as it did. -/
def recReadsUptoRow : OpenClaim := { program := "ytmkkkenpjealdaa", sum := "c8c9a16200ebedb8900e49b3aca2f3bb3bf84eaceeec9c64415abf27fcad906c", func := "windrow/windrowlaw06.RecReads", spec := "recReads", apart := false, narrowed := true }
def RecReadsUptoSaid : Prop := recReadsUptoRow.holds Try.pinned (OpenSpec.upto recReadsSpec)

/-- 'windrowlaw06.RecBack', WHERE WHAT IT READS IS OF BULK AT MOST 1048576: true; the input reads as it did. -/
def recBackUptoRow : OpenClaim := { program := "ytmkkkenpjealdaa", sum := "c8c9a16200ebedb8900e49b3aca2f3bb3bf84eaceeec9c64415abf27fcad906c", func := "windrow/windrowlaw06.RecBack", spec := "recBack", apart := false, narrowed := true }
def RecBackUptoSaid : Prop := recBackUptoRow.holds Try.pinned (OpenSpec.upto recBackSpec)

/-- 'windrowlaw06.RecUnlike', WHERE WHAT IT READS IS OF BULK AT MOST 1048576: true; the input reads as it did. -/
def recUnlikeUptoRow : OpenClaim := { program := "ytmkkkenpjealdaa", sum := "c8c9a16200ebedb8900e49b3aca2f3bb3bf84eaceeec9c64415abf27fcad906c", func := "windrow/windrowlaw06.RecUnlike", spec := "recUnlike", apart := false, narrowed := true }
def RecUnlikeUptoSaid : Prop := recUnlikeUptoRow.holds Try.pinned (OpenSpec.upto recUnlikeSpec)

/-- 'windrowlaw06.RecOnly', WHERE WHAT IT READS IS OF BULK AT MOST 1048576: true; the input reads as it did. -/
def recOnlyUptoRow : OpenClaim := { program := "ytmkkkenpjealdaa", sum := "c8c9a16200ebedb8900e49b3aca2f3bb3bf84eaceeec9c64415abf27fcad906c", func := "windrow/windrowlaw06.RecOnly", spec := "recOnly", apart := false, narrowed := true }
def RecOnlyUptoSaid : Prop := recOnlyUptoRow.holds Try.pinned (OpenSpec.upto recOnlySpec)

/-- 'windrowlaw08.MastLays', WHERE WHAT IT READS IS OF BULK AT MOST 1048576: true; the input reads as it did. -/
def mastLaysUptoRow : OpenClaim := { program := "ytmkkkenpjealdaa", sum := "c8c9a16200ebedb8900e49b3aca2f3bb3bf84eaceeec9c64415abf27fcad906c", func := "windrow/windrowlaw08.MastLays", spec := "mastLays", apart := false, narrowed := true }
def MastLaysUptoSaid : Prop := mastLaysUptoRow.holds Try.pinned (OpenSpec.upto mastLaysSpec)

/-- 'windrowlaw08.MastReads', WHERE WHAT IT READS IS OF BULK AT MOST 1048576: true; the input reads as it did. -/
def mastReadsUptoRow : OpenClaim := { program := "ytmkkkenpjealdaa", sum := "c8c9a16200ebedb8900e49b3aca2f3bb3bf84eaceeec9c64415abf27fcad906c", func := "windrow/windrowlaw08.MastReads", spec := "mastReads", apart := false, narrowed := true }
def MastReadsUptoSaid : Prop := mastReadsUptoRow.holds Try.pinned (OpenSpec.upto mastReadsSpec)

/-- 'windrowlaw08.MastBack', WHERE WHAT IT READS IS OF BULK AT MOST 1048576: true; the input reads as it did. -/
def mastBackUptoRow : OpenClaim := { program := "ytmkkkenpjealdaa", sum := "c8c9a16200ebedb8900e49b3aca2f3bb3bf84eaceeec9c64415abf27fcad906c", func := "windrow/windrowlaw08.MastBack", spec := "mastBack", apart := false, narrowed := true }
def MastBackUptoSaid : Prop := mastBackUptoRow.holds Try.pinned (OpenSpec.upto mastBackSpec)

/-- 'windrowlaw08.MastOnly', WHERE WHAT IT READS IS OF BULK AT MOST 1048576: true; the input reads as it did. -/
def mastOnlyUptoRow : OpenClaim := { program := "ytmkkkenpjealdaa", sum := "c8c9a16200ebedb8900e49b3aca2f3bb3bf84eaceeec9c64415abf27fcad906c", func := "windrow/windrowlaw08.MastOnly", spec := "mastOnly", apart := false, narrowed := true }
def MastOnlyUptoSaid : Prop := mastOnlyUptoRow.holds Try.pinned (OpenSpec.upto mastOnlySpec)

/-- 'windrowlaw07.PageAlone', WHERE WHAT IT READS IS OF BULK AT MOST 1048576: true; the input reads as it did. -/
def pageAloneUptoRow : OpenClaim := { program := "ytmkkkenpjealdaa", sum := "c8c9a16200ebedb8900e49b3aca2f3bb3bf84eaceeec9c64415abf27fcad906c", func := "windrow/windrowlaw07.PageAlone", spec := "pageAlone", apart := false, narrowed := true }
def PageAloneUptoSaid : Prop := pageAloneUptoRow.holds Try.pinned (OpenSpec.upto pageAloneSpec)

/-- 'windrowlaw08.MastAlone', WHERE WHAT IT READS IS OF BULK AT MOST 1048576: true; the input reads as it did. -/
def mastAloneUptoRow : OpenClaim := { program := "ytmkkkenpjealdaa", sum := "c8c9a16200ebedb8900e49b3aca2f3bb3bf84eaceeec9c64415abf27fcad906c", func := "windrow/windrowlaw08.MastAlone", spec := "mastAlone", apart := false, narrowed := true }
def MastAloneUptoSaid : Prop := mastAloneUptoRow.holds Try.pinned (OpenSpec.upto mastAloneSpec)

end Rows
end Go.Proofs.Ytmkkkenpjealdaa
