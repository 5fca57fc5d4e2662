/-
  No cell of these rows narrows 'for every input' (looked for: loops, veiled, ifaces, maps, wideKeys, modest, calm, conditions, laid).
  DERIVED. THE GIVEN ROWS OF THIS SEAT. 10 by the template 'for every input the law returns true; each argument reads behind the call as it read before'; 0 by the template 'total and deterministic' (their statements: YtkkmmbbnaafhlaaTotals.lean).
  GIVEN WITH THE SEED: the statements are not yours to turn. If you find one false, say at which input.
  Laid BY PROGRAM, IN A SANDBOX (cutbox-rows.mjs): the forced cells as the released guide's own fill.sh prints them over the translation b76e790819770301… (all of the seat's roots in one cut). By AI agents, Wed Nov 11 2026. No macro, syntax, notation, axiom, sorry.
-/
import Derived.Test.YtkkmmbbnaafhlaaChecked
import GoSem.Claim
import GoSem.ClaimJoined
import GoSem.ClaimMapViews
import Derived.JoinedTies
import Derived.KernelRfl
namespace Go.Proofs.Ytkkmmbbnaafhlaa
/- THE CELL 'sum', in the pinned program and in every row, IS THE sha256 OF THE DUMP (.gsa) THAT YtkkmmbbnaafhlaaProg.lean LOADS. Nothing in Lean hashes anything: it is a label: what it is worth is what the hold of that sum in a sandbox is worth. -/
noncomputable def Try.pinned : Pinned := { name := "ytkkmmbbnaafhlaa", sum := "b76e790819770301e3b6d2d728a0f08d21498300fe21e9e92acc132ab916833b", checked := Try.checked }
namespace Rows
def none {H : Type} : Left H := { results := [], args := [] }

/-- 'windrowlaw15.RollDoes': WHATEVER THE INPUT: true; the input reads as it did. -/
def rollDoesSpec : ChangeSpec := { name := "rollDoes", fn := fun _ => fun
  | [d1, d2] => { results := [.lit (.bool true)], args := [d1, d2] }
  | _ => none }
def rollDoesRow : OpenClaim := { program := "ytkkmmbbnaafhlaa", sum := "b76e790819770301e3b6d2d728a0f08d21498300fe21e9e92acc132ab916833b", func := "windrow/windrowlaw15.RollDoes", spec := "rollDoes", apart := false }
def RollDoesSaid : Prop := rollDoesRow.holds Try.pinned (OpenSpec.ofChange rollDoesSpec)

/-- ITS FALSE NEIGHBOUR: 'it returns false'. Refute it at one input. -/
def rollDoesWrong : ChangeSpec := { name := "rollDoes", fn := fun _ => fun
  | [d1, d2] => { results := [.lit (.bool false)], args := [d1, d2] }
  | _ => none }
def RollDoesWrongFalsely : Prop := rollDoesRow.holds Try.pinned (OpenSpec.ofChange rollDoesWrong)

/-- 'windrowlaw15.RollWhole': WHATEVER THE INPUT: true; the input reads as it did. -/
def rollWholeSpec : ChangeSpec := { name := "rollWhole", fn := fun _ => fun
  | [d1, d2, d3] => { results := [.lit (.bool true)], args := [d1, d2, d3] }
  | _ => none }
def rollWholeRow : OpenClaim := { program := "ytkkmmbbnaafhlaa", sum := "b76e790819770301e3b6d2d728a0f08d21498300fe21e9e92acc132ab916833b", func := "windrow/windrowlaw15.RollWhole", spec := "rollWhole", apart := false }
def RollWholeSaid : Prop := rollWholeRow.holds Try.pinned (OpenSpec.ofChange rollWholeSpec)

/-- ITS FALSE NEIGHBOUR: 'it returns false'. Refute it at one input. -/
def rollWholeWrong : ChangeSpec := { name := "rollWhole", fn := fun _ => fun
  | [d1, d2, d3] => { results := [.lit (.bool false)], args := [d1, d2, d3] }
  | _ => none }
def RollWholeWrongFalsely : Prop := rollWholeRow.holds Try.pinned (OpenSpec.ofChange rollWholeWrong)

/-- 'windrowlaw15.RollKeeps': WHATEVER THE INPUT: true; the input reads as it did. -/
def rollKeepsSpec : ChangeSpec := { name := "rollKeeps", fn := fun _ => fun
  | [d1, d2] => { results := [.lit (.bool true)], args := [d1, d2] }
  | _ => none }
def rollKeepsRow : OpenClaim := { program := "ytkkmmbbnaafhlaa", sum := "b76e790819770301e3b6d2d728a0f08d21498300fe21e9e92acc132ab916833b", func := "windrow/windrowlaw15.RollKeeps", spec := "rollKeeps", apart := false }
def RollKeepsSaid : Prop := rollKeepsRow.holds Try.pinned (OpenSpec.ofChange rollKeepsSpec)

/-- ITS FALSE NEIGHBOUR: 'it returns false'. Refute it at one input. -/
def rollKeepsWrong : ChangeSpec := { name := "rollKeeps", fn := fun _ => fun
  | [d1, d2] => { results := [.lit (.bool false)], args := [d1, d2] }
  | _ => none }
def RollKeepsWrongFalsely : Prop := rollKeepsRow.holds Try.pinned (OpenSpec.ofChange rollKeepsWrong)

/-- 'windrowlaw15.RollJoin': WHATEVER THE INPUT: true; the input reads as it did. -/
def rollJoinSpec : ChangeSpec := { name := "rollJoin", fn := fun _ => fun
  | [d1, d2] => { results := [.lit (.bool true)], args := [d1, d2] }
  | _ => none }
def rollJoinRow : OpenClaim := { program := "ytkkmmbbnaafhlaa", sum := "b76e790819770301e3b6d2d728a0f08d21498300fe21e9e92acc132ab916833b", func := "windrow/windrowlaw15.RollJoin", spec := "rollJoin", apart := false }
def RollJoinSaid : Prop := rollJoinRow.holds Try.pinned (OpenSpec.ofChange rollJoinSpec)

/-- ITS FALSE NEIGHBOUR: 'it returns false'. Refute it at one input. -/
def rollJoinWrong : ChangeSpec := { name := "rollJoin", fn := fun _ => fun
  | [d1, d2] => { results := [.lit (.bool false)], args := [d1, d2] }
  | _ => none }
def RollJoinWrongFalsely : Prop := rollJoinRow.holds Try.pinned (OpenSpec.ofChange rollJoinWrong)

/-- 'windrowlaw09.TableKeeps': WHATEVER THE INPUT: true; the input reads as it did. -/
def tableKeepsSpec : ChangeSpec := { name := "tableKeeps", fn := fun _ => fun
  | [d1, d2] => { results := [.lit (.bool true)], args := [d1, d2] }
  | _ => none }
def tableKeepsRow : OpenClaim := { program := "ytkkmmbbnaafhlaa", sum := "b76e790819770301e3b6d2d728a0f08d21498300fe21e9e92acc132ab916833b", func := "windrow/windrowlaw09.TableKeeps", spec := "tableKeeps", apart := false }
def TableKeepsSaid : Prop := tableKeepsRow.holds Try.pinned (OpenSpec.ofChange tableKeepsSpec)

/-- ITS FALSE NEIGHBOUR: 'it returns false'. Refute it at one input. -/
def tableKeepsWrong : ChangeSpec := { name := "tableKeeps", fn := fun _ => fun
  | [d1, d2] => { results := [.lit (.bool false)], args := [d1, d2] }
  | _ => none }
def TableKeepsWrongFalsely : Prop := tableKeepsRow.holds Try.pinned (OpenSpec.ofChange tableKeepsWrong)

/-- 'windrowlaw09.TableUndo': WHATEVER THE INPUT: true; the input reads as it did. -/
def tableUndoSpec : ChangeSpec := { name := "tableUndo", fn := fun _ => fun
  | [d1, d2, d3, d4] => { results := [.lit (.bool true)], args := [d1, d2, d3, d4] }
  | _ => none }
def tableUndoRow : OpenClaim := { program := "ytkkmmbbnaafhlaa", sum := "b76e790819770301e3b6d2d728a0f08d21498300fe21e9e92acc132ab916833b", func := "windrow/windrowlaw09.TableUndo", spec := "tableUndo", apart := false }
def TableUndoSaid : Prop := tableUndoRow.holds Try.pinned (OpenSpec.ofChange tableUndoSpec)

/-- ITS FALSE NEIGHBOUR: 'it returns false'. Refute it at one input. -/
def tableUndoWrong : ChangeSpec := { name := "tableUndo", fn := fun _ => fun
  | [d1, d2, d3, d4] => { results := [.lit (.bool false)], args := [d1, d2, d3, d4] }
  | _ => none }
def TableUndoWrongFalsely : Prop := tableUndoRow.holds Try.pinned (OpenSpec.ofChange tableUndoWrong)

/-- 'windrowlaw09.TableCounts': WHATEVER THE INPUT: true; the input reads as it did. -/
def tableCountsSpec : ChangeSpec := { name := "tableCounts", fn := fun _ => fun
  | [d1, d2] => { results := [.lit (.bool true)], args := [d1, d2] }
  | _ => none }
def tableCountsRow : OpenClaim := { program := "ytkkmmbbnaafhlaa", sum := "b76e790819770301e3b6d2d728a0f08d21498300fe21e9e92acc132ab916833b", func := "windrow/windrowlaw09.TableCounts", spec := "tableCounts", apart := false }
def TableCountsSaid : Prop := tableCountsRow.holds Try.pinned (OpenSpec.ofChange tableCountsSpec)

/-- ITS FALSE NEIGHBOUR: 'it returns false'. Refute it at one input. -/
def tableCountsWrong : ChangeSpec := { name := "tableCounts", fn := fun _ => fun
  | [d1, d2] => { results := [.lit (.bool false)], args := [d1, d2] }
  | _ => none }
def TableCountsWrongFalsely : Prop := tableCountsRow.holds Try.pinned (OpenSpec.ofChange tableCountsWrong)

/-- 'windrowlaw09.TableSets': WHATEVER THE INPUT: true; the input reads as it did. -/
def tableSetsSpec : ChangeSpec := { name := "tableSets", fn := fun _ => fun
  | [d1, d2, d3] => { results := [.lit (.bool true)], args := [d1, d2, d3] }
  | _ => none }
def tableSetsRow : OpenClaim := { program := "ytkkmmbbnaafhlaa", sum := "b76e790819770301e3b6d2d728a0f08d21498300fe21e9e92acc132ab916833b", func := "windrow/windrowlaw09.TableSets", spec := "tableSets", apart := false }
def TableSetsSaid : Prop := tableSetsRow.holds Try.pinned (OpenSpec.ofChange tableSetsSpec)

/-- ITS FALSE NEIGHBOUR: 'it returns false'. Refute it at one input. -/
def tableSetsWrong : ChangeSpec := { name := "tableSets", fn := fun _ => fun
  | [d1, d2, d3] => { results := [.lit (.bool false)], args := [d1, d2, d3] }
  | _ => none }
def TableSetsWrongFalsely : Prop := tableSetsRow.holds Try.pinned (OpenSpec.ofChange tableSetsWrong)

/-- 'windrowlaw09.TableOfs': WHATEVER THE INPUT: true; the input reads as it did. -/
def tableOfsSpec : ChangeSpec := { name := "tableOfs", fn := fun _ => fun
  | [d1, d2, d3] => { results := [.lit (.bool true)], args := [d1, d2, d3] }
  | _ => none }
def tableOfsRow : OpenClaim := { program := "ytkkmmbbnaafhlaa", sum := "b76e790819770301e3b6d2d728a0f08d21498300fe21e9e92acc132ab916833b", func := "windrow/windrowlaw09.TableOfs", spec := "tableOfs", apart := false }
def TableOfsSaid : Prop := tableOfsRow.holds Try.pinned (OpenSpec.ofChange tableOfsSpec)

/-- ITS FALSE NEIGHBOUR: 'it returns false'. Refute it at one input. -/
def tableOfsWrong : ChangeSpec := { name := "tableOfs", fn := fun _ => fun
  | [d1, d2, d3] => { results := [.lit (.bool false)], args := [d1, d2, d3] }
  | _ => none }
def TableOfsWrongFalsely : Prop := tableOfsRow.holds Try.pinned (OpenSpec.ofChange tableOfsWrong)

/-- 'windrowlaw09.TableLeaves': WHATEVER THE INPUT: true; the input reads as it did. -/
def tableLeavesSpec : ChangeSpec := { name := "tableLeaves", fn := fun _ => fun
  | [d1, d2, d3] => { results := [.lit (.bool true)], args := [d1, d2, d3] }
  | _ => none }
def tableLeavesRow : OpenClaim := { program := "ytkkmmbbnaafhlaa", sum := "b76e790819770301e3b6d2d728a0f08d21498300fe21e9e92acc132ab916833b", func := "windrow/windrowlaw09.TableLeaves", spec := "tableLeaves", apart := false }
def TableLeavesSaid : Prop := tableLeavesRow.holds Try.pinned (OpenSpec.ofChange tableLeavesSpec)

/-- ITS FALSE NEIGHBOUR: 'it returns false'. Refute it at one input. -/
def tableLeavesWrong : ChangeSpec := { name := "tableLeaves", fn := fun _ => fun
  | [d1, d2, d3] => { results := [.lit (.bool false)], args := [d1, d2, d3] }
  | _ => none }
def TableLeavesWrongFalsely : Prop := tableLeavesRow.holds Try.pinned (OpenSpec.ofChange tableLeavesWrong)

/- THE SECOND FORM. 'bulk': how many values and letters a reading holds, each counted each time it is reached (what is shared counts as often as it is met; a slice's spare places count too). A statement '..UptoSaid' is the law's where the arguments, and the package variables that the reading takes, are together of bulk at most 1048576: NARROWER than '..Said'. Prove '..Said' where nothing that the law and all that it calls make is longer than what came in: it says more and counts as full. Else prove '..UptoSaid'. A law counts once. -/
mutual
def uptoBulk {H : Type} : DataW H → Nat
  | .lit (.string bytes) => bytes.length + 1
  | .lit _ => 1
  | .nil => 1
  | .ptr d => uptoBulk d + 1
  | .slice elems spare => uptoBulkAll elems + uptoBulkAll spare + 1
  | .agg parts => uptoBulkAll parts + 1
  | .iface _ d => uptoBulk d + 1
  | .map entries => uptoBulkEntries entries + 1
  | .held _ => 1
def uptoBulkAll {H : Type} : List (DataW H) → Nat
  | [] => 0
  | d :: r => uptoBulk d + uptoBulkAll r
def uptoBulkEntries {H : Type} : List (Lit × DataW H) → Nat
  | [] => 0
  | x :: r => uptoBulkEntry x + uptoBulkEntries r
def uptoBulkEntry {H : Type} : Lit × DataW H → Nat
  | (.string bytes, d) => bytes.length + uptoBulk d + 1
  | (_, d) => uptoBulk d + 1
 end
def uptoSmall : (H : Type) → List (DataW H) → Bool := fun _ ds => decide (uptoBulkAll ds ≤ 1048576)
def OpenSpec.upto (s : _root_.Go.ChangeSpec) : _root_.Go.OpenSpec := { _root_.Go.OpenSpec.ofChange s with cond := some uptoSmall }

/-- 'windrowlaw15.RollDoes', WHERE WHAT IT READS IS OF BULK AT MOST 1048576: true; the input reads as it did. -/
def rollDoesUptoRow : OpenClaim := { program := "ytkkmmbbnaafhlaa", sum := "b76e790819770301e3b6d2d728a0f08d21498300fe21e9e92acc132ab916833b", func := "windrow/windrowlaw15.RollDoes", spec := "rollDoes", apart := false, narrowed := true }
def RollDoesUptoSaid : Prop := rollDoesUptoRow.holds Try.pinned (OpenSpec.upto rollDoesSpec)

/-- 'windrowlaw15.RollWhole', WHERE WHAT IT READS IS OF BULK AT MOST 1048576: true; the input reads as it did. -/
def rollWholeUptoRow : OpenClaim := { program := "ytkkmmbbnaafhlaa", sum := "b76e790819770301e3b6d2d728a0f08d21498300fe21e9e92acc132ab916833b", func := "windrow/windrowlaw15.RollWhole", spec := "rollWhole", apart := false, narrowed := true }
def RollWholeUptoSaid : Prop := rollWholeUptoRow.holds Try.pinned (OpenSpec.upto rollWholeSpec)

/-- 'windrowlaw15.RollKeeps', WHERE WHAT IT READS IS OF BULK AT MOST 1048576: true; the input reads as it did. -/
def rollKeepsUptoRow : OpenClaim := { program := "ytkkmmbbnaafhlaa", sum := "b76e790819770301e3b6d2d728a0f08d21498300fe21e9e92acc132ab916833b", func := "windrow/windrowlaw15.RollKeeps", spec := "rollKeeps", apart := false, narrowed := true }
def RollKeepsUptoSaid : Prop := rollKeepsUptoRow.holds Try.pinned (OpenSpec.upto rollKeepsSpec)

/-- 'windrowlaw15.RollJoin', WHERE WHAT IT READS IS OF BULK AT MOST 1048576: true; the input reads as it did. -/
def rollJoinUptoRow : OpenClaim := { program := "ytkkmmbbnaafhlaa", sum := "b76e790819770301e3b6d2d728a0f08d21498300fe21e9e92acc132ab916833b", func := "windrow/windrowlaw15.RollJoin", spec := "rollJoin", apart := false, narrowed := true }
def RollJoinUptoSaid : Prop := rollJoinUptoRow.holds Try.pinned (OpenSpec.upto rollJoinSpec)

/-- 'windrowlaw09.TableKeeps', WHERE WHAT IT READS IS OF BULK AT MOST 1048576: true; the input reads as it did. -/
def tableKeepsUptoRow : OpenClaim := { program := "ytkkmmbbnaafhlaa", sum := "b76e790819770301e3b6d2d728a0f08d21498300fe21e9e92acc132ab916833b", func := "windrow/windrowlaw09.TableKeeps", spec := "tableKeeps", apart := false, narrowed := true }
def TableKeepsUptoSaid : Prop := tableKeepsUptoRow.holds Try.pinned (OpenSpec.upto tableKeepsSpec)

/-- 'windrowlaw09.TableUndo', WHERE WHAT IT READS IS OF BULK AT MOST 1048576: true; the input reads as it did. -/
def tableUndoUptoRow : OpenClaim := { program := "ytkkmmbbnaafhlaa", sum := "b76e790819770301e3b6d2d728a0f08d21498300fe21e9e92acc132ab916833b", func := "windrow/windrowlaw09.TableUndo", spec := "tableUndo", apart := false, narrowed := true }
def TableUndoUptoSaid : Prop := tableUndoUptoRow.holds Try.pinned (OpenSpec.upto tableUndoSpec)

/-- 'windrowlaw09.TableCounts', WHERE WHAT IT READS IS OF BULK AT MOST 1048576: true; the input reads as it did. -/
def tableCountsUptoRow : OpenClaim := { program := "ytkkmmbbnaafhlaa", sum := "b76e790819770301e3b6d2d728a0f08d21498300fe21e9e92acc132ab916833b", func := "windrow/windrowlaw09.TableCounts", spec := "tableCounts", apart := false, narrowed := true }
def TableCountsUptoSaid : Prop := tableCountsUptoRow.holds Try.pinned (OpenSpec.upto tableCountsSpec)

/-- 'windrowlaw09.TableSets', WHERE WHAT IT READS IS OF BULK AT MOST 1048576: true; the input reads as it did. -/
def tableSetsUptoRow : OpenClaim := { program := "ytkkmmbbnaafhlaa", sum := "b76e790819770301e3b6d2d728a0f08d21498300fe21e9e92acc132ab916833b", func := "windrow/windrowlaw09.TableSets", spec := "tableSets", apart := false, narrowed := true }
def TableSetsUptoSaid : Prop := tableSetsUptoRow.holds Try.pinned (OpenSpec.upto tableSetsSpec)

/-- 'windrowlaw09.TableOfs', WHERE WHAT IT READS IS OF BULK AT MOST 1048576: true; the input reads as it did. -/
def tableOfsUptoRow : OpenClaim := { program := "ytkkmmbbnaafhlaa", sum := "b76e790819770301e3b6d2d728a0f08d21498300fe21e9e92acc132ab916833b", func := "windrow/windrowlaw09.TableOfs", spec := "tableOfs", apart := false, narrowed := true }
def TableOfsUptoSaid : Prop := tableOfsUptoRow.holds Try.pinned (OpenSpec.upto tableOfsSpec)

/-- 'windrowlaw09.TableLeaves', WHERE WHAT IT READS IS OF BULK AT MOST 1048576: true; the input reads as it did. -/
def tableLeavesUptoRow : OpenClaim := { program := "ytkkmmbbnaafhlaa", sum := "b76e790819770301e3b6d2d728a0f08d21498300fe21e9e92acc132ab916833b", func := "windrow/windrowlaw09.TableLeaves", spec := "tableLeaves", apart := false, narrowed := true }
def TableLeavesUptoSaid : Prop := tableLeavesUptoRow.holds Try.pinned (OpenSpec.upto tableLeavesSpec)

end Rows
end Go.Proofs.Ytkkmmbbnaafhlaa
