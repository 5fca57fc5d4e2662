/-
  No cell of these rows narrows 'for every input' (looked for: loops, veiled, ifaces, maps, wideKeys, modest, calm, conditions, laid).
  DERIVED. THE GIVEN ROWS OF THIS SEAT. 9 by the template 'for every input the law returns true; each argument reads behind the call as it read before'; 0 by the template 'total and deterministic' (their statements: YtipbgldfomejpaaTotals.lean).
  GIVEN WITH THE SEED: the statements are not yours to turn. If you find one false, say at which input.
  Laid BY PROGRAM, IN A SANDBOX (cutbox-rows.mjs): the forced cells as the released guide's own fill.sh prints them over the translation 2c8053d359e07d76… (all of the seat's roots in one cut). By AI agents, Wed Nov 11 2026. No macro, syntax, notation, axiom, sorry.
-/
import Derived.Test.YtipbgldfomejpaaChecked
import GoSem.Claim
import GoSem.ClaimJoined
import GoSem.ClaimMapViews
import Derived.JoinedTies
import Derived.KernelRfl
namespace Go.Proofs.Ytipbgldfomejpaa
/- THE CELL 'sum', in the pinned program and in every row, IS THE sha256 OF THE DUMP (.gsa) THAT YtipbgldfomejpaaProg.lean LOADS. Nothing in Lean hashes anything: it is a label: what it is worth is what the hold of that sum in a sandbox is worth. -/
noncomputable def Try.pinned : Pinned := { name := "ytipbgldfomejpaa", sum := "2c8053d359e07d76fa81c7e6fafe3d6f324097cf52c9f04d0281110ad901bbd6", checked := Try.checked }
namespace Rows
def none {H : Type} : Left H := { results := [], args := [] }

/-- 'windrowlaw17.SnapFold': WHATEVER THE INPUT: true; the input reads as it did. -/
def snapFoldSpec : ChangeSpec := { name := "snapFold", fn := fun _ => fun
  | [d1, d2, d3] => { results := [.lit (.bool true)], args := [d1, d2, d3] }
  | _ => none }
def snapFoldRow : OpenClaim := { program := "ytipbgldfomejpaa", sum := "2c8053d359e07d76fa81c7e6fafe3d6f324097cf52c9f04d0281110ad901bbd6", func := "windrow/windrowlaw17.SnapFold", spec := "snapFold", plainKeys := false, apart := false }
def SnapFoldSaid : Prop := snapFoldRow.holds Try.pinned (OpenSpec.ofChange snapFoldSpec)

/-- ITS FALSE NEIGHBOUR: 'it returns false'. Refute it at one input. -/
def snapFoldWrong : ChangeSpec := { name := "snapFold", fn := fun _ => fun
  | [d1, d2, d3] => { results := [.lit (.bool false)], args := [d1, d2, d3] }
  | _ => none }
def SnapFoldWrongFalsely : Prop := snapFoldRow.holds Try.pinned (OpenSpec.ofChange snapFoldWrong)

/-- 'windrowlaw17.SnapKeeps': WHATEVER THE INPUT: true; the input reads as it did. -/
def snapKeepsSpec : ChangeSpec := { name := "snapKeeps", fn := fun _ => fun
  | [d1, d2] => { results := [.lit (.bool true)], args := [d1, d2] }
  | _ => none }
def snapKeepsRow : OpenClaim := { program := "ytipbgldfomejpaa", sum := "2c8053d359e07d76fa81c7e6fafe3d6f324097cf52c9f04d0281110ad901bbd6", func := "windrow/windrowlaw17.SnapKeeps", spec := "snapKeeps", plainKeys := false, apart := false }
def SnapKeepsSaid : Prop := snapKeepsRow.holds Try.pinned (OpenSpec.ofChange snapKeepsSpec)

/-- ITS FALSE NEIGHBOUR: 'it returns false'. Refute it at one input. -/
def snapKeepsWrong : ChangeSpec := { name := "snapKeeps", fn := fun _ => fun
  | [d1, d2] => { results := [.lit (.bool false)], args := [d1, d2] }
  | _ => none }
def SnapKeepsWrongFalsely : Prop := snapKeepsRow.holds Try.pinned (OpenSpec.ofChange snapKeepsWrong)

/-- 'windrowlaw17.SnapActs': WHATEVER THE INPUT: true; the input reads as it did. -/
def snapActsSpec : ChangeSpec := { name := "snapActs", fn := fun _ => fun
  | [d1, d2, d3] => { results := [.lit (.bool true)], args := [d1, d2, d3] }
  | _ => none }
def snapActsRow : OpenClaim := { program := "ytipbgldfomejpaa", sum := "2c8053d359e07d76fa81c7e6fafe3d6f324097cf52c9f04d0281110ad901bbd6", func := "windrow/windrowlaw17.SnapActs", spec := "snapActs", unfollowed := true, recurses := true, plainKeys := false, apart := false }
def SnapActsSaid : Prop := snapActsRow.holds Try.pinned (OpenSpec.ofChange snapActsSpec)

/-- ITS FALSE NEIGHBOUR: 'it returns false'. Refute it at one input. -/
def snapActsWrong : ChangeSpec := { name := "snapActs", fn := fun _ => fun
  | [d1, d2, d3] => { results := [.lit (.bool false)], args := [d1, d2, d3] }
  | _ => none }
def SnapActsWrongFalsely : Prop := snapActsRow.holds Try.pinned (OpenSpec.ofChange snapActsWrong)

/-- 'windrowlaw17.SnapForgets': WHATEVER THE INPUT: true; the input reads as it did. -/
def snapForgetsSpec : ChangeSpec := { name := "snapForgets", fn := fun _ => fun
  | [d1, d2, d3, d4] => { results := [.lit (.bool true)], args := [d1, d2, d3, d4] }
  | _ => none }
def snapForgetsRow : OpenClaim := { program := "ytipbgldfomejpaa", sum := "2c8053d359e07d76fa81c7e6fafe3d6f324097cf52c9f04d0281110ad901bbd6", func := "windrow/windrowlaw17.SnapForgets", spec := "snapForgets", unfollowed := true, recurses := true, plainKeys := false, apart := false }
def SnapForgetsSaid : Prop := snapForgetsRow.holds Try.pinned (OpenSpec.ofChange snapForgetsSpec)

/-- ITS FALSE NEIGHBOUR: 'it returns false'. Refute it at one input. -/
def snapForgetsWrong : ChangeSpec := { name := "snapForgets", fn := fun _ => fun
  | [d1, d2, d3, d4] => { results := [.lit (.bool false)], args := [d1, d2, d3, d4] }
  | _ => none }
def SnapForgetsWrongFalsely : Prop := snapForgetsRow.holds Try.pinned (OpenSpec.ofChange snapForgetsWrong)

/-- 'windrowlaw17.SnapLast': WHATEVER THE INPUT: true; the input reads as it did. -/
def snapLastSpec : ChangeSpec := { name := "snapLast", fn := fun _ => fun
  | [d1, d2] => { results := [.lit (.bool true)], args := [d1, d2] }
  | _ => none }
def snapLastRow : OpenClaim := { program := "ytipbgldfomejpaa", sum := "2c8053d359e07d76fa81c7e6fafe3d6f324097cf52c9f04d0281110ad901bbd6", func := "windrow/windrowlaw17.SnapLast", spec := "snapLast", unfollowed := true, recurses := true, plainKeys := false, apart := false }
def SnapLastSaid : Prop := snapLastRow.holds Try.pinned (OpenSpec.ofChange snapLastSpec)

/-- ITS FALSE NEIGHBOUR: 'it returns false'. Refute it at one input. -/
def snapLastWrong : ChangeSpec := { name := "snapLast", fn := fun _ => fun
  | [d1, d2] => { results := [.lit (.bool false)], args := [d1, d2] }
  | _ => none }
def SnapLastWrongFalsely : Prop := snapLastRow.holds Try.pinned (OpenSpec.ofChange snapLastWrong)

/-- 'windrowlaw16.PickBetters': WHATEVER THE INPUT: true; the input reads as it did. -/
def pickBettersSpec : ChangeSpec := { name := "pickBetters", fn := fun _ => fun
  | [d1, d2, d3, d4] => { results := [.lit (.bool true)], args := [d1, d2, d3, d4] }
  | _ => none }
def pickBettersRow : OpenClaim := { program := "ytipbgldfomejpaa", sum := "2c8053d359e07d76fa81c7e6fafe3d6f324097cf52c9f04d0281110ad901bbd6", func := "windrow/windrowlaw16.PickBetters", spec := "pickBetters", plainKeys := false, apart := false }
def PickBettersSaid : Prop := pickBettersRow.holds Try.pinned (OpenSpec.ofChange pickBettersSpec)

/-- ITS FALSE NEIGHBOUR: 'it returns false'. Refute it at one input. -/
def pickBettersWrong : ChangeSpec := { name := "pickBetters", fn := fun _ => fun
  | [d1, d2, d3, d4] => { results := [.lit (.bool false)], args := [d1, d2, d3, d4] }
  | _ => none }
def PickBettersWrongFalsely : Prop := pickBettersRow.holds Try.pinned (OpenSpec.ofChange pickBettersWrong)

/-- 'windrowlaw16.PickBests': WHATEVER THE INPUT: true; the input reads as it did. -/
def pickBestsSpec : ChangeSpec := { name := "pickBests", fn := fun _ => fun
  | [d1, d2, d3] => { results := [.lit (.bool true)], args := [d1, d2, d3] }
  | _ => none }
def pickBestsRow : OpenClaim := { program := "ytipbgldfomejpaa", sum := "2c8053d359e07d76fa81c7e6fafe3d6f324097cf52c9f04d0281110ad901bbd6", func := "windrow/windrowlaw16.PickBests", spec := "pickBests", plainKeys := false, apart := false }
def PickBestsSaid : Prop := pickBestsRow.holds Try.pinned (OpenSpec.ofChange pickBestsSpec)

/-- ITS FALSE NEIGHBOUR: 'it returns false'. Refute it at one input. -/
def pickBestsWrong : ChangeSpec := { name := "pickBests", fn := fun _ => fun
  | [d1, d2, d3] => { results := [.lit (.bool false)], args := [d1, d2, d3] }
  | _ => none }
def PickBestsWrongFalsely : Prop := pickBestsRow.holds Try.pinned (OpenSpec.ofChange pickBestsWrong)

/-- 'windrowlaw16.PickBest': WHATEVER THE INPUT: true; the input reads as it did. -/
def pickBestSpec : ChangeSpec := { name := "pickBest", fn := fun _ => fun
  | [d1, d2, d3, d4] => { results := [.lit (.bool true)], args := [d1, d2, d3, d4] }
  | _ => none }
def pickBestRow : OpenClaim := { program := "ytipbgldfomejpaa", sum := "2c8053d359e07d76fa81c7e6fafe3d6f324097cf52c9f04d0281110ad901bbd6", func := "windrow/windrowlaw16.PickBest", spec := "pickBest", plainKeys := false, apart := false }
def PickBestSaid : Prop := pickBestRow.holds Try.pinned (OpenSpec.ofChange pickBestSpec)

/-- ITS FALSE NEIGHBOUR: 'it returns false'. Refute it at one input. -/
def pickBestWrong : ChangeSpec := { name := "pickBest", fn := fun _ => fun
  | [d1, d2, d3, d4] => { results := [.lit (.bool false)], args := [d1, d2, d3, d4] }
  | _ => none }
def PickBestWrongFalsely : Prop := pickBestRow.holds Try.pinned (OpenSpec.ofChange pickBestWrong)

/-- 'windrowlaw16.PickOrders': WHATEVER THE INPUT: true; the input reads as it did. -/
def pickOrdersSpec : ChangeSpec := { name := "pickOrders", fn := fun _ => fun
  | [d1, d2, d3, d4, d5] => { results := [.lit (.bool true)], args := [d1, d2, d3, d4, d5] }
  | _ => none }
def pickOrdersRow : OpenClaim := { program := "ytipbgldfomejpaa", sum := "2c8053d359e07d76fa81c7e6fafe3d6f324097cf52c9f04d0281110ad901bbd6", func := "windrow/windrowlaw16.PickOrders", spec := "pickOrders", plainKeys := false, apart := false }
def PickOrdersSaid : Prop := pickOrdersRow.holds Try.pinned (OpenSpec.ofChange pickOrdersSpec)

/-- ITS FALSE NEIGHBOUR: 'it returns false'. Refute it at one input. -/
def pickOrdersWrong : ChangeSpec := { name := "pickOrders", fn := fun _ => fun
  | [d1, d2, d3, d4, d5] => { results := [.lit (.bool false)], args := [d1, d2, d3, d4, d5] }
  | _ => none }
def PickOrdersWrongFalsely : Prop := pickOrdersRow.holds Try.pinned (OpenSpec.ofChange pickOrdersWrong)

/- THE SECOND FORM. 'bulk': how many values and letters a reading holds, each counted each time it is reached (what is shared counts as often as it is met; a slice's spare places count too). A statement '..UptoSaid' is the law's where the arguments, and the package variables that the reading takes, are together of bulk at most 1048576: NARROWER than '..Said'. Prove '..Said' where nothing that the law and all that it calls make is longer than what came in: it says more and counts as full. Else prove '..UptoSaid'. A law counts once. -/
mutual
def uptoBulk {H : Type} : DataW H → Nat
  | .lit (.string bytes) => bytes.length + 1
  | .lit _ => 1
  | .nil => 1
  | .ptr d => uptoBulk d + 1
  | .slice elems spare => uptoBulkAll elems + uptoBulkAll spare + 1
  | .agg parts => uptoBulkAll parts + 1
  | .iface _ d => uptoBulk d + 1
  | .map entries => uptoBulkEntries entries + 1
  | .held _ => 1
def uptoBulkAll {H : Type} : List (DataW H) → Nat
  | [] => 0
  | d :: r => uptoBulk d + uptoBulkAll r
def uptoBulkEntries {H : Type} : List (Lit × DataW H) → Nat
  | [] => 0
  | x :: r => uptoBulkEntry x + uptoBulkEntries r
def uptoBulkEntry {H : Type} : Lit × DataW H → Nat
  | (.string bytes, d) => bytes.length + uptoBulk d + 1
  | (_, d) => uptoBulk d + 1
 end
def uptoSmall : (H : Type) → List (DataW H) → Bool := fun _ ds => decide (uptoBulkAll ds ≤ 1048576)
def OpenSpec.upto (s : _root_.Go.ChangeSpec) : _root_.Go.OpenSpec := { _root_.Go.OpenSpec.ofChange s with cond := some uptoSmall }

/-- 'windrowlaw17.SnapFold', WHERE WHAT IT READS IS OF BULK AT MOST 1048576: true; the input reads as it did. -/
def snapFoldUptoRow : OpenClaim := { program := "ytipbgldfomejpaa", sum := "2c8053d359e07d76fa81c7e6fafe3d6f324097cf52c9f04d0281110ad901bbd6", func := "windrow/windrowlaw17.SnapFold", spec := "snapFold", plainKeys := false, apart := false, narrowed := true }
def SnapFoldUptoSaid : Prop := snapFoldUptoRow.holds Try.pinned (OpenSpec.upto snapFoldSpec)

/-- 'windrowlaw17.SnapKeeps', WHERE WHAT IT READS IS OF BULK AT MOST 1048576: true; the input reads as it did. -/
def snapKeepsUptoRow : OpenClaim := { program := "ytipbgldfomejpaa", sum := "2c8053d359e07d76fa81c7e6fafe3d6f324097cf52c9f04d0281110ad901bbd6", func := "windrow/windrowlaw17.SnapKeeps", spec := "snapKeeps", plainKeys := false, apart := false, narrowed := true }
def SnapKeepsUptoSaid : Prop := snapKeepsUptoRow.holds Try.pinned (OpenSpec.upto snapKeepsSpec)

/-- 'windrowlaw17.SnapActs', WHERE WHAT IT READS IS OF BULK AT MOST 1048576: true; the input reads as it did. -/
def snapActsUptoRow : OpenClaim := { program := "ytipbgldfomejpaa", sum := "2c8053d359e07d76fa81c7e6fafe3d6f324097cf52c9f04d0281110ad901bbd6", func := "windrow/windrowlaw17.SnapActs", spec := "snapActs", unfollowed := true, recurses := true, plainKeys := false, apart := false, narrowed := true }
def SnapActsUptoSaid : Prop := snapActsUptoRow.holds Try.pinned (OpenSpec.upto snapActsSpec)

/-- 'windrowlaw17.SnapForgets', WHERE WHAT IT READS IS OF BULK AT MOST 1048576: true; the input reads as it did. -/
def snapForgetsUptoRow : OpenClaim := { program := "ytipbgldfomejpaa", sum := "2c8053d359e07d76fa81c7e6fafe3d6f324097cf52c9f04d0281110ad901bbd6", func := "windrow/windrowlaw17.SnapForgets", spec := "snapForgets", unfollowed := true, recurses := true, plainKeys := false, apart := false, narrowed := true }
def SnapForgetsUptoSaid : Prop := snapForgetsUptoRow.holds Try.pinned (OpenSpec.upto snapForgetsSpec)

/-- 'windrowlaw17.SnapLast', WHERE WHAT IT READS IS OF BULK AT MOST 1048576: true; the input reads as it did. -/
def snapLastUptoRow : OpenClaim := { program := "ytipbgldfomejpaa", sum := "2c8053d359e07d76fa81c7e6fafe3d6f324097cf52c9f04d0281110ad901bbd6", func := "windrow/windrowlaw17.SnapLast", spec := "snapLast", unfollowed := true, recurses := true, plainKeys := false, apart := false, narrowed := true }
def SnapLastUptoSaid : Prop := snapLastUptoRow.holds Try.pinned (OpenSpec.upto snapLastSpec)

/-- 'windrowlaw16.PickBetters', WHERE WHAT IT READS IS OF BULK AT MOST 1048576: true; the input reads as it did. -/
def pickBettersUptoRow : OpenClaim := { program := "ytipbgldfomejpaa", sum := "2c8053d359e07d76fa81c7e6fafe3d6f324097cf52c9f04d0281110ad901bbd6", func := "windrow/windrowlaw16.PickBetters", spec := "pickBetters", plainKeys := false, apart := false, narrowed := true }
def PickBettersUptoSaid : Prop := pickBettersUptoRow.holds Try.pinned (OpenSpec.upto pickBettersSpec)

/-- 'windrowlaw16.PickBests', WHERE WHAT IT READS IS OF BULK AT MOST 1048576: true; the input reads as it did. -/
def pickBestsUptoRow : OpenClaim := { program := "ytipbgldfomejpaa", sum := "2c8053d359e07d76fa81c7e6fafe3d6f324097cf52c9f04d0281110ad901bbd6", func := "windrow/windrowlaw16.PickBests", spec := "pickBests", plainKeys := false, apart := false, narrowed := true }
def PickBestsUptoSaid : Prop := pickBestsUptoRow.holds Try.pinned (OpenSpec.upto pickBestsSpec)

/-- 'windrowlaw16.PickBest', WHERE WHAT IT READS IS OF BULK AT MOST 1048576: true; the input reads as it did. -/
def pickBestUptoRow : OpenClaim := { program := "ytipbgldfomejpaa", sum := "2c8053d359e07d76fa81c7e6fafe3d6f324097cf52c9f04d0281110ad901bbd6", func := "windrow/windrowlaw16.PickBest", spec := "pickBest", plainKeys := false, apart := false, narrowed := true }
def PickBestUptoSaid : Prop := pickBestUptoRow.holds Try.pinned (OpenSpec.upto pickBestSpec)

/-- 'windrowlaw16.PickOrders', WHERE WHAT IT READS IS OF BULK AT MOST 1048576: true; the input reads as it did. -/
def pickOrdersUptoRow : OpenClaim := { program := "ytipbgldfomejpaa", sum := "2c8053d359e07d76fa81c7e6fafe3d6f324097cf52c9f04d0281110ad901bbd6", func := "windrow/windrowlaw16.PickOrders", spec := "pickOrders", plainKeys := false, apart := false, narrowed := true }
def PickOrdersUptoSaid : Prop := pickOrdersUptoRow.holds Try.pinned (OpenSpec.upto pickOrdersSpec)

end Rows
end Go.Proofs.Ytipbgldfomejpaa
