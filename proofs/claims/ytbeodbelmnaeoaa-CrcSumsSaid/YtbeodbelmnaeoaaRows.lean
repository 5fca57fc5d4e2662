/-
  No cell of these rows narrows 'for every input' (looked for: loops, veiled, ifaces, maps, wideKeys, modest, calm, conditions, laid).
  DERIVED. THE GIVEN ROWS OF THIS SEAT. 12 by the template 'for every input the law returns true; each argument reads behind the call as it read before'; 0 by the template 'total and deterministic' (their statements: YtbeodbelmnaeoaaTotals.lean).
  GIVEN WITH THE SEED: the statements are not yours to turn. If you find one false, say at which input.
  Laid BY PROGRAM, IN A SANDBOX (cutbox-rows.mjs): the forced cells as the released guide's own fill.sh prints them over the translation a1890079dbe90a94… (all of the seat's roots in one cut). By AI agents, Wed Nov 11 2026. No macro, syntax, notation, axiom, sorry.
-/
import Derived.Test.YtbeodbelmnaeoaaChecked
import GoSem.Claim
import GoSem.ClaimJoined
import GoSem.ClaimMapViews
import Derived.JoinedTies
import Derived.KernelRfl
namespace Go.Proofs.Ytbeodbelmnaeoaa
/- THE CELL 'sum', in the pinned program and in every row, IS THE sha256 OF THE DUMP (.gsa) THAT YtbeodbelmnaeoaaProg.lean LOADS. Nothing in Lean hashes anything: it is a label: what it is worth is what the hold of that sum in a sandbox is worth. -/
noncomputable def Try.pinned : Pinned := { name := "ytbeodbelmnaeoaa", sum := "a1890079dbe90a94762f71c8e41f89dc663f848c7dc5596aaf646b0e850f5247", checked := Try.checked }
namespace Rows
def none {H : Type} : Left H := { results := [], args := [] }

/-- 'windrowlaw01.WordPuts': WHATEVER THE INPUT: true; the input reads as it did. -/
def wordPutsSpec : ChangeSpec := { name := "wordPuts", fn := fun _ => fun
  | [d1, d2, d3, d4] => { results := [.lit (.bool true)], args := [d1, d2, d3, d4] }
  | _ => none }
def wordPutsRow : OpenClaim := { program := "ytbeodbelmnaeoaa", sum := "a1890079dbe90a94762f71c8e41f89dc663f848c7dc5596aaf646b0e850f5247", func := "windrow/windrowlaw01.WordPuts", spec := "wordPuts", apart := false }
def WordPutsSaid : Prop := wordPutsRow.holds Try.pinned (OpenSpec.ofChange wordPutsSpec)

/-- ITS FALSE NEIGHBOUR: 'it returns false'. Refute it at one input. -/
def wordPutsWrong : ChangeSpec := { name := "wordPuts", fn := fun _ => fun
  | [d1, d2, d3, d4] => { results := [.lit (.bool false)], args := [d1, d2, d3, d4] }
  | _ => none }
def WordPutsWrongFalsely : Prop := wordPutsRow.holds Try.pinned (OpenSpec.ofChange wordPutsWrong)

/-- 'windrowlaw01.WordGets': WHATEVER THE INPUT: true; the input reads as it did. -/
def wordGetsSpec : ChangeSpec := { name := "wordGets", fn := fun _ => fun
  | [d1, d2, d3] => { results := [.lit (.bool true)], args := [d1, d2, d3] }
  | _ => none }
def wordGetsRow : OpenClaim := { program := "ytbeodbelmnaeoaa", sum := "a1890079dbe90a94762f71c8e41f89dc663f848c7dc5596aaf646b0e850f5247", func := "windrow/windrowlaw01.WordGets", spec := "wordGets", apart := false }
def WordGetsSaid : Prop := wordGetsRow.holds Try.pinned (OpenSpec.ofChange wordGetsSpec)

/-- ITS FALSE NEIGHBOUR: 'it returns false'. Refute it at one input. -/
def wordGetsWrong : ChangeSpec := { name := "wordGets", fn := fun _ => fun
  | [d1, d2, d3] => { results := [.lit (.bool false)], args := [d1, d2, d3] }
  | _ => none }
def WordGetsWrongFalsely : Prop := wordGetsRow.holds Try.pinned (OpenSpec.ofChange wordGetsWrong)

/-- 'windrowlaw01.WordCuts': WHATEVER THE INPUT: true; the input reads as it did. -/
def wordCutsSpec : ChangeSpec := { name := "wordCuts", fn := fun _ => fun
  | [d1, d2] => { results := [.lit (.bool true)], args := [d1, d2] }
  | _ => none }
def wordCutsRow : OpenClaim := { program := "ytbeodbelmnaeoaa", sum := "a1890079dbe90a94762f71c8e41f89dc663f848c7dc5596aaf646b0e850f5247", func := "windrow/windrowlaw01.WordCuts", spec := "wordCuts", apart := false }
def WordCutsSaid : Prop := wordCutsRow.holds Try.pinned (OpenSpec.ofChange wordCutsSpec)

/-- ITS FALSE NEIGHBOUR: 'it returns false'. Refute it at one input. -/
def wordCutsWrong : ChangeSpec := { name := "wordCuts", fn := fun _ => fun
  | [d1, d2] => { results := [.lit (.bool false)], args := [d1, d2] }
  | _ => none }
def WordCutsWrongFalsely : Prop := wordCutsRow.holds Try.pinned (OpenSpec.ofChange wordCutsWrong)

/-- 'windrowlaw01.WordBack': WHATEVER THE INPUT: true; the input reads as it did. -/
def wordBackSpec : ChangeSpec := { name := "wordBack", fn := fun _ => fun
  | [d1, d2, d3, d4] => { results := [.lit (.bool true)], args := [d1, d2, d3, d4] }
  | _ => none }
def wordBackRow : OpenClaim := { program := "ytbeodbelmnaeoaa", sum := "a1890079dbe90a94762f71c8e41f89dc663f848c7dc5596aaf646b0e850f5247", func := "windrow/windrowlaw01.WordBack", spec := "wordBack", apart := false }
def WordBackSaid : Prop := wordBackRow.holds Try.pinned (OpenSpec.ofChange wordBackSpec)

/-- ITS FALSE NEIGHBOUR: 'it returns false'. Refute it at one input. -/
def wordBackWrong : ChangeSpec := { name := "wordBack", fn := fun _ => fun
  | [d1, d2, d3, d4] => { results := [.lit (.bool false)], args := [d1, d2, d3, d4] }
  | _ => none }
def WordBackWrongFalsely : Prop := wordBackRow.holds Try.pinned (OpenSpec.ofChange wordBackWrong)

/-- 'windrowlaw01.WordParts': WHATEVER THE INPUT: true; the input reads as it did. -/
def wordPartsSpec : ChangeSpec := { name := "wordParts", fn := fun _ => fun
  | [d1, d2] => { results := [.lit (.bool true)], args := [d1, d2] }
  | _ => none }
def wordPartsRow : OpenClaim := { program := "ytbeodbelmnaeoaa", sum := "a1890079dbe90a94762f71c8e41f89dc663f848c7dc5596aaf646b0e850f5247", func := "windrow/windrowlaw01.WordParts", spec := "wordParts", apart := false }
def WordPartsSaid : Prop := wordPartsRow.holds Try.pinned (OpenSpec.ofChange wordPartsSpec)

/-- ITS FALSE NEIGHBOUR: 'it returns false'. Refute it at one input. -/
def wordPartsWrong : ChangeSpec := { name := "wordParts", fn := fun _ => fun
  | [d1, d2] => { results := [.lit (.bool false)], args := [d1, d2] }
  | _ => none }
def WordPartsWrongFalsely : Prop := wordPartsRow.holds Try.pinned (OpenSpec.ofChange wordPartsWrong)

/-- 'windrowlaw01.WordOver': WHATEVER THE INPUT: true; the input reads as it did. -/
def wordOverSpec : ChangeSpec := { name := "wordOver", fn := fun _ => fun
  | [d1, d2, d3, d4, d5] => { results := [.lit (.bool true)], args := [d1, d2, d3, d4, d5] }
  | _ => none }
def wordOverRow : OpenClaim := { program := "ytbeodbelmnaeoaa", sum := "a1890079dbe90a94762f71c8e41f89dc663f848c7dc5596aaf646b0e850f5247", func := "windrow/windrowlaw01.WordOver", spec := "wordOver", apart := false }
def WordOverSaid : Prop := wordOverRow.holds Try.pinned (OpenSpec.ofChange wordOverSpec)

/-- ITS FALSE NEIGHBOUR: 'it returns false'. Refute it at one input. -/
def wordOverWrong : ChangeSpec := { name := "wordOver", fn := fun _ => fun
  | [d1, d2, d3, d4, d5] => { results := [.lit (.bool false)], args := [d1, d2, d3, d4, d5] }
  | _ => none }
def WordOverWrongFalsely : Prop := wordOverRow.holds Try.pinned (OpenSpec.ofChange wordOverWrong)

/-- 'windrowlaw02.CrcSums': WHATEVER THE INPUT: true; the input reads as it did. -/
def crcSumsSpec : ChangeSpec := { name := "crcSums", fn := fun _ => fun
  | [d] => { results := [.lit (.bool true)], args := [d] }
  | _ => none }
def crcSumsRow : OpenClaim := { program := "ytbeodbelmnaeoaa", sum := "a1890079dbe90a94762f71c8e41f89dc663f848c7dc5596aaf646b0e850f5247", func := "windrow/windrowlaw02.CrcSums", spec := "crcSums", apart := false }
def CrcSumsSaid : Prop := crcSumsRow.holds Try.pinned (OpenSpec.ofChange crcSumsSpec)

/-- ITS FALSE NEIGHBOUR: 'it returns false'. Refute it at one input. -/
def crcSumsWrong : ChangeSpec := { name := "crcSums", fn := fun _ => fun
  | [d] => { results := [.lit (.bool false)], args := [d] }
  | _ => none }
def CrcSumsWrongFalsely : Prop := crcSumsRow.holds Try.pinned (OpenSpec.ofChange crcSumsWrong)

/-- 'windrowlaw02.CrcSeals': WHATEVER THE INPUT: true; the input reads as it did. -/
def crcSealsSpec : ChangeSpec := { name := "crcSeals", fn := fun _ => fun
  | [d] => { results := [.lit (.bool true)], args := [d] }
  | _ => none }
def crcSealsRow : OpenClaim := { program := "ytbeodbelmnaeoaa", sum := "a1890079dbe90a94762f71c8e41f89dc663f848c7dc5596aaf646b0e850f5247", func := "windrow/windrowlaw02.CrcSeals", spec := "crcSeals", apart := false }
def CrcSealsSaid : Prop := crcSealsRow.holds Try.pinned (OpenSpec.ofChange crcSealsSpec)

/-- ITS FALSE NEIGHBOUR: 'it returns false'. Refute it at one input. -/
def crcSealsWrong : ChangeSpec := { name := "crcSeals", fn := fun _ => fun
  | [d] => { results := [.lit (.bool false)], args := [d] }
  | _ => none }
def CrcSealsWrongFalsely : Prop := crcSealsRow.holds Try.pinned (OpenSpec.ofChange crcSealsWrong)

/-- 'windrowlaw02.CrcMore': WHATEVER THE INPUT: true; the input reads as it did. -/
def crcMoreSpec : ChangeSpec := { name := "crcMore", fn := fun _ => fun
  | [d1, d2] => { results := [.lit (.bool true)], args := [d1, d2] }
  | _ => none }
def crcMoreRow : OpenClaim := { program := "ytbeodbelmnaeoaa", sum := "a1890079dbe90a94762f71c8e41f89dc663f848c7dc5596aaf646b0e850f5247", func := "windrow/windrowlaw02.CrcMore", spec := "crcMore", apart := false }
def CrcMoreSaid : Prop := crcMoreRow.holds Try.pinned (OpenSpec.ofChange crcMoreSpec)

/-- ITS FALSE NEIGHBOUR: 'it returns false'. Refute it at one input. -/
def crcMoreWrong : ChangeSpec := { name := "crcMore", fn := fun _ => fun
  | [d1, d2] => { results := [.lit (.bool false)], args := [d1, d2] }
  | _ => none }
def CrcMoreWrongFalsely : Prop := crcMoreRow.holds Try.pinned (OpenSpec.ofChange crcMoreWrong)

/-- 'windrowlaw02.CrcTears': WHATEVER THE INPUT: true; the input reads as it did. -/
def crcTearsSpec : ChangeSpec := { name := "crcTears", fn := fun _ => fun
  | [d1, d2, d3] => { results := [.lit (.bool true)], args := [d1, d2, d3] }
  | _ => none }
def crcTearsRow : OpenClaim := { program := "ytbeodbelmnaeoaa", sum := "a1890079dbe90a94762f71c8e41f89dc663f848c7dc5596aaf646b0e850f5247", func := "windrow/windrowlaw02.CrcTears", spec := "crcTears", apart := false }
def CrcTearsSaid : Prop := crcTearsRow.holds Try.pinned (OpenSpec.ofChange crcTearsSpec)

/-- ITS FALSE NEIGHBOUR: 'it returns false'. Refute it at one input. -/
def crcTearsWrong : ChangeSpec := { name := "crcTears", fn := fun _ => fun
  | [d1, d2, d3] => { results := [.lit (.bool false)], args := [d1, d2, d3] }
  | _ => none }
def CrcTearsWrongFalsely : Prop := crcTearsRow.holds Try.pinned (OpenSpec.ofChange crcTearsWrong)

/-- 'windrowlaw02.CrcKeeps': WHATEVER THE INPUT: true; the input reads as it did. -/
def crcKeepsSpec : ChangeSpec := { name := "crcKeeps", fn := fun _ => fun
  | [d1, d2, d3] => { results := [.lit (.bool true)], args := [d1, d2, d3] }
  | _ => none }
def crcKeepsRow : OpenClaim := { program := "ytbeodbelmnaeoaa", sum := "a1890079dbe90a94762f71c8e41f89dc663f848c7dc5596aaf646b0e850f5247", func := "windrow/windrowlaw02.CrcKeeps", spec := "crcKeeps", apart := false }
def CrcKeepsSaid : Prop := crcKeepsRow.holds Try.pinned (OpenSpec.ofChange crcKeepsSpec)

/-- ITS FALSE NEIGHBOUR: 'it returns false'. Refute it at one input. -/
def crcKeepsWrong : ChangeSpec := { name := "crcKeeps", fn := fun _ => fun
  | [d1, d2, d3] => { results := [.lit (.bool false)], args := [d1, d2, d3] }
  | _ => none }
def CrcKeepsWrongFalsely : Prop := crcKeepsRow.holds Try.pinned (OpenSpec.ofChange crcKeepsWrong)

/-- 'windrowlaw02.CrcEven': WHATEVER THE INPUT: true; the input reads as it did. -/
def crcEvenSpec : ChangeSpec := { name := "crcEven", fn := fun _ => fun
  | [d1, d2, d3] => { results := [.lit (.bool true)], args := [d1, d2, d3] }
  | _ => none }
def crcEvenRow : OpenClaim := { program := "ytbeodbelmnaeoaa", sum := "a1890079dbe90a94762f71c8e41f89dc663f848c7dc5596aaf646b0e850f5247", func := "windrow/windrowlaw02.CrcEven", spec := "crcEven", apart := false }
def CrcEvenSaid : Prop := crcEvenRow.holds Try.pinned (OpenSpec.ofChange crcEvenSpec)

/-- ITS FALSE NEIGHBOUR: 'it returns false'. Refute it at one input. -/
def crcEvenWrong : ChangeSpec := { name := "crcEven", fn := fun _ => fun
  | [d1, d2, d3] => { results := [.lit (.bool false)], args := [d1, d2, d3] }
  | _ => none }
def CrcEvenWrongFalsely : Prop := crcEvenRow.holds Try.pinned (OpenSpec.ofChange crcEvenWrong)

/- THE SECOND FORM. 'bulk': how many values and letters a reading holds, each counted each time it is reached (what is shared counts as often as it is met; a slice's spare places count too). A statement '..UptoSaid' is the law's where the arguments, and the package variables that the reading takes, are together of bulk at most 1048576: NARROWER than '..Said'. Prove '..Said' where nothing that the law and all that it calls make is longer than what came in: it says more and counts as full. Else prove '..UptoSaid'. A law counts once. -/
mutual
def uptoBulk {H : Type} : DataW H → Nat
  | .lit (.string bytes) => bytes.length + 1
  | .lit _ => 1
  | .nil => 1
  | .ptr d => uptoBulk d + 1
  | .slice elems spare => uptoBulkAll elems + uptoBulkAll spare + 1
  | .agg parts => uptoBulkAll parts + 1
  | .iface _ d => uptoBulk d + 1
  | .map entries => uptoBulkEntries entries + 1
  | .held _ => 1
def uptoBulkAll {H : Type} : List (DataW H) → Nat
  | [] => 0
  | d :: r => uptoBulk d + uptoBulkAll r
def uptoBulkEntries {H : Type} : List (Lit × DataW H) → Nat
  | [] => 0
  | x :: r => uptoBulkEntry x + uptoBulkEntries r
def uptoBulkEntry {H : Type} : Lit × DataW H → Nat
  | (.string bytes, d) => bytes.length + uptoBulk d + 1
  | (_, d) => uptoBulk d + 1
 end
def uptoSmall : (H : Type) → List (DataW H) → Bool := fun _ ds => decide (uptoBulkAll ds ≤ 1048576)
def OpenSpec.upto (s : _root_.Go.ChangeSpec) : _root_.Go.OpenSpec := { _root_.Go.OpenSpec.ofChange s with cond := some uptoSmall }

/-- 'windrowlaw01.WordPuts', WHERE WHAT IT READS IS OF BULK AT MOST 1048576: true; the input reads as it did. -/
def wordPutsUptoRow : OpenClaim := { program := "ytbeodbelmnaeoaa", sum := "a1890079dbe90a94762f71c8e41f89dc663f848c7dc5596aaf646b0e850f5247", func := "windrow/windrowlaw01.WordPuts", spec := "wordPuts", apart := false, narrowed := true }
def WordPutsUptoSaid : Prop := wordPutsUptoRow.holds Try.pinned (OpenSpec.upto wordPutsSpec)

/-- 'windrowlaw01.WordGets', WHERE WHAT IT READS IS OF BULK AT MOST 1048576: true; the input reads as it did. -/
def wordGetsUptoRow : OpenClaim := { program := "ytbeodbelmnaeoaa", sum := "a1890079dbe90a94762f71c8e41f89dc663f848c7dc5596aaf646b0e850f5247", func := "windrow/windrowlaw01.WordGets", spec := "wordGets", apart := false, narrowed := true }
def WordGetsUptoSaid : Prop := wordGetsUptoRow.holds Try.pinned (OpenSpec.upto wordGetsSpec)

/-- 'windrowlaw01.WordCuts', WHERE WHAT IT READS IS OF BULK AT MOST 1048576: true; the input reads as it did. -/
def wordCutsUptoRow : OpenClaim := { program := "ytbeodbelmnaeoaa", sum := "a1890079dbe90a94762f71c8e41f89dc663f848c7dc5596aaf646b0e850f5247", func := "windrow/windrowlaw01.WordCuts", spec := "wordCuts", apart := false, narrowed := true }
def WordCutsUptoSaid : Prop := wordCutsUptoRow.holds Try.pinned (OpenSpec.upto wordCutsSpec)

/-- 'windrowlaw01.WordBack', WHERE WHAT IT READS IS OF BULK AT MOST 1048576: true; the input reads as it did. -/
def wordBackUptoRow : OpenClaim := { program := "ytbeodbelmnaeoaa", sum := "a1890079dbe90a94762f71c8e41f89dc663f848c7dc5596aaf646b0e850f5247", func := "windrow/windrowlaw01.WordBack", spec := "wordBack", apart := false, narrowed := true }
def WordBackUptoSaid : Prop := wordBackUptoRow.holds Try.pinned (OpenSpec.upto wordBackSpec)

/-- 'windrowlaw01.WordParts', WHERE WHAT IT READS IS OF BULK AT MOST 1048576: true; the input reads as it did. -/
def wordPartsUptoRow : OpenClaim := { program := "ytbeodbelmnaeoaa", sum := "a1890079dbe90a94762f71c8e41f89dc663f848c7dc5596aaf646b0e850f5247", func := "windrow/windrowlaw01.WordParts", spec := "wordParts", apart := false, narrowed := true }
def WordPartsUptoSaid : Prop := wordPartsUptoRow.holds Try.pinned (OpenSpec.upto wordPartsSpec)

/-- 'windrowlaw01.WordOver', WHERE WHAT IT READS IS OF BULK AT MOST 1048576: true; the input reads as it did. -/
def wordOverUptoRow : OpenClaim := { program := "ytbeodbelmnaeoaa", sum := "a1890079dbe90a94762f71c8e41f89dc663f848c7dc5596aaf646b0e850f5247", func := "windrow/windrowlaw01.WordOver", spec := "wordOver", apart := false, narrowed := true }
def WordOverUptoSaid : Prop := wordOverUptoRow.holds Try.pinned (OpenSpec.upto wordOverSpec)

/-- 'windrowlaw02.CrcSums', WHERE WHAT IT READS IS OF BULK AT MOST 1048576: true; the input reads as it did. -/
def crcSumsUptoRow : OpenClaim := { program := "ytbeodbelmnaeoaa", sum := "a1890079dbe90a94762f71c8e41f89dc663f848c7dc5596aaf646b0e850f5247", func := "windrow/windrowlaw02.CrcSums", spec := "crcSums", apart := false, narrowed := true }
def CrcSumsUptoSaid : Prop := crcSumsUptoRow.holds Try.pinned (OpenSpec.upto crcSumsSpec)

/-- 'windrowlaw02.CrcSeals', WHERE WHAT IT READS IS OF BULK AT MOST 1048576: true; the input reads as it did. -/
def crcSealsUptoRow : OpenClaim := { program := "ytbeodbelmnaeoaa", sum := "a1890079dbe90a94762f71c8e41f89dc663f848c7dc5596aaf646b0e850f5247", func := "windrow/windrowlaw02.CrcSeals", spec := "crcSeals", apart := false, narrowed := true }
def CrcSealsUptoSaid : Prop := crcSealsUptoRow.holds Try.pinned (OpenSpec.upto crcSealsSpec)

/-- 'windrowlaw02.CrcMore', WHERE WHAT IT READS IS OF BULK AT MOST 1048576: true; the input reads as it did. -/
def crcMoreUptoRow : OpenClaim := { program := "ytbeodbelmnaeoaa", sum := "a1890079dbe90a94762f71c8e41f89dc663f848c7dc5596aaf646b0e850f5247", func := "windrow/windrowlaw02.CrcMore", spec := "crcMore", apart := false, narrowed := true }
def CrcMoreUptoSaid : Prop := crcMoreUptoRow.holds Try.pinned (OpenSpec.upto crcMoreSpec)

/-- 'windrowlaw02.CrcTears', WHERE WHAT IT READS IS OF BULK AT MOST 1048576: true; the input reads as it did. -/
def crcTearsUptoRow : OpenClaim := { program := "ytbeodbelmnaeoaa", sum := "a1890079dbe90a94762f71c8e41f89dc663f848c7dc5596aaf646b0e850f5247", func := "windrow/windrowlaw02.CrcTears", spec := "crcTears", apart := false, narrowed := true }
def CrcTearsUptoSaid : Prop := crcTearsUptoRow.holds Try.pinned (OpenSpec.upto crcTearsSpec)

/-- 'windrowlaw02.CrcKeeps', WHERE WHAT IT READS IS OF BULK AT MOST 1048576: true; the input reads as it did. -/
def crcKeepsUptoRow : OpenClaim := { program := "ytbeodbelmnaeoaa", sum := "a1890079dbe90a94762f71c8e41f89dc663f848c7dc5596aaf646b0e850f5247", func := "windrow/windrowlaw02.CrcKeeps", spec := "crcKeeps", apart := false, narrowed := true }
def CrcKeepsUptoSaid : Prop := crcKeepsUptoRow.holds Try.pinned (OpenSpec.upto crcKeepsSpec)

/-- 'windrowlaw02.CrcEven', WHERE WHAT IT READS IS OF BULK AT MOST 1048576: true; the input reads as it did. -/
def crcEvenUptoRow : OpenClaim := { program := "ytbeodbelmnaeoaa", sum := "a1890079dbe90a94762f71c8e41f89dc663f848c7dc5596aaf646b0e850f5247", func := "windrow/windrowlaw02.CrcEven", spec := "crcEven", apart := false, narrowed := true }
def CrcEvenUptoSaid : Prop := crcEvenUptoRow.holds Try.pinned (OpenSpec.upto crcEvenSpec)

end Rows
end Go.Proofs.Ytbeodbelmnaeoaa
