-- PRINTED BY print.sh 35421559b90ae4d0a3588c463048766b98c2df88dd9212a6774a882060cdf62d: not written by this session
import Derived.Test.YtagpldkgkchfcaaDoorProg
import Derived.Below
import Derived.Deep.Draws
import Derived.Deep.AppendLies
import Derived.Maps.AppendAt
import Derived.OwnWalk
import Derived.Laws.BytesArg
import Derived.Laws.MakeOwn
import Derived.Laws.OwnMore
import Derived.Deep.OwnRows
import Derived.Tactics
import Derived.Lib.ConvBytes
import Derived.Laws.Slices
import Derived.WalkKit
import Derived.KernelRfl
import Derived.RowKit3
import Derived.Deep.LoopGhost
import Derived.Deep.QuietTactic
import Derived.BigQuiet
import Derived.WideLaws
import Derived.Deep.DeepCutAuto
import Derived.Deep.CutBlock
import Derived.Deep.RegionHeld3
import Derived.Laws.Rows
import Derived.Lib.AppendStr
import Derived.ArgAppend
import Derived.Laws.IdiomCopy
import Derived.OrdersHeld
import Derived.Laws.BitsLemmas
import Derived.RowKit
import Derived.Test.YtagpldkgkchfcaaDoorWWords
import Derived.Test.YtagpldkgkchfcaaDoorWLast
import Derived.Test.YtagpldkgkchfcaaDoorWTab
import Derived.Test.YtagpldkgkchfcaaDoorWFour
import Derived.Test.YtagpldkgkchfcaaDoorWQPut
import Derived.Test.YtagpldkgkchfcaaDoorWApart
import Derived.Test.YtagpldkgkchfcaaDoorWArr
import Derived.Test.YtagpldkgkchfcaaDoorWZeros
import Derived.Test.YtagpldkgkchfcaaDoorWFoot
import Derived.Test.YtagpldkgkchfcaaDoorWKept
import Derived.Test.YtagpldkgkchfcaaDoorWShare
import Derived.Test.YtagpldkgkchfcaaDoorWN
import Derived.Test.YtagpldkgkchfcaaDoorWFootNe
import Derived.Test.YtagpldkgkchfcaaDoorWAt
import Derived.Test.YtagpldkgkchfcaaDoorWEqStruct
import Derived.Test.YtagpldkgkchfcaaDoorWRepsOne
import Derived.Test.YtagpldkgkchfcaaDoorWInv
import Derived.Test.YtagpldkgkchfcaaDoorWInvWords
import Derived.Test.YtagpldkgkchfcaaDoorWGuard
import Derived.Test.YtagpldkgkchfcaaDoorWNEv
import Derived.Test.YtagpldkgkchfcaaDoorWMore
namespace Go.Proofs.YtagpldkgkchfcaaDoor.PTextPrints
open Go.RowKit Go.Proofs.YtagpldkgkchfcaaDoorW.PrintWords Go.Proofs.YtagpldkgkchfcaaDoorW.PrintLast Go.Proofs.YtagpldkgkchfcaaDoorW.PrintMore
attribute [local go_sem] max2_int min2_int max_two min_two max_three min_three max_four min_four   -- for this text's walks alone
set_option linter.unusedVariables false
set_option linter.unusedSimpArgs false



def errW : Option Int → Value
  | none => .nilIface
  | some c => .iface 113 (.int .i64 c)
theorem errW_none : errW none = .nilIface := rfl
theorem errW_some (c : Int) : errW (some c) = .iface 113 (.int .i64 c) := rfl

theorem info5 : (Tryd.prog.info? 5).map (fun i => (i.zero, i.size, i.bytes)) = some (some (.int .u8 0), 1, 1) := by kernel_rfl
theorem info89 : (Tryd.prog.info? 89).map (fun i => (i.zero, i.size, i.bytes)) = some (some (.agg #[(.string ⟨#[]⟩), (.int .i64 0), (.bool false), (.string ⟨#[]⟩)]), 4, 48) := by kernel_rfl
-- the values' own types
/-! #### struct type 89 -/
structure S89 where
  f0 : ByteArray
  f1 : Int
  f2 : Bool
  f3 : ByteArray
def z89 : S89 := ⟨(⟨#[]⟩ : ByteArray), (0 : Int), false, (⟨#[]⟩ : ByteArray)⟩
def k89 : Kd S89 := Kd.iso (Kd.pair Kd.string (Kd.pair (Kd.int .i64) (Kd.pair Kd.bool Kd.string))) (fun x : S89 => (x.f0, x.f1, x.f2, x.f3))
theorem k89_open {w : World} {x : S89} {cs : List Value} (h : k89.K w x cs) : cs = [.string x.f0, .int .i64 x.f1, .bool x.f2, .string x.f3] := by
  obtain ⟨_, _, rfl, rfl, ⟨_, _, rfl, rfl, ⟨_, _, rfl, rfl, rfl⟩⟩⟩ := h
  exact rfl
theorem k89_openM {w : World} {base : Nat} {ok : Nat → Prop} {x : S89} {cs : List Value} (h : k89.M w base ok x cs) : cs = [.string x.f0, .int .i64 x.f1, .bool x.f2, .string x.f3] := by
  obtain ⟨_, _, rfl, rfl, ⟨_, _, rfl, rfl, ⟨_, _, rfl, rfl, rfl⟩⟩⟩ := h
  exact rfl
theorem k89_mk (w : World) (x : S89)  : k89.K w x [.string x.f0, .int .i64 x.f1, .bool x.f2, .string x.f3] := ⟨[.string x.f0], [.int .i64 x.f1, .bool x.f2, .string x.f3], rfl, rfl, ⟨[.int .i64 x.f1], [.bool x.f2, .string x.f3], rfl, rfl, ⟨[.bool x.f2], [.string x.f3], rfl, rfl, rfl⟩⟩⟩
theorem k89_mkM (w : World) (base : Nat) (ok : Nat → Prop) (x : S89)  : k89.M w base ok x [.string x.f0, .int .i64 x.f1, .bool x.f2, .string x.f3] := ⟨[.string x.f0], [.int .i64 x.f1, .bool x.f2, .string x.f3], rfl, rfl, ⟨[.int .i64 x.f1], [.bool x.f2, .string x.f3], rfl, rfl, ⟨[.bool x.f2], [.string x.f3], rfl, rfl, rfl⟩⟩⟩
def rd_T89 (xs : List S89) (i : Int) : S89 := xs.getD i.toNat z89
theorem at_T89 {w : World} {A : Option Addr} {n : Nat} {xs : List S89} (h : Kd.C k89 w A n xs) (i : Int) (h0 : 0 ≤ i) (h1 : i < n) : ∃ ad , A = some ad ∧ w.cell? (ad.add (i.toNat * 4)) = some (.string (rd_T89 xs i).f0) ∧ w.cell? ⟨(ad.add (i.toNat * 4)).block, (ad.add (i.toNat * 4)).off + 1, none⟩ = some (.int .i64 (rd_T89 xs i).f1) ∧ w.cell? ⟨(ad.add (i.toNat * 4)).block, (ad.add (i.toNat * 4)).off + 2, none⟩ = some (.bool (rd_T89 xs i).f2) ∧ w.cell? ⟨(ad.add (i.toNat * 4)).block, (ad.add (i.toNat * 4)).off + 3, none⟩ = some (.string (rd_T89 xs i).f3) := by
  obtain ⟨ad, c, e, _, hK, hc0⟩ := Kd.C_get h z89 i h0 h1
  have hc : ∀ j u, c[j]? = some u → w.cell? (ad.add (i.toNat * 4 + j)) = some u := hc0
  obtain rfl := k89_open hK
  exact ⟨ad, e, hc 0 _ rfl, by rw [← add_field _ _ 1 (by omega)]; exact hc 1 _ rfl, by rw [← add_field _ _ 2 (by omega)]; exact hc 2 _ rfl, by rw [← add_field _ _ 3 (by omega)]; exact hc 3 _ rfl⟩

end Go.Proofs.YtagpldkgkchfcaaDoor.PTextPrints
