/- Layer 15 in plain Lean: groups, and what they do. -/
import Derived.Test.YtkkmmbbnaafhlaaRollMem
namespace Go.Proofs.Ytkkmmbbnaafhlaa.Roll
set_option linter.unusedSimpArgs false
set_option linter.unusedVariables false
open Go.RowKit Go.Proofs.YtkkmmbbnaafhlaaW.PrintWords Go.Proofs.YtkkmmbbnaafhlaaW.PrintLast Go.Proofs.YtkkmmbbnaafhlaaW.PrintMore Arr PRollJoin

def rc0 : Rec := ⟨0, 0, 0, 0, 0, List.replicate 32 0⟩
def found0 : Found := ⟨0, rc0⟩
def fd (l : List Found) (i : Nat) : Found := l.getD i found0
theorem fd_at (l : List Found) (i : Nat) (h : i < l.length) : l[i]? = some (fd l i) := by
  unfold fd; rw [List.getD_eq_getElem?_getD, List.getElem?_eq_getElem h]; rfl
theorem fd_mem (l : List Found) (i : Nat) (h : i < l.length) : fd l i ∈ l := by
  unfold fd; rw [List.getD_eq_getElem?_getD, List.getElem?_eq_getElem h]; exact List.getElem_mem h
theorem take_fd (l : List Found) (k : Nat) (h : k < l.length) : l.take (k + 1) = l.take k ++ [fd l k] := by
  rw [List.take_add_one, fd_at l k h]; rfl
def gstep (s : List S28 × List S44) (f : Found) : List S28 × List S44 :=
  if f.rc.kind = 3 then (if f.rc.count = s.2.length then s.1 ++ [⟨f.rc.block == 1, f.rc.seq, s.2⟩] else s.1, [])
  else (s.1, s.2 ++ [⟨f.rc.block, if f.rc.kind = 1 then f.place else 0⟩])
def gst (l : List Found) : List S28 × List S44 := l.foldl gstep ([], [])
def groups (l : List Found) : List S28 := (gst l).1
theorem gst_snoc (l : List Found) (f : Found) : gst (l ++ [f]) = gstep (gst l) f := by simp [gst, List.foldl_append]
theorem gst_succ (l : List Found) (k : Nat) (h : k < l.length) : gst (l.take (k + 1)) = gstep (gst (l.take k)) (fd l k) := by rw [take_fd l k h, gst_snoc]
theorem gst_len : ∀ l : List Found, ∀ s : List S28 × List S44, (l.foldl gstep s).1.length ≤ s.1.length + l.length ∧ (l.foldl gstep s).2.length ≤ s.2.length + l.length
  | [], s => by simp
  | f :: l, s => by
    have h := gst_len l (gstep s f)
    have h1 : (gstep s f).1.length ≤ s.1.length + 1 ∧ (gstep s f).2.length ≤ s.2.length + 1 := by
      unfold gstep
      split
      · split <;> simp
      · simp
    simp only [List.foldl_cons, List.length_cons]
    omega
theorem gst_le (l : List Found) (k : Nat) : (gst (l.take k)).1.length ≤ k ∧ (gst (l.take k)).2.length ≤ k := by
  have := gst_len (l.take k) ([], [])
  simp at this
  unfold gst
  omega
/-- The changes of a group, done one behind the other. -/
def dstep (p : List Int) (c : S44) : List Int := if 0 ≤ c.f0 ∧ c.f0 < (p.length : Int) then p.set c.f0.toNat c.f1 else p
def dGrp (p : List Int) (g : S28) : List Int := g.f2.foldl dstep p
def doAll (p : List Int) (gs : List S28) : List Int := gs.foldl dGrp p
theorem dstep_len (p : List Int) (c : S44) : (dstep p c).length = p.length := by unfold dstep; split <;> simp
theorem dGrp_len (cs : List S44) : ∀ p : List Int, (cs.foldl dstep p).length = p.length := by
  induction cs with
  | nil => intro p; rfl
  | cons c cs ih => intro p; rw [List.foldl_cons, ih, dstep_len]
theorem doAll_len (gs : List S28) : ∀ p : List Int, (doAll p gs).length = p.length := by
  induction gs with
  | nil => intro p; rfl
  | cons g gs ih => intro p; show (doAll (dGrp p g) gs).length = _; rw [ih]; exact dGrp_len g.f2 p
end Go.Proofs.Ytkkmmbbnaafhlaa.Roll
