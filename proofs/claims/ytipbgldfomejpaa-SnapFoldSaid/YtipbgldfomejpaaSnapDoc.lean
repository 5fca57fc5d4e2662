/- Layer 17's calls, said of a document. -/
import Derived.Test.YtipbgldfomejpaaSnapDo
import Derived.Test.YtipbgldfomejpaaLit
namespace Go.Proofs.Ytipbgldfomejpaa.Snap
set_option linter.unusedSimpArgs false
set_option linter.unusedVariables false
open Go.RowKit Go.Proofs.YtipbgldfomejpaaW.PrintWords Go.Proofs.YtipbgldfomejpaaW.PrintLast Go.Proofs.YtipbgldfomejpaaW.PrintMore Arr

section
variable {w w1 : World} {s ob lb m : Nat} {st : All × Nat}
theorem DocAt.below' (h : DocAt w s ob lb st m) (hb : Below w.heap.size w w1) : DocAt w1 s ob lb st m := ⟨h.1.below' hb, h.2⟩
theorem DocAt.fresh (h : DocAt w s ob lb st m) (hg : w.grownBy w1 none) : DocAt w1 s ob lb st m := ⟨h.1.fresh hg, h.2⟩
theorem DocAt.store {g : Nat} {o : Old} {row : Option Nat} (h : DocAt w s ob lb st m) (ho : OB w g o) (hg : w.grownBy w1 row) (hr : row = some g) : DocAt w1 s ob lb st m :=
  ⟨by subst hr; exact h.1.grown hg (by simpa using h.1.blk.ne ho (by decide)) (by simpa using h.1.old.ne_blk ho) (by simpa using h.1.last.ne_blk ho), h.2⟩
theorem DocAt.drew (h : DocAt w s ob lb st m) : DocAt w.drew s ob lb st m := ⟨h.1.drew, h.2⟩
theorem DocAt.drewN (h : DocAt w s ob lb st m) (n : Nat) : DocAt (w.drewN n) s ob lb st m := ⟨h.1.drewN n, h.2⟩
theorem DocAt.nil (h : SnapAt w s ob lb 0 [] (fun _ => 0) 0) : DocAt w s ob lb ([], 0) 0 := ⟨h, Nat.le_refl _⟩
end
theorem newDoc (w : World) : Calls Try.prog 13 #[] w fun e w' => ∃ s ob lb, e = .returned (.pointer (some ⟨s, 0, none⟩)) ∧ DocAt w' s ob lb ([], 0) 0 ∧ w.heap.size ≤ s ∧ w.heap.size ≤ ob ∧ w.heap.size ≤ lb ∧ Below w.heap.size w w' := by
  refine (new_calls w).mono ?_
  rintro e w' ⟨s, ob, lb, he, hS, h⟩
  exact ⟨s, ob, lb, he, .nil hS, h⟩
theorem commitDoc (w : World) (s ob lb m : Nat) (st : All × Nat) (hS : DocAt w s ob lb st m) (A : Option Addr) (c : Nat) (l : List Old) (hCO : ∀ w1, Moves w w1 s ob lb → CO w1 A l.length l) (hG : ∀ o ∈ l, gOld o) (hn : st.1.length ≤ 100000) (hm : m + l.length ≤ 100000) :
    Calls Try.prog 14 #[.pointer (some ⟨s, 0, none⟩), .slice A l.length c] w fun e w' => e = .returned (.tuple #[]) ∧ DocAt w' s ob lb (st.1 ++ [l], st.2) (m + l.length) ∧ Moves w w' s ob lb := by
  refine (commit_calls _ s ob lb m _ _ _ hS.1 A c l hCO hG (by omega) (by omega) (by omega)).mono ?_
  rintro e w1 ⟨he, hS1, hM1⟩
  refine ⟨he, ⟨?_, by have := hS.2; simp; omega⟩, hM1⟩
  rw [canon_commit st.1 st.2 hS.2 l] at hS1
  show SnapAt w1 s ob lb ((st.1 ++ [l]).length : Nat) _ _ _
  rw [show (((st.1 ++ [l]).length : Nat) : Int) = (st.1.length : Int) + 1 by simp]
  exact hS1
def goneTo (st : All × Nat) (n : Int) : Nat := max st.2 (min n st.1.length).toNat
theorem forgetDoc (w : World) (s ob lb m : Nat) (st : All × Nat) (hS : DocAt w s ob lb st m) (n : Int) :
    Calls Try.prog 25 #[.pointer (some ⟨s, 0, none⟩), .int .i64 n] w fun e w' => e = .returned (.tuple #[]) ∧ DocAt w' s ob lb (st.1, goneTo st n) m ∧ Moves w w' s ob lb := by
  refine (forget_calls _ s ob lb m _ _ _ hS.1 n).mono ?_
  rintro e w1 ⟨he, hS1, hM1⟩
  have hg := hS.2
  rw [canon_forget st.1 st.2 n (goneTo st n) (fun i hi => by unfold goneTo; omega)] at hS1
  exact ⟨he, ⟨hS1, by show goneTo st n ≤ st.1.length; unfold goneTo; omega⟩, hM1⟩
theorem nowDoc (w : World) (s ob lb m : Nat) (st : All × Nat) (hS : DocAt w s ob lb st m) : Calls Try.prog 16 #[.pointer (some ⟨s, 0, none⟩)] w fun e w' => e = .returned (.int .i64 st.1.length) ∧ w = w' := now_calls w s ob lb m _ _ _ hS.1
theorem lastDoc (w : World) (s ob lb m : Nat) (st : All × Nat) (hS : DocAt w s ob lb st m) (b : Int) (hb : (Lit.int .i64 b).wf = true) : Calls Try.prog 21 #[.pointer (some ⟨s, 0, none⟩), .int .i64 b] w fun e w' => e = .returned (.int .i64 (lastOf st.1 b)) ∧ w = w' := last_calls w s ob lb m _ _ _ hS.1 b hb
theorem sizeDoc (w : World) (s ob lb m : Nat) (st : All × Nat) (hS : DocAt w s ob lb st m) : Calls Try.prog 23 #[.pointer (some ⟨s, 0, none⟩)] w fun e w' => e = .returned (.int .i64 (canon st.1 st.2).length) ∧ w = w' := size_calls w s ob lb m _ _ _ hS.1
theorem readDoc (w : World) (s ob lb m : Nat) (st : All × Nat) (hS : DocAt w s ob lb st m) (b n : Int) (hb : (Lit.int .i64 b).wf = true) (hn : (Lit.int .i64 n).wf = true) (hl : st.1.length ≤ 100000) {o : Old} {ok : Bool} (hR : RefIs st.1 st.2 b n o ok) :
    Calls Try.prog 15 #[.pointer (some ⟨s, 0, none⟩), .int .i64 b, .int .i64 n] w fun e w' => e = .returned (.tuple #[.agg (oldC o).toArray, .bool ok]) ∧ o.data.length = 32 ∧ Below w.heap.size w w' := by
  refine (read_calls w s ob lb m _ _ _ hS.1 b n hb hn (by omega) (by omega) (lastTo_le st.1 b _).2).mono ?_
  rintro e w1 ⟨o', ok', he, hI, hd, hB⟩
  obtain ⟨rfl, rfl⟩ := hI.unique (read_ref hR)
  exact ⟨he, hd, hB⟩
/-- What a reading answers is of one kind. -/
theorem ref_is (all : All) (gone : Nat) (b n : Int) : ∃ o ok, RefIs all gone b n o ok := by
  have hp : ∀ k, k ≤ all.length → (∃ i : Nat, i < k ∧ (n ≤ (i : Int) ∧ gone ≤ i ∧ ∃ o, inL (al all i) b = some o) ∧ ∀ j : Nat, j < i → ¬ ((inL (al all j) b).isSome = true ∧ n ≤ (j : Int) ∧ gone ≤ j)) ∨ (∀ j : Nat, j < k → ¬ ((inL (al all j) b).isSome = true ∧ n ≤ (j : Int) ∧ gone ≤ j)) := by
    intro k
    induction k with
    | zero => intro _; exact .inr fun j hj => absurd hj (Nat.not_lt_zero _)
    | succ k ih =>
      intro hk
      rcases ih (by omega) with ⟨i, h1, h2, h3⟩ | h1
      · exact .inl ⟨i, by omega, h2, h3⟩
      · by_cases hc : (inL (al all k) b).isSome = true ∧ n ≤ (k : Int) ∧ gone ≤ k
        · obtain ⟨o, ho⟩ := Option.isSome_iff_exists.1 hc.1
          exact .inl ⟨k, by omega, ⟨hc.2.1, hc.2.2, o, ho⟩, h1⟩
        · refine .inr fun j hj => ?_
          by_cases e : j = k
          · subst e; exact hc
          · exact h1 j (by omega)
  rcases hp all.length (Nat.le_refl _) with ⟨i, h1, ⟨h2, h3, o, h4⟩, h5⟩ | h1
  · exact ⟨o, true, .inl ⟨rfl, i, h1, h2, h3, h4, h5⟩⟩
  · exact ⟨old0, false, .inr ⟨rfl, rfl, h1⟩⟩
theorem CO_one {w : World} {g : Nat} {o : Old} (h : OB w g o) (hl : o.data.length = 32) : CO w (some ⟨g, 0, none⟩) 1 [o] := by
  refine ⟨rfl, by omega, fun _ => ⟨_, rfl, fun j p hp => ?_⟩⟩
  obtain rfl : j = 0 := by
    have := (List.getElem?_eq_some_iff.1 hp).1
    simp at this; exact this
  simp only [List.getElem?_cons_zero, Option.some.injEq] at hp
  subst hp
  refine ⟨oldC o, by rw [oldC_len o hl, k29_sz], ?_, fun i u hu => ?_⟩
  · exact ⟨[.int .i64 o.blk], _, rfl, rfl, ⟨[.bool o.has], encs (Value.int .u8) o.data, rfl, rfl, ⟨hl, rfl⟩⟩⟩
  · rw [Nat.zero_mul, Nat.zero_add]
    have := h.cell hu
    rcases i with _ | i
    · exact this
    · simpa [Addr.add] using this
def aw1 : Old := ⟨3, false, List.replicate 32 0⟩
def aw2 : Old := ⟨3, true, 7 :: List.replicate 31 0⟩
end Go.Proofs.Ytipbgldfomejpaa.Snap
