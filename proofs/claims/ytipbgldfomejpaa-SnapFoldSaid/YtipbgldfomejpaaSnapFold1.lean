/- Layer 17's statement SnapFold in plain Lean: eight blocks, folded. -/
import Derived.Test.YtipbgldfomejpaaSnapActs
namespace Go.Proofs.Ytipbgldfomejpaa.Snap
set_option linter.unusedSimpArgs false
set_option linter.unusedVariables false
open Go.RowKit Go.Proofs.YtipbgldfomejpaaW.PrintWords Go.Proofs.YtipbgldfomejpaaW.PrintLast Go.Proofs.YtipbgldfomejpaaW.PrintMore Arr

def sm (a b : Old) : Prop := a.has = b.has ∧ a.data = b.data
theorem sm.refl (a : Old) : sm a a := ⟨rfl, rfl⟩
theorem sm.symm {a b : Old} (h : sm a b) : sm b a := ⟨h.1.symm, h.2.symm⟩
theorem sm.trans {a b c : Old} (h : sm a b) (h' : sm b c) : sm a c := ⟨h.1.trans h'.1, h.2.trans h'.2⟩
def okO (o : Old) : Prop := gOld o ∧ o.data.length = 32
/-- Where the fold stands. -/
structure St where
  now : List Old
  was : List (List Old)
  opn : List Old
  all : All
def wa (was : List (List Old)) (i : Nat) : List Old := was.getD i []
theorem wa_lt (was : List (List Old)) (x : List Old) (i : Nat) (h : i < was.length) : wa (was ++ [x]) i = wa was i := by
  unfold wa; rw [List.getD_eq_getElem?_getD, List.getD_eq_getElem?_getD, List.getElem?_append_left h]
theorem wa_eq (was : List (List Old)) (x : List Old) (i : Nat) (h : i = was.length) : wa (was ++ [x]) i = x := by
  subst h; unfold wa; rw [List.getD_eq_getElem?_getD, List.getElem?_append_right (Nat.le_refl _), Nat.sub_self]; rfl
theorem og_set (l : List Old) (i j : Nat) (x : Old) (hi : i < l.length) : og (l.set i x) j = if i = j then x else og l j := by
  unfold og
  rw [List.getD_eq_getElem?_getD, List.getD_eq_getElem?_getD]
  by_cases e : i = j
  · subst e; rw [List.getElem?_set_self hi, if_pos rfl]; rfl
  · rw [List.getElem?_set_ne e, if_neg e]
structure FI (S : St) : Prop where
  len8 : S.now.length = 8
  wlen : S.was.length = S.all.length + 1
  was8 : ∀ x ∈ S.was, x.length = 8
  i2 : ∀ i : Nat, i < S.all.length → ∀ b : Nat, b < 8 → (∀ o, inL (al S.all i) b = some o → sm o (og (wa S.was i) b)) ∧ (inL (al S.all i) b = none → sm (og (wa S.was (i + 1)) b) (og (wa S.was i) b))
  i3 : ∀ b : Nat, b < 8 → (∀ o, inL S.opn b = some o → sm o (og (wa S.was S.all.length) b)) ∧ (inL S.opn b = none → sm (og S.now b) (og (wa S.was S.all.length) b))
  okN : ∀ o ∈ S.now, okO o
  okO_ : ∀ o ∈ S.opn, okO o
  okW : ∀ x ∈ S.was, ∀ o ∈ x, okO o
  okA : ∀ x ∈ S.all, ∀ o ∈ x, okO o
def st0 : St := ⟨List.replicate 8 old0, [List.replicate 8 old0], [], []⟩
theorem ok0 : okO old0 := ⟨gold0, rfl⟩
theorem fi0 : FI st0 := by
  have h8 : ∀ o ∈ List.replicate 8 old0, okO o := fun o ho => by rw [List.eq_of_mem_replicate ho]; exact ok0
  refine ⟨rfl, rfl, fun x hx => ?_, fun i hi => absurd hi (Nat.not_lt_zero _), fun b hb => ⟨fun o ho => (by cases ho), fun _ => sm.refl _⟩, h8, fun o ho => (by cases ho), fun x hx => ?_, fun x hx => (by cases hx)⟩
  · rw [List.mem_singleton.1 hx]; rfl
  · rw [List.mem_singleton.1 hx]; exact h8
/-- A step. -/
def stepS (S : St) (b : Nat) (x : Old) : St := { S with now := S.now.set b x, opn := S.opn ++ [{ og S.now b with blk := (b : Int) }] }
def commitS (S : St) : St := { S with was := S.was ++ [S.now], opn := [], all := S.all ++ [S.opn] }
theorem fi_step {S : St} (h : FI S) (b : Nat) (hb : b < 8) (x : Old) (hx : okO x) : FI (stepS S b x) := by
  have hbl : b < S.now.length := by rw [h.len8]; exact hb
  have hob := h.okN _ (og_mem S.now b hbl)
  refine ⟨by show (S.now.set b x).length = 8; rw [List.length_set]; exact h.len8, h.wlen, h.was8, h.i2, fun c hc => ?_, fun o ho => ?_, fun o ho => ?_, h.okW, h.okA⟩
  · obtain ⟨h1, h2⟩ := h.i3 c hc
    show (∀ o, inL (S.opn ++ [_]) c = some o → _) ∧ (inL (S.opn ++ [_]) c = none → sm (og (S.now.set b x) c) _)
    rw [inL_snoc, og_set _ _ _ _ hbl]
    cases hi : inL S.opn c with
    | some o =>
      refine ⟨fun o' ho' => ?_, fun hn => by cases hn⟩
      have : o = o' := by simpa using ho'
      subst this
      exact h1 o hi
    | none =>
      by_cases e : b = c
      · subst e
        refine ⟨fun o' ho' => ?_, fun hn => by simp at hn⟩
        have : ({ og S.now b with blk := (b : Int) } : Old) = o' := by simpa using ho'
        subst this
        exact h2 hi
      · have e' : ¬ ((b : Int) = (c : Int)) := by omega
        rw [if_neg e]
        exact ⟨fun o' ho' => by simp [e'] at ho', fun _ => h2 hi⟩
  · rcases List.mem_or_eq_of_mem_set ho with h1 | h1
    · exact h.okN o h1
    · rw [h1]; exact hx
  · rcases List.mem_append.1 ho with h1 | h1
    · exact h.okO_ o h1
    · rw [List.mem_singleton.1 h1]
      exact ⟨⟨wf_i64 (by show -9223372036854775808 ≤ (b : Int) ∧ (b : Int) ≤ 9223372036854775807; omega), hob.1.2⟩, hob.2⟩
theorem fi_commit {S : St} (h : FI S) : FI (commitS S) := by
  have hw := h.wlen
  refine ⟨h.len8, by show (S.was ++ [S.now]).length = (S.all ++ [S.opn]).length + 1; simp; exact hw, fun x hx => ?_, fun i hi b hb => ?_, fun b hb => ⟨fun o ho => (by cases ho), fun _ => ?_⟩, h.okN, fun o ho => (by cases ho), fun x hx => ?_, fun x hx => ?_⟩
  · rcases List.mem_append.1 hx with h1 | h1
    · exact h.was8 x h1
    · rw [List.mem_singleton.1 h1]; exact h.len8
  · show (∀ o, inL (al (S.all ++ [S.opn]) i) b = some o → sm o (og (wa (S.was ++ [S.now]) i) b)) ∧ (inL (al (S.all ++ [S.opn]) i) b = none → sm (og (wa (S.was ++ [S.now]) (i + 1)) b) (og (wa (S.was ++ [S.now]) i) b))
    have hi' : i < S.all.length + 1 := by have : i < (S.all ++ [S.opn]).length := hi; simpa using this
    by_cases e : i < S.all.length
    · rw [al_lt _ _ _ e, wa_lt _ _ _ (by omega), wa_lt _ _ _ (by omega)]
      exact h.i2 i e b hb
    · obtain rfl : i = S.all.length := by omega
      rw [al_eq, wa_lt _ _ _ (by omega), wa_eq _ _ _ (by omega)]
      exact h.i3 b hb
  · show sm (og S.now b) (og (wa (S.was ++ [S.now]) (S.all ++ [S.opn]).length) b)
    rw [wa_eq _ _ _ (by simp; omega)]
    exact sm.refl _
  · rcases List.mem_append.1 hx with h1 | h1
    · exact h.okW x h1
    · rw [List.mem_singleton.1 h1]; exact h.okN
  · rcases List.mem_append.1 hx with h1 | h1
    · exact h.okA x h1
    · rw [List.mem_singleton.1 h1]; exact h.okO_
theorem fi_chain {S : St} (h : FI S) (b : Nat) (hb : b < 8) (n : Nat) : ∀ d, n + d ≤ S.all.length → (∀ i : Nat, n ≤ i → i < n + d → inL (al S.all i) b = none) → sm (og (wa S.was (n + d)) b) (og (wa S.was n) b)
  | 0, _, _ => sm.refl _
  | d + 1, hl, hn => ((h.i2 (n + d) (by omega) b hb).2 (hn _ (by omega) (by omega))).trans (fi_chain h b hb n d (by omega) fun i h1 h2 => hn i h1 (by omega))
/-- What the reading answers, or what stands now, is what was. -/
theorem fi_read {S : St} (h : FI S) (ho : S.opn = []) (b : Nat) (hb : b < 8) (n : Nat) (hn : n ≤ S.all.length) {o : Old} {ok : Bool} (hR : RefIs S.all 0 (b : Int) (n : Int) o ok) :
    sm (if ok then o else og S.now b) (og (wa S.was n) b) := by
  have hno : ∀ i : Nat, i < S.all.length → n ≤ i → (¬ ((inL (al S.all i) b).isSome = true ∧ (n : Int) ≤ (i : Int) ∧ 0 ≤ i)) → inL (al S.all i) b = none := fun i h1 h2 h3 => by
    cases hx : inL (al S.all i) b with
    | none => rfl
    | some y => exact absurd ⟨by rw [hx]; rfl, by omega, by omega⟩ h3
  rcases hR with ⟨rfl, i, h1, h2, h3, h4, h5⟩ | ⟨rfl, rfl, h1⟩
  · have h6 := (h.i2 i h1 b hb).1 o h4
    have h7 := fi_chain h b hb n (i - n) (by omega) (fun j h8 h9 => hno j (by omega) h8 (h5 j (by omega)))
    rw [show n + (i - n) = i by omega] at h7
    exact h6.trans h7
  · have h6 := (h.i3 b hb).2 (by rw [ho]; rfl)
    have h7 := fi_chain h b hb n (S.all.length - n) (by omega) (fun j h8 h9 => hno j (by omega) h8 (h1 j (by omega)))
    rw [show n + (S.all.length - n) = S.all.length by omega] at h7
    exact h6.trans h7
/-! ### Cells of a row -/
def flat (l : List Old) : List Value := l.flatMap oldC
theorem flat_cons (o : Old) (l : List Old) : flat (o :: l) = oldC o ++ flat l := rfl
theorem flat_len : ∀ (l : List Old), (∀ o ∈ l, okO o) → (flat l).length = l.length * 34
  | [], _ => rfl
  | o :: l, h => by
    rw [flat_cons, List.length_append, oldC_len o (h o (List.mem_cons_self ..)).2, flat_len l fun x hx => h x (List.mem_cons_of_mem _ hx), List.length_cons]
    omega
theorem flat_at : ∀ (l : List Old), (∀ o ∈ l, okO o) → ∀ i, i < l.length → ∀ j, j < 34 → (flat l)[i * 34 + j]? = (oldC (og l i))[j]?
  | [], _, i, hi, _, _ => absurd hi (Nat.not_lt_zero _)
  | o :: l, h, 0, _, j, hj => by
    rw [flat_cons, Nat.zero_mul, Nat.zero_add, List.getElem?_append_left (by rw [oldC_len o (h o (List.mem_cons_self ..)).2]; exact hj)]
    rfl
  | o :: l, h, i + 1, hi, j, hj => by
    have h0 := oldC_len o (h o (List.mem_cons_self ..)).2
    rw [flat_cons, List.getElem?_append_right (by rw [h0]; omega), h0, show (i + 1) * 34 + j - 34 = i * 34 + j by omega, flat_at l (fun x hx => h x (List.mem_cons_of_mem _ hx)) i (by simpa using hi) j hj]
    rfl
theorem flat_put : ∀ (l : List Old), (∀ o ∈ l, okO o) → ∀ i, i < l.length → ∀ x : Old, (flat l).take (i * 34) ++ oldC x ++ (flat l).drop (i * 34 + 34) = flat (l.set i x)
  | [], _, i, hi, _ => absurd hi (Nat.not_lt_zero _)
  | o :: l, h, 0, _, x => by
    have h0 := oldC_len o (h o (List.mem_cons_self ..)).2
    rw [flat_cons, Nat.zero_mul, List.take_zero, List.nil_append, Nat.zero_add, List.drop_append_of_le_length (by omega), List.drop_of_length_le (by omega), List.nil_append]
    rfl
  | o :: l, h, i + 1, hi, x => by
    have h0 := oldC_len o (h o (List.mem_cons_self ..)).2
    have ih := flat_put l (fun x hx => h x (List.mem_cons_of_mem _ hx)) i (by simpa using hi) x
    rw [flat_cons, List.set_cons_succ, flat_cons, ← ih, List.take_append, List.drop_append, h0, List.take_of_length_le (by omega), List.drop_of_length_le (by omega), List.nil_append, show (i + 1) * 34 - 34 = i * 34 by omega, show (i + 1) * 34 + 34 - 34 = i * 34 + 34 by omega]
    simp only [List.append_assoc]
end Go.Proofs.Ytipbgldfomejpaa.Snap
