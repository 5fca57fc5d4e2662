/- The law PickBest: what it answers for every input. Conditions: none beyond the statement's own. -/
import Derived.Test.YtipbgldfomejpaaRefPickBest
import Derived.Test.YtipbgldfomejpaaDec
import Derived.KernelRfl
namespace Go.Proofs.Ytipbgldfomejpaa.PurePickBest
open Go.RowKit Go.Proofs.Ytipbgldfomejpaa.PPickBest Go.Proofs.YtipbgldfomejpaaW.PrintWords Go.Proofs.YtipbgldfomejpaaW.PrintLast Go.Proofs.YtipbgldfomejpaaW.PrintMore Go.Proofs.Ytipbgldfomejpaa.PlainPick

abbrev Holds (W : World) : Ending → World → Prop := fun e w' => e = .returned (.bool true) ∧ Below W.heap.size W w'
def G59 (x : S59) : Prop := (Lit.int .i64 x.f0).wf = true ∧ (Lit.int .i64 x.f1).wf = true ∧ (Lit.int .i64 x.f2).wf = true
section
attribute [local irreducible] Dec.Dec Dec.DecF
theorem dec59 : Dec.Dec Try.prog 59 k59 G59 :=
  Dec.dec_struct (k := Kd.pair (Kd.int .i64) (Kd.pair (Kd.int .i64) (Kd.int .i64))) (G := fun x => (Lit.int .i64 x.1).wf = true ∧ (Lit.int .i64 x.2.1).wf = true ∧ (Lit.int .i64 x.2.2).wf = true) (pr := fun x : S59 => (x.f0, x.f1, x.f2)) Try.underlying59 (by kernel_rfl)
    (Dec.decf_cons (Dec.dec_int Try.underlying3) rfl (by kernel_rfl) (Dec.decf_cons (Dec.dec_int Try.underlying3) rfl (by kernel_rfl) (Dec.decf_one (Dec.dec_int Try.underlying3) rfl (by kernel_rfl)))) (fun ⟨a, b, c⟩ => ⟨⟨a, b, c⟩, rfl⟩)
theorem dec64 : Dec.Dec Try.prog 64 (Kd.slice 59 k59) (fun l => ∀ x ∈ l, G59 x) := Dec.dec_slice Try.underlying64 dec59 (by kernel_rfl)
end
theorem cells59 {w : World} {x : S59} {cs : Array Value} (h : k59.K w x cs.toList) : cs = #[.int .i64 x.f0, .int .i64 x.f1, .int .i64 x.f2] := by
  have := k59_open h
  cases cs; simp at this; rw [this]

theorem drop_rd (l : List S59) (j : Nat) (h : j < l.length) : l.drop j = rd_T59 l (j : Int) :: l.drop (j + 1) := by
  rw [List.drop_eq_getElem_cons h]
  unfold rd_T59
  rw [Int.toNat_natCast, List.getD_eq_getElem?_getD, List.getElem?_eq_getElem h]
  rfl
/-- Does one of another zone beat it? -/
def beaten (s p z : Int) (l : List S59) (c : S59) : Bool := l.any fun d => decide (V s d) && (d.f0 != z) && bs s p d c
theorem inner {n p z : Int} (hn : 0 ≤ n ∧ n ≤ 255) (l : List S59) (ha : ∀ c ∈ l, Ag c) (hl : l.length ≤ 1000000) (ok so : Bool) (i : Nat) (hi : i < l.length) (hv : V (1 + n) (rd_T59 l (i : Int))) (d : Nat) : ∀ (k j : Nat) (f : Bool), j + d = l.length → d < k →
    windrowlaw16_PickBest.l1 k l n p z ok so (i : Int) f (j : Int) = if (f || beaten (1 + n) p z (l.drop j) (rd_T59 l (i : Int))) = true then windrowlaw16_PickBest.l0 (k - d - 1) l n p z ok so ((i + 1 : Nat) : Int) else some true := by
  have hs : 1 + n ≤ 256 := by omega
  induction d with
  | zero =>
    intro k j f hj hk
    obtain ⟨k, rfl⟩ : ∃ m, k = m + 1 := ⟨k - 1, by omega⟩
    have e3 : wrap64 ((i : Int) + 1) = ((i + 1 : Nat) : Int) := by rw [IntWalk.wrap64_in _ (by omega)]; omega
    simp only [windrowlaw16_PickBest.l1]
    rw [if_neg (by omega), List.drop_of_length_le (by omega), e3]
    simp [beaten]
  | succ d ih =>
    intro k j f hj hk
    obtain ⟨k, rfl⟩ : ∃ m, k = m + 1 := ⟨k - 1, by omega⟩
    have hjl : j < l.length := by omega
    have e3 : wrap64 ((j : Int) + 1) = ((j + 1 : Nat) : Int) := by rw [IntWalk.wrap64_in _ (by omega)]; omega
    have hac := ha _ (rd_mem l j hjl)
    have hai := ha _ (rd_mem l i hi)
    have hd := drop_rd l j hjl
    simp only [windrowlaw16_PickBest.l1]
    rw [if_pos (by omega), e3, hd]
    generalize hc : rd_T59 l (j : Int) = c at *
    have hb : beaten (1 + n) p z (c :: l.drop (j + 1)) (rd_T59 l (i : Int)) = (decide (V (1 + n) c) && (c.f0 != z) && bs (1 + n) p c (rd_T59 l (i : Int)) || beaten (1 + n) p z (l.drop (j + 1)) (rd_T59 l (i : Int))) := by simp [beaten]
    rw [hb, show k + 1 - (d + 1) - 1 = k - d - 1 by omega]
    have go := fun f => ih k (j + 1) f (by omega) (by omega)
    cases f
    · rw [if_neg (by decide), if_pos (by omega), size_eq hn]
      simp only [Option.bind_some]
      rw [may_eq]
      simp only [Option.bind_some]
      by_cases hvc : V (1 + n) c
      · rw [decide_eq_true (show V (1 + n) c ∧ Ag c from ⟨hvc, hac⟩), if_pos rfl, decide_eq_true hvc]
        by_cases hz : c.f0 = z
        · have : (c.f0 != z) = false := by simp [hz]
          rw [if_pos hz, go, this]; simp
        · have : (c.f0 != z) = true := by simp [hz]
          rw [if_neg hz, if_pos (by omega), if_pos (by omega)]
          generalize rd_T59 l (i : Int) = ci at *
          have e := better_eq (p := p) hs hvc hv hac hai
          rw [e]
          simp only [Option.bind_some]
          rw [go, this]; simp
      · rw [decide_eq_false (show ¬ (V (1 + n) c ∧ Ag c) from fun h => hvc h.1), if_neg (by decide), go, decide_eq_false hvc]; simp
    · rw [if_pos rfl, go]; simp
theorem outer {n p z : Int} (hn : 0 ≤ n ∧ n ≤ 255) (l : List S59) (ha : ∀ c ∈ l, Ag c) (hl : l.length ≤ 1000000) (ok : Bool) (d : Nat) : ∀ (k i : Nat) (so : Bool), i + d = l.length → d * (l.length + 4) + 1 < k →
    (ok = true → ∃ c ∈ l.drop i, V (1 + n) c ∧ c.f0 = z ∧ ∀ e ∈ l, V (1 + n) e → bs (1 + n) p e c = false) → (ok = false → so = false ∧ ∀ c ∈ l, ¬ V (1 + n) c) → windrowlaw16_PickBest.l0 k l n p z ok so (i : Int) = some true := by
  induction d with
  | zero =>
    intro k i so hi hk h1 h0
    obtain ⟨k, rfl⟩ : ∃ m, k = m + 1 := ⟨k - 1, by omega⟩
    simp only [windrowlaw16_PickBest.l0]
    rw [if_neg (by omega)]
    cases ok
    · rw [(h0 rfl).1, if_neg (by decide)]; rfl
    · obtain ⟨c, hc, _⟩ := h1 rfl
      rw [List.drop_of_length_le (by omega)] at hc
      cases hc
  | succ d ih =>
    intro k i so hi hk h1 h0
    rw [Nat.succ_mul] at hk
    obtain ⟨k, rfl⟩ : ∃ m, k = m + 1 := ⟨k - 1, by omega⟩
    have hil : i < l.length := by omega
    have hm := rd_mem l i hil
    have hd := drop_rd l i hil
    have e3 : wrap64 ((i : Int) + 1) = ((i + 1 : Nat) : Int) := by rw [IntWalk.wrap64_in _ (by omega)]; omega
    simp only [windrowlaw16_PickBest.l0]
    rw [if_pos (by omega), if_pos (by omega), size_eq hn]
    simp only [Option.bind_some]
    rw [may_eq, e3]
    simp only [Option.bind_some]
    by_cases hv : V (1 + n) (rd_T59 l (i : Int))
    · rw [decide_eq_true (show V (1 + n) (rd_T59 l (i : Int)) ∧ Ag (rd_T59 l (i : Int)) from ⟨hv, ha _ hm⟩), if_pos rfl]
      cases ok
      · exact absurd hv ((h0 rfl).2 _ hm)
      · obtain ⟨c, hc, vc, zc, uc⟩ := h1 rfl
        rw [if_pos rfl]
        have next : ∀ k so, d * (l.length + 4) + 1 < k → c ≠ rd_T59 l (i : Int) → windrowlaw16_PickBest.l0 k l n p z true so ((i + 1 : Nat) : Int) = some true := by
          intro k so hk hne
          refine ih k (i + 1) so (by omega) hk (fun _ => ⟨c, ?_, vc, zc, uc⟩) (fun h => by cases h)
          rw [hd] at hc
          rcases List.mem_cons.1 hc with h | h
          · exact absurd h hne
          · exact h
        obtain ⟨k, rfl⟩ : ∃ m, k = m + 1 := ⟨k - 1, by omega⟩
        simp only [windrowlaw16_PickBest.j3]
        by_cases hz : (rd_T59 l (i : Int)).f0 = z
        · have : ((rd_T59 l (i : Int)).f0 == z) = true := beq_iff_eq.2 hz
          have e := inner (p := p) (z := z) hn l ha hl true true i hil hv l.length k 0 false (by omega) (by omega)
          rw [Int.natCast_zero] at e
          rw [this, if_pos rfl, e, List.drop_zero, Bool.false_or]
          by_cases hb : beaten (1 + n) p z l (rd_T59 l (i : Int)) = true
          · rw [if_pos hb]
            refine next _ _ (by omega) fun ec => ?_
            unfold beaten at hb
            rw [List.any_eq_true] at hb
            obtain ⟨x, hx, hb⟩ := hb
            rw [Bool.and_eq_true, Bool.and_eq_true, decide_eq_true_eq] at hb
            rw [← ec, uc x hx hb.1.1] at hb
            exact absurd hb.2 (by decide)
          · rw [if_neg hb]
        · have : ((rd_T59 l (i : Int)).f0 == z) = false := beq_eq_false_iff_ne.2 hz
          rw [this, if_neg (by decide), e3]
          exact next _ _ (by omega) fun ec => hz (by rw [← ec]; exact zc)
    · rw [decide_eq_false (fun h => hv h.1), if_neg (by decide)]
      refine ih k (i + 1) so (by omega) (by omega) (fun h => ?_) h0
      obtain ⟨c, hc, vc, r⟩ := h1 h
      rw [hd] at hc
      rcases List.mem_cons.1 hc with g | g
      · rw [g] at vc; exact absurd vc hv
      · exact ⟨c, g, vc, r⟩
theorem law_eq (l : List S59) (n p t : Int) (hn : 0 ≤ n ∧ n ≤ 255) (ht : 0 ≤ t ∧ t ≤ 255) : windrowlaw16_PickBest.f 4000 l n p t = some true := by
  have hj : windrowlaw16_PickBest.j0 4000 l n p t true = some true := by
    simp only [windrowlaw16_PickBest.j0]
    rw [if_pos trivial, awake_eq 3999 (by omega)]; rfl
  obtain ⟨b, hb, hr⟩ := right_eq l 4000 (by omega)
  unfold windrowlaw16_PickBest.f
  rw [awake_eq 4000 (by omega)]
  simp only [Option.bind_some]
  rw [if_pos trivial, hb]
  simp only [Option.bind_some]
  cases b
  · rw [if_neg (by decide)]; exact hj
  · rw [if_pos rfl]
    obtain ⟨ha, hl⟩ := hr rfl
    by_cases h0 : l.length = 0
    · have : ((l.length : Int) == 0) = true := by simp [h0]
      rw [this]; exact hj
    · have : ((l.length : Int) == 0) = false := beq_eq_false_iff_ne.2 (by omega)
      rw [this]
      have h5 : l.length * (l.length + 4) ≤ 60 * 64 := Nat.mul_le_mul hl (by omega)
      obtain ⟨q, hq⟩ : ∃ q : Nat, Int.tmod t (l.length : Int) = q := ⟨(Int.tmod t (l.length : Int)).toNat, by have := Int.tmod_nonneg (l.length : Int) ht.1; omega⟩
      have hql : q < l.length := by have := Int.tmod_lt_of_pos t (show (0 : Int) < (l.length : Int) by omega); omega
      obtain ⟨z, ok, h1, h2⟩ := best_eq (s := 1 + n) (p := p) (by omega) l ha (by omega) 3999 (by omega)
      have hmem : ∀ c, c ∈ l ↔ c ∈ l.drop q ++ l.take q := by
        intro c
        have e : l = l.take q ++ l.drop q := (List.take_append_drop q l).symm
        constructor
        · intro h; rw [e, List.mem_append] at h; rw [List.mem_append]; exact h.symm
        · intro h; rw [e, List.mem_append]; rw [List.mem_append] at h; exact h.symm
      have hml : (l.drop q ++ l.take q).length = l.length := by rw [List.length_append, List.length_drop, List.length_take]; omega
      obtain ⟨z', ok', h3, h4⟩ := best_eq (s := 1 + n) (p := p) (by omega) (l.drop q ++ l.take q) (fun c hc => ha c ((hmem c).2 hc)) (by omega) 3999 (by omega)
      obtain ⟨rfl, rfl⟩ := h2.one hmem h4
      simp only [windrowlaw16_PickBest.j0]
      rw [if_neg (by decide), size_eq hn]
      simp only [Option.bind_some]
      rw [h1]
      simp only [Option.bind_some, List.nil_append, List.length_nil]
      rw [if_neg (by omega), IntWalk.wrap64_in t (by omega), hq, if_pos (by omega), if_pos (by omega), Int.toNat_natCast, if_pos (by rw [List.length_drop]; omega), if_pos (by rw [List.length_drop, List.length_take]; omega), h3]
      simp only [Option.bind_some]
      have e1 : (ok != ok) = false := by cases ok <;> rfl
      have e2 : (z != z) = false := by simp
      rw [e1, e2, if_neg (by decide)]
      simp only [windrowlaw16_PickBest.j1]
      rw [if_neg (by decide)]
      refine outer (p := p) (z := z) hn l ha (by omega) ok l.length 3998 0 false (by omega) (by omega) (fun h => ?_) (fun h => ⟨rfl, ?_⟩)
      · rcases h2 with ⟨_, c, hc, vc, zc, uc⟩ | ⟨h', _, _⟩
        · exact ⟨c, by simpa using hc, vc, zc, uc⟩
        · rw [h'] at h; cases h
      · rcases h2 with ⟨h', _⟩ | ⟨_, _, no⟩
        · rw [h'] at h; cases h
        · exact no
theorem walk (W : World) (A : Option Addr) (c : Nat) (l : List S59) (hlc : l.length ≤ c) (hC : Kd.C k59 W A l.length l) (_hg : ∀ x ∈ l, G59 x) (n : Int) (hn : (Lit.int .u8 n).wf = true) (p : Int) (_hp : (Lit.int .i64 p).wf = true) (t : Int) (ht : (Lit.int .u8 t).wf = true) :
    Calls Try.prog 10 #[.slice A l.length c, .int .u8 n, .int .i64 p, .int .u8 t] W (Holds W) :=
  windrowlaw16_PickBest.calls 4000 _ _ _ _ _ _ true W hC hlc (law_eq l n p t (bounds_u8 hn) (bounds_u8 ht))
end Go.Proofs.Ytipbgldfomejpaa.PurePickBest
