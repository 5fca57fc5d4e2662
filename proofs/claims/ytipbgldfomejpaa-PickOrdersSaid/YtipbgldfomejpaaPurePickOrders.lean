/- What the printed functions of layer 16 come to, in the law PickOrders's names. Conditions: none beyond the statement's own. -/
import Derived.Test.YtipbgldfomejpaaPPickOrdersx
import Derived.Test.YtipbgldfomejpaaPlainPick
namespace Go.Proofs.Ytipbgldfomejpaa.PurePickOrders
open Go.RowKit Go.Proofs.Ytipbgldfomejpaa.PPickOrders Go.Proofs.YtipbgldfomejpaaW.PrintWords Go.Proofs.YtipbgldfomejpaaW.PrintLast Go.Proofs.YtipbgldfomejpaaW.PrintMore Go.Proofs.Ytipbgldfomejpaa.PlainPick

def bs (s p : Int) (c d : S59) : Bool := PlainPick.bt s p c.f0 c.f1 c.f2 d.f0 d.f1 d.f2
def V (s : Int) (c : S59) : Prop := 0 ≤ c.f1 ∧ c.f1 < s
def Ag (c : S59) : Prop := 0 ≤ c.f2 ∧ c.f2 ≤ 1099511627776
instance (s : Int) (c : S59) : Decidable (V s c) := inferInstanceAs (Decidable (_ ∧ _))
instance (c : S59) : Decidable (Ag c) := inferInstanceAs (Decidable (_ ∧ _))
theorem bs_self (s p : Int) (c : S59) : bs s p c c = false := bt_self _ _ _ _ _
theorem bs_trans {s p : Int} (hs : s ≤ 256) {c d e : S59} (hc : V s c) (hd : V s d) (he : V s e) (h : bs s p c d = true) (k : bs s p d e = true) : bs s p c e = true :=
  bt_trans (den_bound hs hd).1 (den_bound hs hc).1 (den_bound hs he).1 h k
theorem bs_over {s p : Int} (hs : s ≤ 256) {c d e : S59} (hc : V s c) (hd : V s d) (he : V s e) (h : bs s p d e = true) (k : bs s p c e = false) : bs s p c d = false :=
  bt_over (den_bound hs hd).1 (den_bound hs hc).1 (den_bound hs he).1 h k

theorem worth_eq {s z l a : Int} (hs : s ≤ 256) (hl : 0 ≤ l ∧ l < s) (ha : 0 ≤ a ∧ a ≤ 1099511627776) : pick_worth.f z l a s = some (num s 1 l a, den s 1 l) := by
  have h1 := num_bound (p := 1) hs hl ha
  unfold num at h1
  rw [if_pos rfl] at h1
  unfold pick_worth.f num den
  rw [if_pos rfl, if_pos rfl, IntWalk.wrap64_in (s - l) (by omega), IntWalk.wrap64_in (s + l) (by omega), IntWalk.u64_in (s - l) (by omega), IntWalk.u64_in a (by omega), IntWalk.u64_in (a + 1) (by omega), IntWalk.u64_in _ (by omega), IntWalk.u64_in _ (by omega)]
theorem better_eq {s p : Int} (hs : s ≤ 256) {c d : S59} (hc : V s c) (hd : V s d) (ac : Ag c) (ad : Ag d) : pick_Better.f c.f0 c.f1 c.f2 d.f0 d.f1 d.f2 s p = some (bs s p c d) := by
  unfold pick_Better.f pick_compare.f bs PlainPick.bt
  by_cases hp : p = 1
  · subst hp
    have h1 := nd_bound (p := 1) hs hc ac hd
    have h2 := nd_bound (p := 1) hs hd ad hc
    rw [if_pos rfl, worth_eq hs hc ac, worth_eq hs hd ad]
    simp only [Option.bind_some]
    rw [IntWalk.u64_in _ (by omega), IntWalk.u64_in _ (by omega)]
    generalize num s 1 c.f1 c.f2 * den s 1 d.f1 = x at *
    generalize num s 1 d.f1 d.f2 * den s 1 c.f1 = y at *
    by_cases g : x > y
    · rw [if_pos g]; simp only [Option.bind_some]; rw [if_neg (by decide)]; congr 1; rw [Bool.eq_iff_iff]; simp only [decide_eq_true_eq]; omega
    · rw [if_neg g]
      by_cases g2 : x < y
      · rw [if_pos g2]; simp only [Option.bind_some]; rw [if_neg (by decide)]; congr 1; rw [Bool.eq_iff_iff]; simp only [decide_eq_true_eq]; omega
      · rw [if_neg g2]; simp only [Option.bind_some]; rw [if_pos trivial]; congr 1; rw [Bool.eq_iff_iff, decide_eq_true_eq, decide_eq_true_eq]; omega
  · rw [if_neg hp]
    unfold num den
    simp only [if_neg hp]
    unfold V at hc hd
    by_cases g : c.f1 < d.f1
    · rw [if_pos g]; simp only [Option.bind_some]; rw [if_neg (by decide)]; congr 1; rw [Bool.eq_iff_iff]; simp only [decide_eq_true_eq]; omega
    · rw [if_neg g]
      by_cases g2 : c.f1 > d.f1
      · rw [if_pos g2]; simp only [Option.bind_some]; rw [if_neg (by decide)]; congr 1; rw [Bool.eq_iff_iff]; simp only [decide_eq_true_eq]; omega
      · rw [if_neg g2]; simp only [Option.bind_some]; rw [if_pos trivial]; congr 1; rw [Bool.eq_iff_iff, decide_eq_true_eq, decide_eq_true_eq]; omega
theorem size_eq {n : Int} (h : 0 ≤ n ∧ n ≤ 255) : windrowlaw16_size.f n = some (1 + n) := by
  unfold windrowlaw16_size.f; rw [IntWalk.wrap64_in n (by omega), IntWalk.wrap64_in _ (by omega)]

/-- What a choice is. -/
def IsB (s p : Int) (l : List S59) (z : Int) (ok : Bool) : Prop := (ok = true ∧ ∃ c ∈ l, V s c ∧ c.f0 = z ∧ ∀ d ∈ l, V s d → bs s p d c = false) ∨ (ok = false ∧ z = 0 ∧ ∀ d ∈ l, ¬ V s d)
theorem IsB.one {s p : Int} {l m : List S59} (h : ∀ c, c ∈ l ↔ c ∈ m) {z z' : Int} {ok ok' : Bool} (g : IsB s p l z ok) (k : IsB s p m z' ok') : z = z' ∧ ok = ok' := by
  rcases g with ⟨rfl, c, hc, vc, rfl, uc⟩ | ⟨rfl, rfl, no⟩
  · rcases k with ⟨rfl, d, hd, vd, rfl, ud⟩ | ⟨rfl, rfl, no⟩
    · exact ⟨bt_tie (ud c ((h c).1 hc) vc) (uc d ((h d).2 hd) vd), rfl⟩
    · exact absurd vc (no c ((h c).1 hc))
  · rcases k with ⟨rfl, d, hd, vd, rfl, ud⟩ | ⟨rfl, rfl, no'⟩
    · exact absurd vd (no d ((h d).2 hd))
    · exact ⟨rfl, rfl⟩
theorem mem_take_succ (l : List S59) (i : Nat) (h : i < l.length) (c : S59) : c ∈ l.take (i + 1) ↔ c ∈ l.take i ∨ c = rd_T59 l (i : Int) := by
  rw [List.take_add_one, List.getElem?_eq_getElem h]
  unfold rd_T59
  rw [Int.toNat_natCast, List.getD_eq_getElem?_getD, List.getElem?_eq_getElem h, List.mem_append]
  simp only [Option.toList, List.mem_singleton, Option.getD_some]
theorem rd_mem (l : List S59) (i : Nat) (h : i < l.length) : rd_T59 l (i : Int) ∈ l := by
  unfold rd_T59
  rw [Int.toNat_natCast, List.getD_eq_getElem?_getD, List.getElem?_eq_getElem h]
  exact List.getElem_mem h
theorem best_l {s p : Int} (hs : s ≤ 256) (l : List S59) (ha : ∀ c ∈ l, Ag c) (hl : l.length ≤ 1000000) (d : Nat) : ∀ (k i : Nat) (f : Bool) (b : S59), i + d = l.length → 2 * d < k →
    (f = false → ∀ c ∈ l.take i, ¬ V s c) → (f = true → b ∈ l ∧ V s b ∧ ∀ c ∈ l.take i, V s c → bs s p c b = false) →
    ∃ z ok, pick_Best.l0 k s p f l (l.length : Int) (i : Int) b.f0 b.f1 b.f2 = some (z, ok) ∧ IsB s p l z ok := by
  induction d with
  | zero =>
    intro k i f b hi hk h0 h1
    obtain ⟨k, rfl⟩ : ∃ m, k = m + 1 := ⟨k - 1, by omega⟩
    rw [List.take_of_length_le (by omega)] at h0 h1
    simp only [pick_Best.l0]
    rw [if_neg (by omega)]
    cases f
    · rw [if_neg (by decide)]
      exact ⟨0, false, rfl, Or.inr ⟨rfl, rfl, h0 rfl⟩⟩
    · rw [if_pos rfl]
      obtain ⟨hb, hv, hu⟩ := h1 rfl
      exact ⟨b.f0, true, rfl, Or.inl ⟨rfl, b, hb, hv, rfl, hu⟩⟩
  | succ d ih =>
    intro k i f b hi hk h0 h1
    obtain ⟨k, rfl⟩ : ∃ m, k = m + 2 := ⟨k - 2, by omega⟩
    have hil : i < l.length := by omega
    have hm := rd_mem l i hil
    have ht := mem_take_succ l i hil
    have e3 : wrap64 ((i : Int) + 1) = ((i + 1 : Nat) : Int) := by rw [IntWalk.wrap64_in _ (by omega)]; omega
    generalize hc : rd_T59 l (i : Int) = c at *
    have hac := ha c hm
    simp only [pick_Best.l0]
    rw [if_pos (by omega), if_pos (by omega), if_pos (by omega), hc]
    by_cases hv : V s c
    · have hv' := hv
      unfold V at hv'
      rw [if_neg (by omega), decide_eq_false (by omega)]
      simp only [pick_Best.j1]
      rw [if_neg (by decide), e3]
      cases f
      · rw [if_neg (by decide)]
        refine ih k (i + 1) true c (by omega) (by omega) (fun h => by cases h) (fun _ => ⟨hm, hv, fun e he ve => ?_⟩)
        rcases (ht e).1 he with h | h
        · exact absurd ve (h0 rfl e h)
        · rw [h]; exact bs_self _ _ _
      · rw [if_pos rfl]
        obtain ⟨hb, hvb, hu⟩ := h1 rfl
        rw [better_eq hs hv hvb hac (ha b hb)]
        simp only [Option.bind_some]
        cases hcb : bs s p c b
        · rw [if_neg (by decide)]
          refine ih k (i + 1) true b (by omega) (by omega) (fun h => by cases h) (fun _ => ⟨hb, hvb, fun e he ve => ?_⟩)
          rcases (ht e).1 he with h | h
          · exact hu e h ve
          · rw [h]; exact hcb
        · rw [if_pos rfl]
          refine ih k (i + 1) true c (by omega) (by omega) (fun h => by cases h) (fun _ => ⟨hm, hv, fun e he ve => ?_⟩)
          rcases (ht e).1 he with h | h
          · exact bs_over hs ve hv hvb hcb (hu e h ve)
          · rw [h]; exact bs_self _ _ _
    · have e : (if c.f1 < 0 then pick_Best.j1 (k + 1) s p f l (l.length : Int) (i : Int) true b.f0 b.f1 b.f2 c.f0 c.f1 c.f2 else pick_Best.j1 (k + 1) s p f l (l.length : Int) (i : Int) (decide (c.f1 ≥ s)) b.f0 b.f1 b.f2 c.f0 c.f1 c.f2) = pick_Best.j1 (k + 1) s p f l (l.length : Int) (i : Int) true b.f0 b.f1 b.f2 c.f0 c.f1 c.f2 := by
        unfold V at hv
        split
        · rfl
        · rw [decide_eq_true (by omega)]
      rw [e]
      simp only [pick_Best.j1]
      rw [if_pos trivial, e3]
      refine ih k (i + 1) f b (by omega) (by omega) (fun h x hx => ?_) (fun h => ?_)
      · rcases (ht x).1 hx with g | g
        · exact h0 h x g
        · rw [g]; exact hv
      · obtain ⟨hb, hvb, hu⟩ := h1 h
        refine ⟨hb, hvb, fun x hx vx => ?_⟩
        rcases (ht x).1 hx with g | g
        · exact hu x g vx
        · rw [g] at vx; exact absurd vx hv
/-- A choice is one. -/
theorem best_eq {s p : Int} (hs : s ≤ 256) (l : List S59) (ha : ∀ c ∈ l, Ag c) (hl : l.length ≤ 1000000) (k : Nat) (hk : 2 * l.length < k) : ∃ z ok, pick_Best.f k l s p = some (z, ok) ∧ IsB s p l z ok :=
  best_l hs l ha hl l.length k 0 false z59 (by omega) hk (fun _ c hc => by simp at hc) (fun h => by cases h)
theorem awake_eq (k : Nat) (h : 20 ≤ k) : windrowlaw16_awake.f k = some true := by
  obtain ⟨j, rfl⟩ : ∃ j, k = 20 + j := ⟨k - 20, by omega⟩
  clear h
  induction j with
  | zero => decide +kernel
  | succ j ih => exact windrowlaw16_awake.mono _ _ ih
end Go.Proofs.Ytipbgldfomejpaa.PurePickOrders
