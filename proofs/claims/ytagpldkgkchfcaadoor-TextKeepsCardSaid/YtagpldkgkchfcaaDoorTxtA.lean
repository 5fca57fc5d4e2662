/- Layer 25: plain laws of numbers, words, lines and texts. -/
import Derived.Lib.Split
import Derived.Lib.SplitLaws
import Derived.Lib.CutLaws
import Derived.Lib.ItoaMem
import Derived.Lib.ParseIntB
import Derived.Lib.Bytealg
import Derived.Lib.Join
import Derived.Lib.Strings
namespace Go.Proofs.YtagpldkgkchfcaaDoor.Txt
section
set_option linter.unusedSimpArgs false
set_option linter.unusedVariables false
open Go

abbrev Bs := List UInt8
structure Op where
  kind : Int
  id : Int
  blk : Int
  data : List Int
  sync : Bool
  policy : Int
  deriving DecidableEq
structure Step where
  op : Op
  arm : Int
  crash : Bool
  keep : List Int
  soft : Int
  tear : Int
  deriving DecidableEq
def zeros (n : Nat) : List Int := List.replicate n 0
def op0 : Op := ⟨0, 0, 0, zeros 32, false, 0⟩
def step0 : Step := ⟨op0, 0, false, [], 0, 0⟩
/-- What an operation of memory is like. -/
def okOp (o : Op) : Prop := o.data.length = 32 ∧ ∀ x ∈ o.data, 0 ≤ x ∧ x ≤ 255

/-! ### a text in pieces -/
def split1 (c : UInt8) : Bs → List Bs
  | [] => [[]]
  | b :: l => if b = c then [] :: split1 c l else match split1 c l with
    | [] => [[b]]
    | x :: r => (b :: x) :: r
theorem split1_ne (c : UInt8) (s : Bs) : split1 c s ≠ [] := by
  cases s with
  | nil => simp [split1]
  | cons b l =>
    unfold split1
    split
    · simp
    · split <;> simp
theorem split1_miss (c : UInt8) : ∀ s : Bs, c ∉ s → split1 c s = [s]
  | [], _ => rfl
  | b :: l, h => by
    have h1 : b ≠ c := fun e => h (by rw [e]; exact List.mem_cons_self ..)
    unfold split1
    rw [if_neg h1, split1_miss c l (fun e => h (List.mem_cons_of_mem _ e))]
theorem split1_hit (c : UInt8) : ∀ (x s : Bs), c ∉ x → split1 c (x ++ c :: s) = x :: split1 c s
  | [], s, _ => by simp [split1]
  | b :: l, s, h => by
    have h1 : b ≠ c := fun e => h (by rw [e]; exact List.mem_cons_self ..)
    show split1 c (b :: (l ++ c :: s)) = _
    rw [split1, if_neg h1, split1_hit c l s (fun e => h (List.mem_cons_of_mem _ e))]
theorem split1_pieces (c : UInt8) : ∀ (s : Bs), ∀ x ∈ split1 c s, c ∉ x
  | [], x, h => by simp [split1] at h; subst h; simp
  | b :: l, x, h => by
    unfold split1 at h
    split at h
    · rcases List.mem_cons.1 h with rfl | h
      · simp
      · exact split1_pieces c l x h
    · rename_i hb
      split at h
      · rename_i e; exact absurd e (split1_ne c l)
      · rename_i y r e
        rcases List.mem_cons.1 h with rfl | h
        · intro hm
          rcases List.mem_cons.1 hm with e' | hm
          · exact hb e'.symm
          · exact split1_pieces c l y (by rw [e]; exact List.mem_cons_self ..) hm
        · exact split1_pieces c l x (by rw [e]; exact List.mem_cons_of_mem _ h)
theorem joinTail_cons (c : UInt8) (x : Bs) (r : List Bs) : Lib.joinTail [c] (x :: r) = c :: (x ++ Lib.joinTail [c] r) := by
  simp [Lib.joinTail]
theorem join_split1 (c : UInt8) : ∀ s : Bs, Lib.join (split1 c s) [c] = s
  | [] => by simp [split1, Lib.join_one]
  | b :: l => by
    have ih := join_split1 c l
    unfold split1
    split
    · rename_i hb
      subst hb
      cases h : split1 b l with
      | nil => exact absurd h (split1_ne b l)
      | cons x r =>
        rw [h, Lib.join_cons] at ih
        rw [Lib.join_cons, joinTail_cons, ih]; rfl
    · cases h : split1 c l with
      | nil => exact absurd h (split1_ne c l)
      | cons x r =>
        rw [h, Lib.join_cons] at ih
        rw [Lib.join_cons]
        show b :: (x ++ _) = _
        rw [ih]
theorem split1_join (c : UInt8) : ∀ (xs : List Bs), xs ≠ [] → (∀ x ∈ xs, c ∉ x) → split1 c (Lib.join xs [c]) = xs
  | [], h, _ => absurd rfl h
  | [x], _, h => by rw [Lib.join_one, split1_miss c x (h x (by simp))]
  | x :: y :: r, _, h => by
    rw [Lib.join_cons, joinTail_cons, split1_hit c x _ (h x (by simp)), ← Lib.join_cons, split1_join c (y :: r) (by simp) (fun z hz => h z (List.mem_cons_of_mem _ hz))]
theorem index_hit1 (c : UInt8) (l : Bs) : Lib.index (c :: l) [c] = 0 := by rw [Lib.index]; simp [List.isPrefixOf]
theorem index_miss1 {b c : UInt8} (h : b ≠ c) (l : Bs) : Lib.index (b :: l) [c] = if Lib.index l [c] == -1 then -1 else Lib.index l [c] + 1 := by
  have hp : ([c] : Bs).isPrefixOf (b :: l) = false := by simp [List.isPrefixOf, Ne.symm h]
  rw [Lib.index, hp]; simp
theorem index_none1 (c : UInt8) : ∀ s : Bs, c ∉ s → Lib.index s [c] = -1
  | [], _ => by simp [Lib.index]
  | b :: l, h => by
    have h1 : b ≠ c := fun e => h (by rw [e]; exact List.mem_cons_self ..)
    rw [index_miss1 h1, index_none1 c l (fun e => h (List.mem_cons_of_mem _ e))]; rfl
theorem index_some1 (c : UInt8) : ∀ (x s : Bs), c ∉ x → Lib.index (x ++ c :: s) [c] = x.length
  | [], s, _ => index_hit1 c s
  | b :: l, s, h => by
    have h1 : b ≠ c := fun e => h (by rw [e]; exact List.mem_cons_self ..)
    show Lib.index (b :: (l ++ c :: s)) [c] = _
    rw [index_miss1 h1, index_some1 c l s (fun e => h (List.mem_cons_of_mem _ e)), if_neg (by rw [beq_iff_eq]; omega)]
    simp
theorem cut_none1 (c : UInt8) (s : Bs) (h : c ∉ s) : Lib.cut s [c] = (s, [], false) := by
  unfold Lib.cut; rw [index_none1 c s h, if_neg (by omega)]
theorem cut_some1 (c : UInt8) (x s : Bs) (h : c ∉ x) : Lib.cut (x ++ c :: s) [c] = (x, s, true) := by
  unfold Lib.cut
  rw [index_some1 c x s h, if_pos (by omega)]
  simp
theorem mem_cases (c : UInt8) : ∀ s : Bs, c ∉ s ∨ ∃ x r, s = x ++ c :: r ∧ c ∉ x
  | [] => .inl (by simp)
  | b :: l => by
    by_cases h : b = c
    · exact .inr ⟨[], l, by rw [h]; rfl, by simp⟩
    · rcases mem_cases c l with h1 | ⟨x, r, rfl, h1⟩
      · exact .inl (fun e => by rcases List.mem_cons.1 e with e | e; exact h e.symm; exact h1 e)
      · exact .inr ⟨b :: x, r, rfl, fun e => by rcases List.mem_cons.1 e with e | e; exact h e.symm; exact h1 e⟩
theorem splitK_split1 (c : UInt8) : ∀ (n : Nat) (s : Bs), s.length ≤ n → Lib.splitK [c] 0 (Lib.count s [c]) s = split1 c s := by
  intro n
  induction n with
  | zero =>
    intro s hs
    obtain rfl : s = [] := List.length_eq_zero_iff.1 (by omega)
    rw [Lib.count_one]; rfl
  | succ n ih =>
    intro s hs
    rcases mem_cases c s with h | ⟨x, r, rfl, h⟩
    · rw [Lib.count_one, List.count_eq_zero_of_not_mem h, split1_miss c s h]; rfl
    · have h1 : Lib.count (x ++ c :: r) [c] = Lib.count r [c] + 1 := by
        rw [Lib.count_one, Lib.count_one, List.count_append, List.count_eq_zero_of_not_mem h, List.count_cons_self]; omega
      rw [h1, split1_hit c x r h]
      unfold Lib.splitK
      rw [index_some1 c x r h, if_neg (by rw [beq_iff_eq]; omega)]
      have e1 : (x ++ c :: r).take ((x.length : Int).toNat + 0) = x := by simp
      have e2 : (x ++ c :: r).drop ((x.length : Int).toNat + [c].length) = r := by simp
      rw [e1, e2, ih r (by simp at hs; omega)]
theorem split_eq (c : UInt8) (s : Bs) : Lib.split s [c] = split1 c s := splitK_split1 c s.length s (Nat.le_refl _)

/-! ### numbers -/
abbrev dec (n : Nat) : Bs := Lib.decDigits n
theorem dec_digit (n : Nat) (h : n < 10) : (UInt8.ofNat (48 + n)).toNat = 48 + n := by simp; omega
theorem dec_small (n : Nat) (h : n < 10) : dec n = [UInt8.ofNat (48 + n)] := by unfold dec; rw [Lib.decDigits, dif_pos h]
theorem dec_big (n : Nat) (h : ¬ n < 10) : dec n = dec (n / 10) ++ [UInt8.ofNat (48 + n % 10)] := by
  show Lib.decDigits n = _
  rw [Lib.decDigits, dif_neg h]
theorem dec_digits : ∀ (n : Nat), ∀ b ∈ dec n, 48 ≤ b.toNat ∧ b.toNat ≤ 57 := by
  intro n
  induction n using Nat.strongRecOn with
  | ind n ih =>
    intro b hb
    by_cases h : n < 10
    · rw [dec_small n h] at hb
      obtain rfl := List.mem_singleton.1 hb
      rw [dec_digit n h]; omega
    · rw [dec_big n h] at hb
      rcases List.mem_append.1 hb with hb | hb
      · exact ih (n / 10) (by omega) b hb
      · obtain rfl := List.mem_singleton.1 hb
        rw [dec_digit _ (by omega)]; omega
theorem dec_ne (n : Nat) : dec n ≠ [] := by
  by_cases h : n < 10
  · rw [dec_small n h]; simp
  · rw [dec_big n h]; simp
theorem dec_clean (n : Nat) (c : UInt8) (hc : c.toNat < 48) : c ∉ dec n := fun h => by
  have := dec_digits n c h; omega
/-- Digits behind a number: read on. -/
theorem parseUint10_dec : ∀ (n : Nat) (l : Bs), n < 18446744073709551616 → Lib.parseUint10 0 (dec n ++ l) = Lib.parseUint10 n l := by
  intro n
  induction n using Nat.strongRecOn with
  | ind n ih =>
    intro l hn
    by_cases h : n < 10
    · rw [dec_small n h]
      show Lib.parseUint10 0 (UInt8.ofNat (48 + n) :: l) = _
      rw [Lib.parseUint10, dec_digit n h, if_pos (by omega), if_neg (by omega), if_neg (by omega)]
      congr 1; omega
    · rw [dec_big n h, List.append_assoc, ih (n / 10) (by omega) _ (by omega)]
      show Lib.parseUint10 (n / 10) (UInt8.ofNat (48 + n % 10) :: l) = _
      rw [Lib.parseUint10, dec_digit _ (by omega), if_pos (by omega), if_neg (by omega), if_neg (by omega)]
      congr 1; omega
theorem parseUintM_dec (M : Nat) : ∀ (n : Nat) (l : Bs), n ≤ M → n < 18446744073709551616 → Lib.parseUintM M 0 (dec n ++ l) = Lib.parseUintM M n l := by
  intro n
  induction n using Nat.strongRecOn with
  | ind n ih =>
    intro l hm hn
    by_cases h : n < 10
    · rw [dec_small n h]
      show Lib.parseUintM M 0 (UInt8.ofNat (48 + n) :: l) = _
      rw [Lib.parseUintM, dec_digit n h, if_pos (by omega), if_neg (by omega), if_neg (by omega)]
      congr 1; omega
    · rw [dec_big n h, List.append_assoc, ih (n / 10) (by omega) _ (by omega) (by omega)]
      show Lib.parseUintM M (n / 10) (UInt8.ofNat (48 + n % 10) :: l) = _
      rw [Lib.parseUintM, dec_digit _ (by omega), if_pos (by omega), if_neg (by omega), if_neg (by omega)]
      congr 1; omega
theorem atoi_dec (n : Nat) (h : n < 9223372036854775808) : Lib.atoiAll (dec n) = .ok (n : Int) := by
  cases e : dec n with
  | nil => exact absurd e (dec_ne n)
  | cons c r =>
    have hc := dec_digits n c (by rw [e]; exact List.mem_cons_self ..)
    have hp : Lib.parseMag (c :: r) = .ok n := by
      unfold Lib.parseMag
      rw [if_neg (by simp), ← e]
      have := parseUint10_dec n [] (by omega)
      rw [List.append_nil] at this
      rw [this]; rfl
    unfold Lib.atoiAll
    simp only [if_neg (show ¬ (c.toNat = 43 ∨ c.toNat = 45) from by omega), hp]
    rw [if_neg (by omega), if_neg (by omega), if_neg (by omega)]
theorem parseUintB_dec (n : Nat) (h : n < 18446744073709551616) : Lib.parseUintB 64 (dec n) = .ok n := by
  unfold Lib.parseUintB
  rw [if_neg (dec_ne n)]
  have := parseUintM_dec (2 ^ 64 - 1) n [] (by omega) h
  rw [List.append_nil] at this
  rw [this]; rfl
def numOf (s : Bs) : Option Nat :=
  match Lib.atoiAll s with
  | .ok v => if 0 ≤ v ∧ v ≤ 999999 ∧ Lib.itoa v = s then some v.toNat else none
  | _ => none
theorem numOf_iff (s : Bs) (n : Nat) : numOf s = some n ↔ n ≤ 999999 ∧ s = dec n := by
  unfold numOf
  constructor
  · intro h
    split at h
    · rename_i v hv
      split at h
      · rename_i hc
        obtain ⟨h0, h1, h2⟩ := hc
        obtain ⟨m, rfl⟩ := Int.eq_ofNat_of_zero_le h0
        obtain rfl := Option.some.inj h
        rw [Lib.itoa_nonneg] at h2
        exact ⟨by simp; omega, by simp [h2]⟩
      · cases h
    · cases h
  · rintro ⟨h1, rfl⟩
    rw [atoi_dec n (by omega)]
    simp only
    rw [if_pos ⟨by omega, by omega, Lib.itoa_nonneg n⟩]
    simp
def softOf (s : Bs) : Option Nat :=
  match Lib.parseUintB 64 s with
  | .ok u => if dec u = s then some u else none
  | _ => none
theorem parseUintM_le (M : Nat) : ∀ (l : Bs) (acc u : Nat), acc ≤ M → Lib.parseUintM M acc l = .ok u → u ≤ M
  | [], acc, u, ha, h => by
    simp only [Lib.parseUintM] at h
    injection h with h
    omega
  | c :: r, acc, u, ha, h => by
    simp only [Lib.parseUintM] at h
    split at h
    · split at h
      · cases h
      · split at h
        · cases h
        · exact parseUintM_le M r _ u (by omega) h
    · cases h
theorem softOf_iff (s : Bs) (n : Nat) : softOf s = some n ↔ n < 18446744073709551616 ∧ s = dec n := by
  unfold softOf
  constructor
  · intro h
    split at h
    · rename_i v hv
      split at h
      · rename_i hc
        obtain rfl := Option.some.inj h
        refine ⟨?_, hc.symm⟩
        unfold Lib.parseUintB at hv
        split at hv
        · cases hv
        · have := parseUintM_le _ s 0 v (by omega) hv
          omega
      · cases h
    · cases h
  · rintro ⟨h1, rfl⟩
    rw [parseUintB_dec n h1]
    simp

/-! ### data -/
def digits : Bs := [48, 49, 50, 51, 52, 53, 54, 55, 56, 57, 97, 98, 99, 100, 101, 102]
def hx (n : Int) : UInt8 := digits.getD n.toNat 0
def hv (c : UInt8) : Option Int := if Lib.indexByte digits c < 0 then none else some (Lib.indexByte digits c)
theorem hv_all : ∀ i : Fin 256, ∀ n : Int, hv (UInt8.ofNat i.val) = some n → 0 ≤ n ∧ n ≤ 15 ∧ hx n = UInt8.ofNat i.val := by
  intro i n
  have h : ∀ i : Fin 256, (match hv (UInt8.ofNat i.val) with | none => true | some n => decide (0 ≤ n) && decide (n ≤ 15) && (hx n == UInt8.ofNat i.val)) = true := by decide +kernel
  intro hn
  have := h i
  rw [hn] at this
  simp only [Bool.and_eq_true, decide_eq_true_eq, beq_iff_eq] at this
  exact ⟨this.1.1, this.1.2, this.2⟩
theorem hv_some {c : UInt8} {n : Int} (h : hv c = some n) : 0 ≤ n ∧ n ≤ 15 ∧ hx n = c := by
  have := hv_all ⟨c.toNat, UInt8.toNat_lt c⟩ n (by simpa using h)
  simpa using this
theorem hx_all : ∀ i : Fin 16, hv (hx (i.val : Int)) = some (i.val : Int) := by decide +kernel
theorem hv_hx (n : Int) (h0 : 0 ≤ n) (h1 : n ≤ 15) : hv (hx n) = some n := by
  have := hx_all ⟨n.toNat, by omega⟩
  rwa [show ((n.toNat : Nat) : Int) = n from by omega] at this
def hex1 (x : Int) : Bs := [hx (x / 16), hx (x % 16)]
def hexD (d : List Int) : Bs := d.flatMap hex1
def unhex : Bs → Option (List Int)
  | [] => some []
  | [_] => none
  | a :: b :: r => match hv a, hv b, unhex r with
    | some x, some y, some l => some ((16 * x + y) :: l)
    | _, _, _ => none
theorem unhex_hexD : ∀ d : List Int, (∀ x ∈ d, 0 ≤ x ∧ x ≤ 255) → unhex (hexD d) = some d
  | [], _ => rfl
  | x :: d, h => by
    have hx := h x (List.mem_cons_self ..)
    show unhex (Txt.hx (x / 16) :: Txt.hx (x % 16) :: hexD d) = _
    unfold unhex
    rw [hv_hx _ (by omega) (by omega), hv_hx _ (by omega) (by omega), unhex_hexD d (fun y hy => h y (List.mem_cons_of_mem _ hy))]
    simp only
    congr 2; omega
theorem hexD_unhex : ∀ (n : Nat) (s : Bs) (d : List Int), s.length ≤ n → unhex s = some d → s = hexD d ∧ ∀ x ∈ d, 0 ≤ x ∧ x ≤ 255 := by
  intro n
  induction n with
  | zero =>
    intro s d hs h
    obtain rfl : s = [] := List.length_eq_zero_iff.1 (by omega)
    obtain rfl := Option.some.inj h
    exact ⟨rfl, fun _ h => by cases h⟩
  | succ n ih =>
    intro s d hs h
    match s, hs, h with
    | [], _, h =>
      obtain rfl := Option.some.inj h
      exact ⟨rfl, fun _ h => by cases h⟩
    | [_], _, h => cases h
    | a :: b :: r, hs, h =>
      unfold unhex at h
      split at h
      · rename_i x y l e1 e2 e3
        obtain rfl := Option.some.inj h
        obtain ⟨g1, g2, g3⟩ := hv_some e1
        obtain ⟨g4, g5, g6⟩ := hv_some e2
        obtain ⟨e4, e5⟩ := ih r l (by simp at hs; omega) e3
        refine ⟨?_, fun z hz => ?_⟩
        · show _ = hx ((16 * x + y) / 16) :: hx ((16 * x + y) % 16) :: hexD l
          rw [show (16 * x + y) / 16 = x from by omega, show (16 * x + y) % 16 = y from by omega, g3, g6, ← e4]
        · rcases List.mem_cons.1 hz with rfl | hz
          · omega
          · exact e5 z hz
      · cases h
def dataOf (s : Bs) : Option (List Int) := if s.length = 64 then unhex s else none
theorem hexD_length : ∀ d : List Int, (hexD d).length = 2 * d.length
  | [] => rfl
  | x :: d => by
    show (hx _ :: hx _ :: hexD d).length = _
    simp [hexD_length d]; omega
theorem dataOf_iff (s : Bs) (d : List Int) : dataOf s = some d ↔ d.length = 32 ∧ (∀ x ∈ d, 0 ≤ x ∧ x ≤ 255) ∧ s = hexD d := by
  unfold dataOf
  constructor
  · intro h
    split at h
    · rename_i hl
      obtain ⟨h1, h2⟩ := hexD_unhex _ s d (Nat.le_refl _) h
      refine ⟨?_, h2, h1⟩
      have := hexD_length d
      rw [← h1] at this
      omega
    · cases h
  · rintro ⟨h1, h2, rfl⟩
    rw [if_pos (by rw [hexD_length]; omega), unhex_hexD d h2]
theorem hx_clean (n : Int) (h0 : 0 ≤ n) (h1 : n ≤ 15) : 48 ≤ (hx n).toNat := by
  have h : ∀ i : Fin 16, 48 ≤ (hx (i.val : Int)).toNat := by decide +kernel
  have := h ⟨n.toNat, by omega⟩
  rwa [show ((n.toNat : Nat) : Int) = n from by omega] at this
theorem hexD_clean : ∀ (d : List Int), (∀ x ∈ d, 0 ≤ x ∧ x ≤ 255) → ∀ b ∈ hexD d, 48 ≤ b.toNat
  | [], _, b, h => by cases h
  | x :: d, hd, b, h => by
    have hx := hd x (List.mem_cons_self ..)
    rcases List.mem_cons.1 (show b ∈ Txt.hx (x / 16) :: Txt.hx (x % 16) :: hexD d from h) with rfl | h
    · exact hx_clean _ (by omega) (by omega)
    · rcases List.mem_cons.1 h with rfl | h
      · exact hx_clean _ (by omega) (by omega)
      · exact hexD_clean d (fun y hy => hd y (List.mem_cons_of_mem _ hy)) b h
end
section
set_option linter.unusedSimpArgs false
set_option linter.unusedVariables false
open Go

/-! ### the words -/
structure Word where
  name : Bs
  kind : Int
  sync : Bool
  tells : Bs
  deriving DecidableEq
def wordList : List Word := [
  ⟨[102, 111, 114, 109, 97, 116], 1, false, []⟩, ⟨[109, 111, 117, 110, 116], 2, false, []⟩, ⟨[98, 101, 103, 105, 110], 3, false, []⟩, ⟨[102, 108, 117, 115, 104], 9, false, []⟩,
  ⟨[99, 104, 101, 99, 107, 112, 111, 105, 110, 116], 10, false, []⟩, ⟨[115, 116, 97, 116], 12, false, []⟩, ⟨[114, 101, 97, 100], 4, false, [105, 98]⟩, ⟨[119, 114, 105, 116, 101], 5, false, [105, 98, 100]⟩,
  ⟨[116, 114, 105, 109], 6, false, [105, 98]⟩, ⟨[99, 111, 109, 109, 105, 116], 7, false, [105]⟩, ⟨[115, 121, 110, 99], 7, true, [105]⟩, ⟨[97, 98, 111, 114, 116], 8, false, [105]⟩,
  ⟨[99, 108, 101, 97, 110], 11, false, [112]⟩]
def sCrash : Bs := [99, 114, 97, 115, 104]
def sArm : Bs := [97, 114, 109]
/-! ### the program's line -/
def tell (o : Op) (t : UInt8) : Bs := if t = 105 then Lib.itoa o.id else if t = 98 then Lib.itoa o.blk else if t = 112 then Lib.itoa o.policy else hexD o.data
def fieldsOf (o : Op) : List Bs := match wordList.find? (fun w => w.kind == o.kind && w.sync == o.sync) with
  | none => []
  | some w => w.name :: w.tells.map (tell o)
def parts (x : Step) : List Bs :=
  if x.crash then [sCrash, dec x.soft.toNat, Lib.itoa x.tear] ++ x.keep.map Lib.itoa
  else if 0 < x.arm then [sArm, Lib.itoa x.arm] else fieldsOf x.op
def lineOf (x : Step) : Bs := Lib.join (parts x) [32] ++ [10]
def printOf (l : List Step) : Bs := (l.map lineOf).flatten
/-! ### the document's line -/
def fits (n : Int) : Bool := decide (0 ≤ n) && decide (n ≤ 999999)
def nameOf (kind : Int) (sync : Bool) : Bs × Bs :=
  if sync then (if kind = 7 then ([115, 121, 110, 99], [105]) else ([], []))
  else if kind = 1 then ([102, 111, 114, 109, 97, 116], []) else if kind = 2 then ([109, 111, 117, 110, 116], []) else if kind = 3 then ([98, 101, 103, 105, 110], [])
  else if kind = 4 then ([114, 101, 97, 100], [105, 98]) else if kind = 5 then ([119, 114, 105, 116, 101], [105, 98, 100]) else if kind = 6 then ([116, 114, 105, 109], [105, 98])
  else if kind = 7 then ([99, 111, 109, 109, 105, 116], [105]) else if kind = 8 then ([97, 98, 111, 114, 116], [105]) else if kind = 9 then ([102, 108, 117, 115, 104], [])
  else if kind = 10 then ([99, 104, 101, 99, 107, 112, 111, 105, 110, 116], []) else if kind = 11 then ([99, 108, 101, 97, 110], [112]) else if kind = 12 then ([115, 116, 97, 116], []) else ([], [])
/-- What a line tells of an operation, number by number; o: what has been told so far. -/
def refTell (x : Op) (t : UInt8) (s : Bs) (o : Op) : Option (Bs × Op) :=
  if t = 100 then some (s ++ 32 :: hexD x.data, { o with data := x.data })
  else
    let n := if t = 112 then x.policy else if t = 98 then x.blk else if t = 105 then x.id else 0
    let o' := if t = 112 then { o with policy := x.policy } else if t = 98 then { o with blk := x.blk } else if t = 105 then { o with id := x.id } else o
    if fits n then some (s ++ 32 :: dec n.toNat, o') else none
def refTells (x : Op) : Bs → Bs → Op → Option (Bs × Op)
  | [], s, o => some (s, o)
  | t :: ts, s, o => match refTell x t s o with
    | none => none
    | some (s', o') => refTells x ts s' o'
def refKeep : List Int → Bs → Option Bs
  | [], s => some s
  | n :: r, s => if fits n then refKeep r (s ++ 32 :: dec n.toNat) else none
def refLine (x : Step) : Option Bs :=
  if x.crash then
    if x.op ≠ op0 ∨ x.arm ≠ 0 ∨ fits x.tear = false then none
    else (refKeep x.keep (sCrash ++ [32] ++ dec x.soft.toNat ++ [32] ++ dec x.tear.toNat)).map (· ++ [10])
  else if x.soft ≠ 0 ∨ x.tear ≠ 0 ∨ x.keep.length ≠ 0 then none
  else if x.arm ≠ 0 then
    if x.op ≠ op0 ∨ fits x.arm = false then none else some (sArm ++ [32] ++ dec x.arm.toNat ++ [10])
  else if (nameOf x.op.kind x.op.sync).1 = [] then none
  else match refTells x.op (nameOf x.op.kind x.op.sync).2 (nameOf x.op.kind x.op.sync).1 { op0 with kind := x.op.kind, sync := x.op.sync } with
    | none => none
    | some (s, o) => if o = x.op then some (s ++ [10]) else none
def refPrint : List Step → Option Bs
  | [] => some []
  | x :: l => match refLine x, refPrint l with
    | some s, some r => some (s ++ r)
    | _, _ => none
/-! ### what a line says -/
def setTell (o : Op) (t : UInt8) (f : Bs) : Option Op :=
  if t = 105 then (numOf f).map fun (n : Nat) => ({ o with id := (n : Int) } : Op)
  else if t = 98 then (numOf f).map fun (n : Nat) => ({ o with blk := (n : Int) } : Op)
  else if t = 112 then (numOf f).map fun (n : Nat) => ({ o with policy := (n : Int) } : Op)
  else (dataOf f).map fun d => { o with data := d }
def setTells : Bs → List Bs → Op → Option Op
  | [], [], o => some o
  | t :: ts, f :: fs, o => match setTell o t f with
    | none => none
    | some o' => setTells ts fs o'
  | _, _, _ => none
def opOf (l : List Bs) : Option Op := match wordList.find? (fun w => w.name == l.headD [] && l.length == 1 + w.tells.length) with
  | none => none
  | some w => setTells w.tells l.tail { op0 with kind := w.kind, sync := w.sync }
def keepOf : List Bs → Option (List Int)
  | [] => some []
  | f :: r => match numOf f, keepOf r with
    | some n, some l => some ((n : Int) :: l)
    | _, _ => none
def crashOf (l : List Bs) : Option Step := match l with
  | _ :: a :: b :: r => match softOf a, numOf b, keepOf r with
    | some s, some t, some k => some { step0 with crash := true, soft := (s : Int), tear := (t : Int), keep := k }
    | _, _, _ => none
  | _ => none
def stepOf (s : Bs) : Option Step :=
  let l := split1 32 s
  if l.headD [] = sCrash then crashOf l
  else if l.headD [] = sArm then (match l with
    | [_, f] => match numOf f with
      | some n => if 0 < n then some { step0 with arm := (n : Int) } else none
      | none => none
    | _ => none)
  else (opOf l).map fun o => { step0 with op := o }

/-! ### they agree -/
theorem fits_iff (n : Int) : fits n = true ↔ 0 ≤ n ∧ n ≤ 999999 := by unfold fits; simp
theorem itoa_dec {n : Int} (h : 0 ≤ n) : Lib.itoa n = dec n.toNat := by
  obtain ⟨m, rfl⟩ := Int.eq_ofNat_of_zero_le h
  rw [Lib.itoa_nonneg]; simp
theorem joinTail_append (a b : List Bs) : Lib.joinTail [32] (a ++ b) = Lib.joinTail [32] a ++ Lib.joinTail [32] b := by simp [Lib.joinTail]
theorem joinTail_one (x : Bs) : Lib.joinTail [32] [x] = 32 :: x := by simp [Lib.joinTail]
theorem joinTail_nil : Lib.joinTail [32] [] = [] := rfl
/-- A word by its kind: the program's, and the document's. -/
theorem word_find (kind : Int) (sync : Bool) : (match wordList.find? (fun w => w.kind == kind && w.sync == sync) with | none => nameOf kind sync = ([], []) | some w => nameOf kind sync = (w.name, w.tells) ∧ w ∈ wordList ∧ w.kind = kind ∧ w.sync = sync ∧ w.name ≠ []) := by
  cases hf : wordList.find? (fun w => w.kind == kind && w.sync == sync) with
  | none =>
    rw [List.find?_eq_none] at hf
    simp only [wordList, List.mem_cons, List.not_mem_nil, or_false, forall_eq_or_imp, forall_eq, Bool.and_eq_true, beq_iff_eq, not_and] at hf
    obtain ⟨h1, h2, h3, h4, h5, h6, h7, h8, h9, h10, h11, h12, h13⟩ := hf
    unfold nameOf
    cases sync
    · simp at *
      rw [if_neg (fun e => h1 e.symm), if_neg (fun e => h2 e.symm), if_neg (fun e => h3 e.symm), if_neg (fun e => h7 e.symm), if_neg (fun e => h8 e.symm), if_neg (fun e => h9 e.symm), if_neg (fun e => h10 e.symm), if_neg (fun e => h12 e.symm), if_neg (fun e => h4 e.symm), if_neg (fun e => h5 e.symm), if_neg (fun e => h13 e.symm), if_neg (fun e => h6 e.symm)]
    · simp at *
      exact fun e => h11 e.symm
  | some w =>
    have h1 := List.find?_some hf
    have h2 := List.mem_of_find?_eq_some hf
    simp at h1
    obtain ⟨rfl, rfl⟩ := h1
    refine ⟨?_, h2, rfl, rfl, ?_⟩
    · simp only [wordList, List.mem_cons, List.not_mem_nil, or_false] at h2
      rcases h2 with rfl | rfl | rfl | rfl | rfl | rfl | rfl | rfl | rfl | rfl | rfl | rfl | rfl <;> rfl
    · simp only [wordList, List.mem_cons, List.not_mem_nil, or_false] at h2
      rcases h2 with rfl | rfl | rfl | rfl | rfl | rfl | rfl | rfl | rfl | rfl | rfl | rfl | rfl <;> simp
/-- A word by its name and count. -/
theorem word_name {w : Word} (h : w ∈ wordList) (n : Nat) (hn : n = 1 + w.tells.length) : wordList.find? (fun v => v.name == w.name && n == 1 + v.tells.length) = some w := by
  subst hn
  simp only [wordList, List.mem_cons, List.not_mem_nil, or_false] at h
  rcases h with rfl | rfl | rfl | rfl | rfl | rfl | rfl | rfl | rfl | rfl | rfl | rfl | rfl <;> decide
theorem word_kind {w : Word} (h : w ∈ wordList) : wordList.find? (fun v => v.kind == w.kind && v.sync == w.sync) = some w := by
  simp only [wordList, List.mem_cons, List.not_mem_nil, or_false] at h
  rcases h with rfl | rfl | rfl | rfl | rfl | rfl | rfl | rfl | rfl | rfl | rfl | rfl | rfl <;> decide
theorem word_clean {w : Word} (h : w ∈ wordList) : (∀ b ∈ w.name, 97 ≤ b.toNat) ∧ w.name ≠ sCrash ∧ w.name ≠ sArm := by
  simp only [wordList, List.mem_cons, List.not_mem_nil, or_false] at h
  rcases h with rfl | rfl | rfl | rfl | rfl | rfl | rfl | rfl | rfl | rfl | rfl | rfl | rfl <;> decide
def tellsOk (ts : Bs) : Prop := ts = [] ∨ ts = [105] ∨ ts = [112] ∨ ts = [105, 98] ∨ ts = [105, 98, 100]
theorem word_tells {w : Word} (h : w ∈ wordList) : tellsOk w.tells := by
  unfold tellsOk
  simp only [wordList, List.mem_cons, List.not_mem_nil, or_false] at h
  rcases h with rfl | rfl | rfl | rfl | rfl | rfl | rfl | rfl | rfl | rfl | rfl | rfl | rfl <;> decide
/-! back: what a plain step's line says is the step -/
theorem setTell_of {x : Op} (hx : okOp x) {t : UInt8} {s : Bs} {o : Op} {s' : Bs} {o' : Op} (ht : t = 105 ∨ t = 98 ∨ t = 112 ∨ t = 100) (h : refTell x t s o = some (s', o')) :
    s' = s ++ 32 :: tell x t ∧ setTell o t (tell x t) = some o' ∧ (∀ b ∈ tell x t, 48 ≤ b.toNat) := by
  have key : ∀ n : Int, fits n = true → Lib.itoa n = dec n.toNat ∧ numOf (dec n.toNat) = some n.toNat ∧ ((n.toNat : Nat) : Int) = n := fun n hn => by
    obtain ⟨h0, h1⟩ := (fits_iff n).1 hn
    exact ⟨itoa_dec h0, (numOf_iff _ _).2 ⟨by omega, rfl⟩, by omega⟩
  have hd : ∀ n : Nat, ∀ b ∈ dec n, 48 ≤ b.toNat := fun n b hb => (dec_digits n b hb).1
  unfold refTell at h
  rcases ht with rfl | rfl | rfl | rfl
  · simp at h
    obtain ⟨hf, rfl, rfl⟩ := h
    obtain ⟨k1, k2, k3⟩ := key _ hf
    simp only [tell, setTell, if_pos rfl, k1, k2]
    exact ⟨rfl, by simp; exact ⟨_, k2, k3⟩, hd _⟩
  · simp at h
    obtain ⟨hf, rfl, rfl⟩ := h
    obtain ⟨k1, k2, k3⟩ := key _ hf
    have n1 : ¬ (98 : UInt8) = 105 := by decide
    simp only [tell, setTell, if_neg n1, if_pos rfl, k1, k2]
    exact ⟨rfl, by simp; exact ⟨_, k2, k3⟩, hd _⟩
  · simp at h
    obtain ⟨hf, rfl, rfl⟩ := h
    obtain ⟨k1, k2, k3⟩ := key _ hf
    have n1 : ¬ (112 : UInt8) = 105 := by decide
    have n2 : ¬ (112 : UInt8) = 98 := by decide
    simp only [tell, setTell, if_neg n1, if_neg n2, if_pos rfl, k1, k2]
    exact ⟨rfl, by simp; exact ⟨_, k2, k3⟩, hd _⟩
  · simp at h
    obtain ⟨rfl, rfl⟩ := h
    have n1 : ¬ (100 : UInt8) = 105 := by decide
    have n2 : ¬ (100 : UInt8) = 98 := by decide
    have n3 : ¬ (100 : UInt8) = 112 := by decide
    simp only [tell, setTell, if_neg n1, if_neg n2, if_neg n3]
    rw [(dataOf_iff _ x.data).2 ⟨hx.1, hx.2, rfl⟩]
    exact ⟨trivial, rfl, hexD_clean _ hx.2⟩
theorem setTells_of {x : Op} (hx : okOp x) : ∀ (ts : Bs) (s : Bs) (o : Op) (s' : Bs) (o' : Op), (∀ t ∈ ts, t = 105 ∨ t = 98 ∨ t = 112 ∨ t = 100) → refTells x ts s o = some (s', o') →
    s' = s ++ Lib.joinTail [32] (ts.map (tell x)) ∧ setTells ts (ts.map (tell x)) o = some o' ∧ (∀ f ∈ ts.map (tell x), ∀ b ∈ f, 48 ≤ b.toNat)
  | [], s, o, s', o', _, h => by
    unfold refTells at h
    simp at h
    obtain ⟨rfl, rfl⟩ := h
    exact ⟨by simp [joinTail_nil], rfl, fun f hf => by cases hf⟩
  | t :: ts, s, o, s', o', ht, h => by
    unfold refTells at h
    split at h
    · cases h
    · rename_i s1 o1 h1
      obtain ⟨rfl, h2, h3⟩ := setTell_of hx (ht t (List.mem_cons_self ..)) h1
      obtain ⟨rfl, h4, h5⟩ := setTells_of hx ts _ o1 s' o' (fun u hu => ht u (List.mem_cons_of_mem _ hu)) h
      refine ⟨?_, ?_, ?_⟩
      · rw [List.map_cons, joinTail_cons]; simp
      · rw [List.map_cons]
        unfold setTells
        rw [h2]
        exact h4
      · intro f hf
        rw [List.map_cons] at hf
        rcases List.mem_cons.1 hf with rfl | hf
        · exact h3
        · exact h5 f hf
theorem keep_of : ∀ (l : List Int) (s s' : Bs), refKeep l s = some s' → s' = s ++ Lib.joinTail [32] (l.map Lib.itoa) ∧ keepOf (l.map Lib.itoa) = some l ∧ (∀ f ∈ l.map Lib.itoa, ∀ b ∈ f, 48 ≤ b.toNat)
  | [], s, s', h => by
    unfold refKeep at h
    obtain rfl := Option.some.inj h
    exact ⟨by simp [joinTail_nil], rfl, fun f hf => by cases hf⟩
  | n :: r, s, s', h => by
    unfold refKeep at h
    split at h
    · rename_i hf
      obtain ⟨h0, h1⟩ := (fits_iff n).1 hf
      obtain ⟨rfl, h2, h3⟩ := keep_of r _ s' h
      have e := itoa_dec h0
      refine ⟨?_, ?_, ?_⟩
      · rw [List.map_cons, joinTail_cons, e]; simp
      · rw [List.map_cons]
        unfold keepOf
        rw [e, (numOf_iff _ _).2 ⟨by omega, rfl⟩, h2]
        simp only
        congr 2; omega
      · intro f hf
        rw [List.map_cons] at hf
        rcases List.mem_cons.1 hf with rfl | hf
        · rw [e]; exact fun b hb => (dec_digits _ b hb).1
        · exact h3 f hf
    · cases h
theorem clean_join {xs : List Bs} {c : UInt8} (hc : c.toNat ≠ 32) (hx : ∀ x ∈ xs, c ∉ x) : c ∉ Lib.join xs [32] := by
  cases xs with
  | nil => simp [Lib.join_nil]
  | cons x r =>
    rw [Lib.join_cons]
    intro h
    rcases List.mem_append.1 h with h | h
    · exact hx x (List.mem_cons_self ..) h
    · unfold Lib.joinTail at h
      simp only [List.mem_flatten, List.mem_map] at h
      obtain ⟨_, ⟨y, hy, rfl⟩, h⟩ := h
      rcases List.mem_append.1 h with h | h
      · obtain rfl := List.mem_singleton.1 h
        exact hc rfl
      · exact hx y (List.mem_cons_of_mem _ hy) h
theorem clean_of48 {f : Bs} {c : UInt8} (h : ∀ b ∈ f, 48 ≤ b.toNat) (hc : c.toNat < 48) : c ∉ f := fun hm => by have := h c hm; omega
theorem zero_append_self {o : Op} (k : Int) (s : Bool) (h : { op0 with kind := k, sync := s } = o) : o.kind = k ∧ o.sync = s := by subst h; exact ⟨rfl, rfl⟩
/-- BACK: a step that the document prints is printed so by the program, and what is printed says it. -/
theorem back (x : Step) (hx : okOp x.op) (hs : 0 ≤ x.soft ∧ x.soft < 18446744073709551616) {t : Bs} (h : refLine x = some t) : t = lineOf x ∧ 10 ∉ Lib.join (parts x) [32] ∧ stepOf (Lib.join (parts x) [32]) = some x := by
  unfold refLine at h
  split at h
  · rename_i hc
    split at h
    · cases h
    · rename_i hn
      have h1 : x.op = op0 := Classical.byContradiction fun e => hn (.inl e)
      have h2 : x.arm = 0 := Classical.byContradiction fun e => hn (.inr (.inl e))
      have h3 : fits x.tear = true := by cases e : fits x.tear; exact absurd (.inr (.inr e)) hn; rfl
      obtain ⟨t0, t1⟩ := (fits_iff _).1 h3
      obtain ⟨s', hk, rfl⟩ := Option.map_eq_some_iff.1 h
      obtain ⟨rfl, k2, k3⟩ := keep_of _ _ _ hk
      have e := itoa_dec t0
      have hp : parts x = sCrash :: dec x.soft.toNat :: dec x.tear.toNat :: x.keep.map Lib.itoa := by unfold parts; rw [if_pos hc, e]; rfl
      have hclean : ∀ c : UInt8, c.toNat < 48 → ∀ f ∈ parts x, c ∉ f := by
        intro c hc f hf
        rw [hp] at hf
        rcases List.mem_cons.1 hf with rfl | hf
        · exact clean_of48 (by decide) hc
        rcases List.mem_cons.1 hf with rfl | hf
        · exact dec_clean _ _ hc
        rcases List.mem_cons.1 hf with rfl | hf
        · exact dec_clean _ _ hc
        exact clean_of48 (k3 f hf) hc
      refine ⟨?_, clean_join (by decide) (hclean 10 (by decide)), ?_⟩
      · unfold lineOf
        rw [hp, Lib.join_cons, joinTail_cons, joinTail_cons]
        simp
      · unfold stepOf
        rw [split1_join 32 _ (by rw [hp]; simp) (hclean 32 (by decide)), hp]
        simp only [List.headD_cons, if_pos rfl]
        simp only [crashOf]
        rw [(softOf_iff _ _).2 ⟨by omega, rfl⟩, (numOf_iff _ _).2 ⟨by omega, rfl⟩, k2]
        simp only
        congr 1
        obtain ⟨o, a, c, k, s, te⟩ := x
        simp only at *
        subst h1 h2 hc
        simp [step0]
        omega
  · rename_i hc
    have hc' : x.crash = false := by simpa using hc
    split at h
    · cases h
    · rename_i hn
      have h1 : x.soft = 0 := Classical.byContradiction fun e => hn (.inl e)
      have h2 : x.tear = 0 := Classical.byContradiction fun e => hn (.inr (.inl e))
      have h3 : x.keep = [] := List.length_eq_zero_iff.1 (Classical.byContradiction fun e => hn (.inr (.inr e)))
      split at h
      · rename_i ha
        split at h
        · cases h
        · rename_i hn2
          have h4 : x.op = op0 := Classical.byContradiction fun e => hn2 (.inl e)
          have h5 : fits x.arm = true := by cases e : fits x.arm; exact absurd (.inr e) hn2; rfl
          obtain ⟨a0, a1⟩ := (fits_iff _).1 h5
          obtain rfl := Option.some.inj h
          have e := itoa_dec a0
          have hp : parts x = [sArm, dec x.arm.toNat] := by unfold parts; rw [if_neg hc, if_pos (by omega), e]
          have hclean : ∀ c : UInt8, c.toNat < 48 → ∀ f ∈ parts x, c ∉ f := by
            intro c hc f hf
            rw [hp] at hf
            rcases List.mem_cons.1 hf with rfl | hf
            · exact clean_of48 (by decide) hc
            rcases List.mem_cons.1 hf with rfl | hf
            · exact dec_clean _ _ hc
            cases hf
          refine ⟨?_, clean_join (by decide) (hclean 10 (by decide)), ?_⟩
          · unfold lineOf
            rw [hp, Lib.join_cons, joinTail_one]
            simp
          · unfold stepOf
            rw [split1_join 32 _ (by rw [hp]; simp) (hclean 32 (by decide)), hp]
            simp only [List.headD_cons]
            rw [if_neg (by decide), if_pos trivial, (numOf_iff _ _).2 ⟨by omega, rfl⟩]
            simp only
            rw [if_pos (by omega)]
            congr 1
            obtain ⟨o, a, c, k, s, te⟩ := x
            simp only at *
            subst h1 h2 h3 h4 hc'
            simp [step0]
            omega
      · rename_i ha
        have ha' : x.arm = 0 := Classical.byContradiction fun e => ha e
        split at h
        · cases h
        · rename_i hne
          have hw := word_find x.op.kind x.op.sync
          cases hf : wordList.find? (fun w => w.kind == x.op.kind && w.sync == x.op.sync) with
          | none => rw [hf] at hw; simp only at hw; rw [hw] at hne; exact absurd rfl hne
          | some w =>
            rw [hf] at hw
            simp only at hw
            obtain ⟨hnm, hmem, hk, hsy, _⟩ := hw
            rw [hnm] at h
            simp only at h
            split at h
            · cases h
            · rename_i s' o' hr
              split at h
              · rename_i ho
                obtain rfl := Option.some.inj h
                have htl : ∀ t ∈ w.tells, t = 105 ∨ t = 98 ∨ t = 112 ∨ t = 100 := by
                  have := word_tells hmem
                  unfold tellsOk at this
                  rcases this with e | e | e | e | e <;> rw [e] <;> decide
                obtain ⟨rfl, r2, r3⟩ := setTells_of hx _ _ _ _ _ htl hr
                have hcw := word_clean hmem
                have hp : parts x = w.name :: w.tells.map (tell x.op) := by unfold parts fieldsOf; rw [if_neg hc, if_neg (by omega), hf]
                have hclean : ∀ c : UInt8, c.toNat < 48 → ∀ f ∈ parts x, c ∉ f := by
                  intro c hc f hf
                  rw [hp] at hf
                  rcases List.mem_cons.1 hf with rfl | hf
                  · exact clean_of48 (fun b hb => by have := hcw.1 b hb; omega) hc
                  · exact clean_of48 (r3 f hf) hc
                refine ⟨?_, clean_join (by decide) (hclean 10 (by decide)), ?_⟩
                · unfold lineOf
                  rw [hp, Lib.join_cons]
                · unfold stepOf
                  rw [split1_join 32 _ (by rw [hp]; simp) (hclean 32 (by decide)), hp]
                  simp only [List.headD_cons]
                  rw [if_neg hcw.2.1, if_neg hcw.2.2]
                  unfold opOf
                  rw [List.headD_cons, word_name hmem _ (by simp; omega)]
                  simp only [List.tail_cons]
                  rw [hk, hsy, r2, ho]
                  simp only [Option.map_some]
                  congr 1
                  obtain ⟨o, a, c, k, s, te⟩ := x
                  simp only at *
                  subst h1 h2 h3 hc' ha'
                  rfl
              · cases h
/-! only: what a line says is a plain step, and printed so -/
theorem refTell_of {o : Op} {t : UInt8} {f : Bs} {o' : Op} (ht : t = 105 ∨ t = 98 ∨ t = 112 ∨ t = 100) (h : setTell o t f = some o') (ho : okOp o) :
    okOp o' ∧ o'.kind = o.kind ∧ o'.sync = o.sync ∧ (∀ x : Op, (t = 105 → x.id = o'.id) → (t = 98 → x.blk = o'.blk) → (t = 112 → x.policy = o'.policy) → (t = 100 → x.data = o'.data) → ∀ s, refTell x t s o = some (s ++ 32 :: f, o')) ∧
    (t ≠ 105 → o'.id = o.id) ∧ (t ≠ 98 → o'.blk = o.blk) ∧ (t ≠ 112 → o'.policy = o.policy) ∧ (t ≠ 100 → o'.data = o.data) := by
  have key : ∀ n : Nat, n ≤ 999999 → fits (n : Int) = true := fun n hn => (fits_iff _).2 ⟨by omega, by omega⟩
  unfold setTell at h
  rcases ht with rfl | rfl | rfl | rfl
  · rw [if_pos rfl] at h
    obtain ⟨n, hn, rfl⟩ := Option.map_eq_some_iff.1 h
    obtain ⟨n1, rfl⟩ := (numOf_iff _ _).1 hn
    refine ⟨ho, rfl, rfl, fun x h1 _ _ _ s => ?_, fun e => absurd rfl e, fun _ => rfl, fun _ => rfl, fun _ => rfl⟩
    unfold refTell
    simp [h1 rfl, key n n1]
  · rw [if_neg (by decide), if_pos rfl] at h
    obtain ⟨n, hn, rfl⟩ := Option.map_eq_some_iff.1 h
    obtain ⟨n1, rfl⟩ := (numOf_iff _ _).1 hn
    refine ⟨ho, rfl, rfl, fun x _ h1 _ _ s => ?_, fun _ => rfl, fun e => absurd rfl e, fun _ => rfl, fun _ => rfl⟩
    unfold refTell
    simp [h1 rfl, key n n1]
  · rw [if_neg (by decide), if_neg (by decide), if_pos rfl] at h
    obtain ⟨n, hn, rfl⟩ := Option.map_eq_some_iff.1 h
    obtain ⟨n1, rfl⟩ := (numOf_iff _ _).1 hn
    refine ⟨ho, rfl, rfl, fun x _ _ h1 _ s => ?_, fun _ => rfl, fun _ => rfl, fun e => absurd rfl e, fun _ => rfl⟩
    unfold refTell
    simp [h1 rfl, key n n1]
  · rw [if_neg (by decide), if_neg (by decide), if_neg (by decide)] at h
    obtain ⟨d, hd, rfl⟩ := Option.map_eq_some_iff.1 h
    obtain ⟨d1, d2, rfl⟩ := (dataOf_iff _ _).1 hd
    refine ⟨⟨d1, d2⟩, rfl, rfl, fun x _ _ _ h1 s => ?_, fun _ => rfl, fun _ => rfl, fun _ => rfl, fun e => absurd rfl e⟩
    unfold refTell
    simp [h1 rfl]
theorem ok_op0 (k : Int) (s : Bool) : okOp { op0 with kind := k, sync := s } := ⟨by simp [op0, zeros], fun x hx => by
  simp only [op0, zeros, List.mem_replicate] at hx
  omega⟩
theorem setTells_nil {fs : List Bs} {o o' : Op} (h : setTells [] fs o = some o') : fs = [] ∧ o' = o := by
  cases fs with
  | nil => exact ⟨rfl, (Option.some.inj h).symm⟩
  | cons f fs => cases h
theorem setTells_cons {t : UInt8} {ts : Bs} {fs : List Bs} {o o' : Op} (h : setTells (t :: ts) fs o = some o') : ∃ f r o1, fs = f :: r ∧ setTell o t f = some o1 ∧ setTells ts r o1 = some o' := by
  cases fs with
  | nil => cases h
  | cons f r =>
    unfold setTells at h
    cases h1 : setTell o t f with
    | none => rw [h1] at h; cases h
    | some o1 => rw [h1] at h; exact ⟨f, r, o1, rfl, h1, h⟩
theorem refTells_of {ts : Bs} (hts : tellsOk ts) {fs : List Bs} {o o' : Op} (h : setTells ts fs o = some o') (ho : okOp o) (s : Bs) :
    okOp o' ∧ o'.kind = o.kind ∧ o'.sync = o.sync ∧ refTells o' ts s o = some (s ++ Lib.joinTail [32] fs, o') := by
  unfold tellsOk at hts
  rcases hts with rfl | rfl | rfl | rfl | rfl
  · obtain ⟨rfl, rfl⟩ := setTells_nil h
    exact ⟨ho, rfl, rfl, by unfold refTells; simp [joinTail_nil]⟩
  · obtain ⟨f, r, o1, rfl, h1, h2⟩ := setTells_cons h
    obtain ⟨rfl, rfl⟩ := setTells_nil h2
    obtain ⟨a1, a2, a3, a4, _⟩ := refTell_of (by simp) h1 ho
    refine ⟨a1, a2, a3, ?_⟩
    unfold refTells
    rw [a4 o' (fun _ => rfl) (fun _ => rfl) (fun _ => rfl) (fun _ => rfl)]
    simp only [refTells]
    rw [joinTail_one]
  · obtain ⟨f, r, o1, rfl, h1, h2⟩ := setTells_cons h
    obtain ⟨rfl, rfl⟩ := setTells_nil h2
    obtain ⟨a1, a2, a3, a4, _⟩ := refTell_of (by simp) h1 ho
    refine ⟨a1, a2, a3, ?_⟩
    unfold refTells
    rw [a4 o' (fun _ => rfl) (fun _ => rfl) (fun _ => rfl) (fun _ => rfl)]
    simp only [refTells]
    rw [joinTail_one]
  · obtain ⟨f, r, o1, rfl, h1, h2⟩ := setTells_cons h
    obtain ⟨g, r2, o2, rfl, h3, h4⟩ := setTells_cons h2
    obtain ⟨rfl, rfl⟩ := setTells_nil h4
    obtain ⟨a1, a2, a3, a4, a5, a6, a7, a8⟩ := refTell_of (by simp) h1 ho
    obtain ⟨b1, b2, b3, b4, b5, b6, b7, b8⟩ := refTell_of (by simp) h3 a1
    refine ⟨b1, b2.trans a2, b3.trans a3, ?_⟩
    unfold refTells
    rw [a4 o' (fun _ => b5 (by decide)) (fun e => absurd e (by decide)) (fun e => absurd e (by decide)) (fun e => absurd e (by decide))]
    simp only [refTells]
    rw [b4 o' (fun _ => rfl) (fun _ => rfl) (fun _ => rfl) (fun _ => rfl)]
    simp only [refTells]
    rw [joinTail_cons, joinTail_one]
    simp
  · obtain ⟨f, r, o1, rfl, h1, h2⟩ := setTells_cons h
    obtain ⟨g, r2, o2, rfl, h3, h4⟩ := setTells_cons h2
    obtain ⟨e, r3, o3, rfl, h5, h6⟩ := setTells_cons h4
    obtain ⟨rfl, rfl⟩ := setTells_nil h6
    obtain ⟨a1, a2, a3, a4, a5, a6, a7, a8⟩ := refTell_of (by simp) h1 ho
    obtain ⟨b1, b2, b3, b4, b5, b6, b7, b8⟩ := refTell_of (by simp) h3 a1
    obtain ⟨c1, c2, c3, c4, c5, c6, c7, c8⟩ := refTell_of (by simp) h5 b1
    refine ⟨c1, c2.trans (b2.trans a2), c3.trans (b3.trans a3), ?_⟩
    unfold refTells
    rw [a4 o' (fun _ => (c5 (by decide)).trans (b5 (by decide))) (fun e => absurd e (by decide)) (fun e => absurd e (by decide)) (fun e => absurd e (by decide))]
    simp only [refTells]
    rw [b4 o' (fun e => absurd e (by decide)) (fun _ => c6 (by decide)) (fun e => absurd e (by decide)) (fun e => absurd e (by decide))]
    simp only [refTells]
    rw [c4 o' (fun _ => rfl) (fun _ => rfl) (fun _ => rfl) (fun _ => rfl)]
    simp only [refTells]
    rw [joinTail_cons, joinTail_cons, joinTail_one]
    simp
theorem refKeep_of : ∀ (r : List Bs) (l : List Int) (s : Bs), keepOf r = some l → refKeep l s = some (s ++ Lib.joinTail [32] r)
  | [], l, s, h => by
    unfold keepOf at h
    obtain rfl := Option.some.inj h
    simp [refKeep, joinTail_nil]
  | f :: r, l, s, h => by
    unfold keepOf at h
    split at h
    · rename_i n l' e1 e2
      obtain rfl := Option.some.inj h
      obtain ⟨n1, rfl⟩ := (numOf_iff _ _).1 e1
      unfold refKeep
      rw [if_pos ((fits_iff _).2 ⟨by omega, by omega⟩), refKeep_of r l' _ e2, joinTail_cons]
      simp
    · cases h
theorem refLine_arm (x : Step) (hc : x.crash = false) (h1 : x.soft = 0) (h2 : x.tear = 0) (h3 : x.keep = []) (ha : x.arm ≠ 0) (ho : x.op = op0) (hf : fits x.arm = true) : refLine x = some (sArm ++ [32] ++ dec x.arm.toNat ++ [10]) := by
  unfold refLine
  rw [if_neg (show ¬ (x.crash = true) from by rw [hc]; decide), if_neg (show ¬ (x.soft ≠ 0 ∨ x.tear ≠ 0 ∨ x.keep.length ≠ 0) from by rw [h1, h2, h3]; simp), if_pos ha, if_neg (show ¬ (x.op ≠ op0 ∨ fits x.arm = false) from by rw [ho, hf]; simp)]
theorem refLine_op (x : Step) (hc : x.crash = false) (h1 : x.soft = 0) (h2 : x.tear = 0) (h3 : x.keep = []) (ha : x.arm = 0) {nm ts s : Bs} (hn : nameOf x.op.kind x.op.sync = (nm, ts)) (hne : nm ≠ []) (hr : refTells x.op ts nm { op0 with kind := x.op.kind, sync := x.op.sync } = some (s, x.op)) : refLine x = some (s ++ [10]) := by
  unfold refLine
  rw [if_neg (show ¬ (x.crash = true) from by rw [hc]; decide), if_neg (show ¬ (x.soft ≠ 0 ∨ x.tear ≠ 0 ∨ x.keep.length ≠ 0) from by rw [h1, h2, h3]; simp), if_neg (show ¬ (x.arm ≠ 0) from by rw [ha]; simp), hn]
  simp only
  rw [if_neg hne, hr]
  simp only
  rw [if_pos trivial]
/-- ONLY: what a line says is plain, and its line is that line. -/
theorem only {s : Bs} {x : Step} (h : stepOf s = some x) : okOp x.op ∧ (0 ≤ x.soft ∧ x.soft < 18446744073709551616) ∧ refLine x = some (s ++ [10]) := by
  have hj := join_split1 32 s
  unfold stepOf at h
  simp only at h
  split at h
  · rename_i hc
    cases hl : split1 32 s with
    | nil => exact absurd hl (split1_ne 32 s)
    | cons w r =>
      rw [hl] at h hc hj
      simp only [List.headD_cons] at hc
      subst hc
      match r, h, hj with
      | [], h, _ => cases h
      | [_], h, _ => cases h
      | a :: b :: r, h, hj =>
        simp only [crashOf] at h
        split at h
        · rename_i so te ke e1 e2 e3
          obtain rfl := Option.some.inj h
          obtain ⟨s1, rfl⟩ := (softOf_iff _ _).1 e1
          obtain ⟨t1, rfl⟩ := (numOf_iff _ _).1 e2
          refine ⟨ok_op0 0 false, ⟨by simp, by simp; omega⟩, ?_⟩
          unfold refLine
          rw [if_pos rfl, if_neg (by
            rintro (e | e | e)
            · exact e rfl
            · exact e rfl
            · rw [show fits (te : Int) = true from (fits_iff _).2 ⟨by omega, by omega⟩] at e; cases e)]
          simp only
          rw [refKeep_of r ke _ e3]
          rw [← hj, Lib.join_cons, joinTail_cons, joinTail_cons]
          simp
        · cases h
  · rename_i hc
    split at h
    · rename_i ha
      split at h
      · rename_i w f hl
        split at h
        · rename_i n hn
          split at h
          · rename_i hpos
            obtain rfl := Option.some.inj h
            obtain ⟨n1, rfl⟩ := (numOf_iff _ _).1 hn
            rw [hl] at ha hj
            simp only [List.headD_cons] at ha
            subst ha
            refine ⟨ok_op0 0 false, ⟨by simp [step0], by simp [step0]⟩, ?_⟩
            rw [refLine_arm _ rfl rfl rfl rfl (show (n : Int) ≠ 0 from by omega) rfl ((fits_iff _).2 ⟨by simp, by simp; omega⟩)]
            rw [← hj, Lib.join_cons, joinTail_one]
            simp
          · cases h
        · cases h
      · cases h
    · obtain ⟨o, ho, rfl⟩ := Option.map_eq_some_iff.1 h
      cases hl : split1 32 s with
      | nil => exact absurd hl (split1_ne 32 s)
      | cons w0 r =>
        rw [hl] at ho hj
        unfold opOf at ho
        split at ho
        · cases ho
        · rename_i w hf
          have h1 := List.find?_some hf
          have h2 := List.mem_of_find?_eq_some hf
          simp only [List.headD_cons, List.length_cons, Bool.and_eq_true, beq_iff_eq] at h1
          obtain ⟨hw0, _⟩ := h1
          simp only [List.tail_cons] at ho
          obtain ⟨a1, a2, a3, a4⟩ := refTells_of (word_tells h2) ho (ok_op0 w.kind w.sync) w.name
          have hk := word_find w.kind w.sync
          rw [word_kind h2] at hk
          simp only at hk
          refine ⟨a1, ⟨by simp [step0], by simp [step0]⟩, ?_⟩
          rw [refLine_op _ rfl rfl rfl rfl rfl (show nameOf o.kind o.sync = (w.name, w.tells) from by rw [a2, a3]; exact hk.1) hk.2.2.2.2 (show refTells o w.tells w.name { op0 with kind := o.kind, sync := o.sync } = some (_, o) from by rw [a2, a3]; exact a4), ← hj, Lib.join_cons, ← hw0]
end
section
set_option linter.unusedSimpArgs false
set_option linter.unusedVariables false
open Go

inductive Res where
  | ok (l : List Step)
  | err (n : Nat)
def Res.push (x : Step) : Res → Res
  | .ok l => .ok (x :: l)
  | .err n => .err n
def Res.behind (out : List Step) : Res → Res
  | .ok l => .ok (out ++ l)
  | .err n => .err n
def parseL : Nat → List Bs → Res
  | _, [] => .ok []
  | n, [t] => if t = [] then .ok [] else .err n
  | n, x :: y :: r => match stepOf x with
    | none => .err n
    | some a => (parseL (n + 1) (y :: r)).push a
def parseAt (n : Nat) (s : Bs) : Res := parseL n (split1 10 s)
def parseOf (s : Bs) : Res := parseAt 1 s
theorem parseAt_nil (n : Nat) : parseAt n [] = .ok [] := rfl
theorem parseAt_none (n : Nat) {s : Bs} (h : 10 ∉ s) (hs : s ≠ []) : parseAt n s = .err n := by
  unfold parseAt; rw [split1_miss 10 s h]; simp [parseL, hs]
theorem parseAt_some (n : Nat) {x r : Bs} (h : 10 ∉ x) : parseAt n (x ++ 10 :: r) = match stepOf x with | none => .err n | some a => (parseAt (n + 1) r).push a := by
  unfold parseAt
  rw [split1_hit 10 x r h]
  cases hr : split1 10 r with
  | nil => exact absurd hr (split1_ne 10 r)
  | cons y t => rw [parseL]
theorem behind_push (out : List Step) (x : Step) (r : Res) : (r.push x).behind out = r.behind (out ++ [x]) := by cases r <;> simp [Res.push, Res.behind]
theorem behind_nil (r : Res) : r.behind [] = r := by cases r <;> rfl
/-- Steps as a text says them. -/
def good (x : Step) : Prop := okOp x.op ∧ (0 ≤ x.soft ∧ x.soft < 18446744073709551616)
theorem refPrint_cons {x : Step} {l : List Step} {s : Bs} (h : refPrint (x :: l) = some s) : ∃ a b, refLine x = some a ∧ refPrint l = some b ∧ s = a ++ b := by
  unfold refPrint at h
  split at h
  · rename_i a b h1 h2
    exact ⟨a, b, h1, h2, (Option.some.inj h).symm⟩
  · cases h
/-- What is printed is read. -/
theorem parse_print : ∀ (l : List Step) (n : Nat) (s : Bs), (∀ x ∈ l, good x) → refPrint l = some s → parseAt n s = .ok l
  | [], n, s, _, h => by
    obtain rfl := Option.some.inj h
    rfl
  | x :: l, n, s, hg, h => by
    obtain ⟨a, b, h1, h2, rfl⟩ := refPrint_cons h
    obtain ⟨g1, g2⟩ := hg x (List.mem_cons_self ..)
    obtain ⟨rfl, h3, h4⟩ := back x g1 g2 h1
    rw [show lineOf x ++ b = Lib.join (parts x) [32] ++ 10 :: b from by unfold lineOf; simp, parseAt_some n h3, h4]
    simp only
    rw [parse_print l (n + 1) b (fun y hy => hg y (List.mem_cons_of_mem _ hy)) h2]
    rfl
/-- What is read is plain, and printed so. -/
theorem print_parse : ∀ (m n : Nat) (s : Bs) (l : List Step), s.length ≤ m → parseAt n s = .ok l → refPrint l = some s ∧ ∀ x ∈ l, good x := by
  intro m
  induction m with
  | zero =>
    intro n s l hs h
    obtain rfl : s = [] := List.length_eq_zero_iff.1 (by omega)
    rw [parseAt_nil] at h
    injection h with h
    subst h
    exact ⟨rfl, fun _ h => by cases h⟩
  | succ m ih =>
    intro n s l hs h
    rcases mem_cases 10 s with hm | ⟨x, r, rfl, hm⟩
    · by_cases h0 : s = []
      · subst h0
        rw [parseAt_nil] at h
        injection h with h
        subst h
        exact ⟨rfl, fun _ h => by cases h⟩
      · rw [parseAt_none n hm h0] at h; cases h
    · rw [parseAt_some n hm] at h
      split at h
      · cases h
      · rename_i a ha
        cases hp : parseAt (n + 1) r with
        | err k => rw [hp] at h; cases h
        | ok l' =>
          rw [hp] at h
          simp only [Res.push] at h
          injection h with h
          subst h
          obtain ⟨h1, h2⟩ := ih (n + 1) r l' (by simp at hs; omega) hp
          obtain ⟨g1, g2, g3⟩ := only ha
          refine ⟨?_, fun y hy => ?_⟩
          · unfold refPrint
            rw [g3, h1]
            simp
          · rcases List.mem_cons.1 hy with rfl | hy
            · exact ⟨g1, g2⟩
            · exact h2 y hy
theorem parse_iff {s : Bs} {l : List Step} : parseOf s = .ok l ↔ refPrint l = some s ∧ ∀ x ∈ l, good x :=
  ⟨fun h => print_parse _ _ _ _ (Nat.le_refl _) h, fun ⟨h1, h2⟩ => parse_print l 1 s h2 h1⟩
theorem ok_any {n m : Nat} {s : Bs} {l : List Step} (h : parseAt n s = .ok l) : parseAt m s = .ok l := by
  obtain ⟨h1, h2⟩ := print_parse _ _ _ _ (Nat.le_refl _) h
  exact parse_print l m s h2 h1
theorem refPrint_append : ∀ (a b : List Step) {x y : Bs}, refPrint a = some x → refPrint b = some y → refPrint (a ++ b) = some (x ++ y)
  | [], b, x, y, h1, h2 => by
    obtain rfl := Option.some.inj h1
    exact h2
  | c :: a, b, x, y, h1, h2 => by
    obtain ⟨p, q, e1, e2, rfl⟩ := refPrint_cons h1
    show refPrint (c :: (a ++ b)) = _
    unfold refPrint
    rw [e1, refPrint_append a b e2 h2]
    simp
/-- The program's text of plain steps is the document's. -/
theorem print_ref : ∀ (l : List Step) (s : Bs), (∀ x ∈ l, good x) → refPrint l = some s → printOf l = s
  | [], s, _, h => by obtain rfl := Option.some.inj h; rfl
  | x :: l, s, hg, h => by
    obtain ⟨a, b, h1, h2, rfl⟩ := refPrint_cons h
    obtain ⟨g1, g2⟩ := hg x (List.mem_cons_self ..)
    obtain ⟨rfl, _⟩ := back x g1 g2 h1
    unfold printOf
    rw [List.map_cons, List.flatten_cons]
    congr 1
    exact print_ref l b (fun y hy => hg y (List.mem_cons_of_mem _ hy)) h2
theorem refPrint_all : ∀ (l : List Step), (∀ x ∈ l, (refLine x).isSome = true) → ∃ s, refPrint l = some s
  | [], _ => ⟨[], rfl⟩
  | x :: l, h => by
    obtain ⟨a, ha⟩ := Option.isSome_iff_exists.1 (h x (List.mem_cons_self ..))
    obtain ⟨b, hb⟩ := refPrint_all l (fun y hy => h y (List.mem_cons_of_mem _ hy))
    exact ⟨a ++ b, by unfold refPrint; rw [ha, hb]⟩
/-- Plain, as the program tells. -/
def plainB (x : Step) : Bool := match stepOf (Lib.join (parts x) [32]) with
  | none => false
  | some y => decide (x = y)
theorem plain_iff (x : Step) (hg : good x) : plainB x = (refLine x).isSome := by
  rw [Bool.eq_iff_iff]
  unfold plainB
  constructor
  · intro h
    split at h
    · cases h
    · rename_i y hy
      have e : x = y := by simpa using h
      subst e
      rw [(only hy).2.2]; rfl
  · intro h
    obtain ⟨t, ht⟩ := Option.isSome_iff_exists.1 h
    obtain ⟨_, _, h3⟩ := back x hg.1 hg.2 ht
    rw [h3]
    simp

/-! ### where lines begin -/
def first (s : Bs) : Nat := (s.takeWhile (· != 10)).length
theorem first_le : ∀ s : Bs, first s ≤ s.length := fun s => (List.takeWhile_sublist _).length_le
theorem first_none {s : Bs} (h : 10 ∉ s) : first s = s.length := by
  unfold first
  have := List.takeWhile_append_of_pos (p := (· != (10 : UInt8))) (l₁ := s) (l₂ := []) (fun b hb => by simp; exact fun e => h (e ▸ hb))
  simp only [List.append_nil, List.takeWhile_nil] at this
  rw [this]
theorem first_some {x r : Bs} (h : 10 ∉ x) : first (x ++ 10 :: r) = x.length := by
  unfold first
  rw [List.takeWhile_append_of_pos (fun b hb => by simp; exact fun e => h (e ▸ hb))]
  simp
def fromF : Nat → Bs → Nat
  | 0, _ => 0
  | k + 1, s => first s + 1 + fromF k (s.drop (first s + 1))
theorem count_none {s : Bs} (h : 10 ∉ s) : s.count 10 = 0 := List.count_eq_zero_of_not_mem h
theorem count_some {x r : Bs} (h : 10 ∉ x) : (x ++ 10 :: r).count 10 = r.count 10 + 1 := by
  rw [List.count_append, count_none h, List.count_cons_self]; omega
/-- Where a text isn't read: the lines ahead of the one that is told are, and that one isn't. -/
theorem reads_err : ∀ (m n0 n : Nat) (s : Bs), s.length ≤ m → parseAt n0 s = .err n → n0 ≤ n ∧ n ≤ n0 + s.count 10 ∧ fromF (n - n0) s ≤ s.length ∧ (∃ l, parseOf (s.take (fromF (n - n0) s)) = .ok l) ∧
    (first (s.drop (fromF (n - n0) s)) < (s.drop (fromF (n - n0) s)).length → parseOf ((s.drop (fromF (n - n0) s)).take (first (s.drop (fromF (n - n0) s)) + 1)) = .err 1) ∧
    (¬ first (s.drop (fromF (n - n0) s)) < (s.drop (fromF (n - n0) s)).length → parseOf ((s.drop (fromF (n - n0) s)).take (first (s.drop (fromF (n - n0) s)))) = .err 1) := by
  intro m
  induction m with
  | zero =>
    intro n0 n s hs h
    obtain rfl : s = [] := List.length_eq_zero_iff.1 (by omega)
    rw [parseAt_nil] at h
    cases h
  | succ m ih =>
    intro n0 n s hs h
    rcases mem_cases 10 s with hm | ⟨x, r, rfl, hm⟩
    · by_cases h0 : s = []
      · subst h0; rw [parseAt_nil] at h; cases h
      · rw [parseAt_none n0 hm h0] at h
        injection h with h
        subst h
        rw [Nat.sub_self]
        simp only [fromF, List.drop_zero, List.take_zero]
        refine ⟨Nat.le_refl _, by omega, Nat.zero_le _, ⟨[], rfl⟩, fun h => ?_, fun _ => ?_⟩
        · rw [first_none hm] at h; omega
        · rw [first_none hm, List.take_length]
          exact parseAt_none 1 hm h0
    · rw [parseAt_some n0 hm] at h
      split at h
      · rename_i hst
        injection h with h
        subst h
        rw [Nat.sub_self]
        simp only [fromF, List.drop_zero, List.take_zero]
        refine ⟨Nat.le_refl _, by omega, Nat.zero_le _, ⟨[], rfl⟩, fun _ => ?_, fun h => ?_⟩
        · rw [first_some hm, show (x ++ 10 :: r).take (x.length + 1) = x ++ 10 :: [] from by rw [List.take_append]; simp [List.take_of_length_le]]
          show parseAt 1 _ = _
          rw [parseAt_some 1 hm, hst]
        · rw [first_some hm] at h; simp at h
      · rename_i a ha
        cases hp : parseAt (n0 + 1) r with
        | ok l => rw [hp] at h; cases h
        | err k =>
          rw [hp] at h
          simp only [Res.push] at h
          injection h with h
          subst h
          obtain ⟨h1, h2, h3, ⟨l, h4⟩, h5, h6⟩ := ih (n0 + 1) k r (by simp at hs; omega) hp
          have hk : k - n0 = (k - (n0 + 1)) + 1 := by omega
          have hd : ∀ j, (x ++ 10 :: r).drop (x.length + 1 + j) = r.drop j := fun j => by
            rw [show x ++ 10 :: r = (x ++ [10]) ++ r from by simp, List.drop_append]
            simp
          have hf : fromF (k - n0) (x ++ 10 :: r) = x.length + 1 + fromF (k - (n0 + 1)) r := by
            rw [hk]
            rw [fromF, first_some hm, show (x ++ 10 :: r).drop (x.length + 1) = r from hd 0]
          rw [hf, hd]
          refine ⟨by omega, ?_, ?_, ⟨a :: l, ?_⟩, h5, h6⟩
          · rw [count_some hm]; omega
          · simp; omega
          · have e : (x ++ 10 :: r).take (x.length + 1 + fromF (k - (n0 + 1)) r) = x ++ 10 :: r.take (fromF (k - (n0 + 1)) r) := by
              rw [show x ++ 10 :: r = (x ++ [10]) ++ r from by simp, List.take_append]
              simp
              rw [List.take_of_length_le (by simp)]; simp
            rw [e]
            show parseAt 1 _ = _
            rw [parseAt_some 1 hm, ha]
            simp only
            rw [show parseAt (1 + 1) (r.take (fromF (k - (n0 + 1)) r)) = .ok l from ok_any h4]
            rfl
/-- A text that is read, line by line. -/
theorem reads_ok {n : Nat} {s : Bs} {x : Step} {l : List Step} (h : parseAt n s = .ok (x :: l)) : first s < s.length ∧ parseOf (s.take (first s + 1)) = .ok [x] ∧ parseAt n (s.drop (first s + 1)) = .ok l := by
  rcases mem_cases 10 s with hm | ⟨y, r, rfl, hm⟩
  · by_cases h0 : s = []
    · subst h0; rw [parseAt_nil] at h; injection h with h; cases h
    · rw [parseAt_none n hm h0] at h; cases h
  · rw [parseAt_some n hm] at h
    split at h
    · cases h
    · rename_i a ha
      cases hp : parseAt (n + 1) r with
      | err k => rw [hp] at h; cases h
      | ok l' =>
        rw [hp] at h
        simp only [Res.push] at h
        injection h with h
        injection h with e1 e2
        subst e1 e2
        rw [first_some hm]
        refine ⟨by simp, ?_, ?_⟩
        · rw [show (y ++ 10 :: r).take (y.length + 1) = y ++ 10 :: [] from by rw [List.take_append]; simp [List.take_of_length_le]]
          show parseAt 1 _ = _
          rw [parseAt_some 1 hm, ha]
          rfl
        · rw [show (y ++ 10 :: r).drop (y.length + 1) = r from by rw [show y ++ 10 :: r = (y ++ [10]) ++ r from by simp, List.drop_append]; simp [List.drop_eq_nil_of_le]]
          exact ok_any hp
theorem reads_nil {n : Nat} {s : Bs} (h : parseAt n s = .ok []) : s = [] := by
  obtain ⟨h1, _⟩ := print_parse _ _ _ _ (Nat.le_refl _) h
  exact (Option.some.inj h1).symm
theorem lines_count : ∀ (l : List Step) (n : Nat) (s : Bs), parseAt n s = .ok l → s.count 10 = l.length
  | [], n, s, h => by rw [reads_nil h]; rfl
  | x :: l, n, s, h => by
    have h0 := reads_ok h
    rcases mem_cases 10 s with hm | ⟨y, r, rfl, hm⟩
    · have := h0.1; rw [first_none hm] at this; omega
    · rw [first_some hm, show (y ++ 10 :: r).drop (y.length + 1) = r from by rw [show y ++ 10 :: r = (y ++ [10]) ++ r from by simp, List.drop_append]; simp [List.drop_eq_nil_of_le]] at h0
      rw [count_some hm, lines_count l n r h0.2.2]; rfl
end
end Go.Proofs.YtagpldkgkchfcaaDoor.Txt
