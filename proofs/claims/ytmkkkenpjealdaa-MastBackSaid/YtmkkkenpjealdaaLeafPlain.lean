/- Leaves in plain Lean: which are right, their sectors, what is read of a sector. -/
import Derived.Test.YtmkkkenpjealdaaPlainSec
namespace Go.Proofs.Ytmkkkenpjealdaa.PlainSec
open Go.RowKit Go.Proofs.YtmkkkenpjealdaaW.PrintWords Go.Proofs.YtmkkkenpjealdaaW.PrintLast Go.Proofs.YtmkkkenpjealdaaW.PrintMore PlainWord CrcPlain

structure Leaf where
  gen : Int
  idx : Int
  ps : List Int
def leafOkP (L : Leaf) : Prop := ∀ x ∈ L.ps, 0 ≤ x ∧ x ≤ 4294967295
instance (L : Leaf) : Decidable (leafOkP L) := inferInstanceAs (Decidable (∀ x ∈ L.ps, 0 ≤ x ∧ x ≤ 4294967295))
def leafOkH (L : Leaf) : Prop := 1 ≤ L.gen ∧ L.gen ≤ 1099511627776 ∧ 0 ≤ L.idx ∧ L.idx ≤ 4096
instance (L : Leaf) : Decidable (leafOkH L) := inferInstanceAs (Decidable (_ ∧ _))
def leafOk (L : Leaf) : Bool := decide (leafOkH L ∧ leafOkP L)
def leafBody (L : Leaf) : List Int := [128] ++ leI L.gen 8 ++ leI L.idx 4 ++ L.ps.flatMap (leI · 4)
def leafLay (L : Leaf) : List Int := fullL (leafBody L)
theorem flat_length (ps : List Int) : (ps.flatMap (leI · 4)).length = 4 * ps.length := by
  induction ps with
  | nil => rfl
  | cons x ps ih => rw [List.flatMap_cons, List.length_append, ih, leI_length, List.length_cons]; omega
theorem leafBody_length (L : Leaf) : (leafBody L).length = 13 + 4 * L.ps.length := by
  simp only [leafBody, List.length_append, leI_length, flat_length, List.length_cons, List.length_nil]
theorem flat_bytes (ps : List Int) : Bytes (ps.flatMap (leI · 4)) := by
  intro y hy
  rw [List.mem_flatMap] at hy
  obtain ⟨x, _, hy⟩ := hy
  exact leI_bytes x 4 y hy
theorem leafBody_bytes (L : Leaf) : Bytes (leafBody L) :=
  bytes_append (bytes_append (bytes_append (fun x hx => by simp at hx; omega) (leI_bytes _ _)) (leI_bytes _ _)) (flat_bytes _)
theorem leafLay_length (L : Leaf) (h : L.ps.length = 10) : (leafLay L).length = 64 := fullL_length _ (by rw [leafBody_length]; omega)
theorem leafLay_bytes (L : Leaf) : Bytes (leafLay L) := fullL_bytes (leafBody_bytes L)
/-- What is read, the sum being right. -/
def leafOf (p : List Int) : Leaf := ⟨getN p 1 8, getN p 9 4, (List.range 10).map fun (i : Nat) => getN p (13 + 4 * (i : Int)) 4⟩
theorem leafOf_length (p : List Int) : (leafOf p).ps.length = 10 := by simp [leafOf]
def leaf0 : Leaf := ⟨0, 0, zeros 10⟩
/-- What is read, or why not. -/
def leafRead (p : List Int) : Leaf × Int := if rightB p = true then (if p.getD 0 0 = 128 ∧ leafOk (leafOf p) = true ∧ leafLay (leafOf p) = p then (leafOf p, 0) else (leaf0, 7)) else (leaf0, 8)

/-- A field read of what is laid. -/
theorem getN_at (l a c : List Int) (n : Nat) (x : Int) (hl : l = a ++ leI x n ++ c) (h0 : 0 ≤ x) (h1 : x < 256 ^ n) (i : Int) (hi : i = a.length) : getN l i n = x := by rw [hl]; exact getN_mid a c n x h0 h1 i hi
theorem flat_split (ps : List Int) (k : Nat) (h : k < ps.length) : ps.flatMap (leI · 4) = (ps.take k).flatMap (leI · 4) ++ leI (ps.getD k 0) 4 ++ (ps.drop (k + 1)).flatMap (leI · 4) := by
  have e : ps = ps.take k ++ ps.getD k 0 :: ps.drop (k + 1) := by
    rw [List.getD_eq_getElem?_getD, List.getElem?_eq_getElem h]
    simp
  conv => lhs; rw [e]
  rw [List.flatMap_append, List.flatMap_cons, List.append_assoc]
theorem leafLay_form (L : Leaf) (h : L.ps.length = 10) : leafLay L = leafBody L ++ (zeros 7 ++ le (sum (leafBody L ++ zeros 7)) 4) := by
  unfold leafLay fullL sealL
  rw [leafBody_length, h, List.append_assoc]
theorem leafOf_lay (L : Leaf) (h : L.ps.length = 10) (hr : leafOk L = true) : leafOf (leafLay L) = L := by
  obtain ⟨⟨h1, h2, h3, h4⟩, hp⟩ := of_decide_eq_true hr
  obtain ⟨t, hf⟩ : ∃ t, leafLay L = leafBody L ++ t := ⟨_, leafLay_form L h⟩
  have p8 : (256 : Int) ^ 8 = 18446744073709551616 := by decide
  have p4 : (256 : Int) ^ 4 = 4294967296 := by decide
  have e1 : getN (leafLay L) 1 8 = L.gen := getN_at _ [128] (leI L.idx 4 ++ L.ps.flatMap (leI · 4) ++ t) 8 _ (by rw [hf]; simp [leafBody]) (by omega) (by omega) 1 (by simp)
  have e2 : getN (leafLay L) 9 4 = L.idx := getN_at _ ([128] ++ leI L.gen 8) (L.ps.flatMap (leI · 4) ++ t) 4 _ (by rw [hf]; simp [leafBody]) (by omega) (by omega) 9 (by simp [leI_length])
  have e3 : ((List.range 10).map fun (i : Nat) => getN (leafLay L) (13 + 4 * (i : Int)) 4) = L.ps := by
    apply ext_getD (by simp [h])
    intro j hj
    have hj10 : j < 10 := by simpa using hj
    rw [getD_range _ _ _ hj10]
    have hm : L.ps.getD j 0 ∈ L.ps := by rw [List.getD_eq_getElem?_getD, List.getElem?_eq_getElem (by omega)]; exact List.getElem_mem _
    have hb := hp _ hm
    refine getN_at _ ([128] ++ leI L.gen 8 ++ leI L.idx 4 ++ (L.ps.take j).flatMap (leI · 4)) ((L.ps.drop (j + 1)).flatMap (leI · 4) ++ t) 4 _ ?_ (by omega) (by omega) _ ?_
    · rw [hf]
      conv => lhs; unfold leafBody; rw [flat_split L.ps j (by omega)]
      simp only [List.append_assoc]
    · simp only [List.length_append, leI_length, flat_length, List.length_cons, List.length_nil, List.length_take]
      omega
  unfold leafOf
  rw [e1, e2, e3]
theorem leafLay_right (L : Leaf) : rightB (leafLay L) = true := right_seal _ (bytes_append (leafBody_bytes L) (zeros_bytes _))
theorem leafLay_mark (L : Leaf) (h : L.ps.length = 10) : (leafLay L).getD 0 0 = 128 := by
  rw [leafLay_form L h]; rfl
theorem leafRead_lay (L : Leaf) (h : L.ps.length = 10) (hr : leafOk L = true) : leafRead (leafLay L) = (L, 0) := by
  unfold leafRead
  rw [if_pos (leafLay_right L), leafOf_lay L h hr, if_pos ⟨leafLay_mark L h, hr, rfl⟩]
theorem leafLay_inj {L M : Leaf} (h : L.ps.length = 10) (k : M.ps.length = 10) (hr : leafOk L = true) (kr : leafOk M = true) (e : leafLay L = leafLay M) : L = M := by
  rw [← leafOf_lay L h hr, ← leafOf_lay M k kr, e]
/-- The reference's way: the mark, the leaf, and noughts. -/
theorem leaf_ref (p : List Int) (hp : Bytes p) (hl : p.length = 64) (hr : rightB p = true) : (p.getD 0 0 = 128 ∧ leafOk (leafOf p) = true ∧ leafLay (leafOf p) = p) ↔ (p.getD 0 0 = 128 ∧ leafOk (leafOf p) = true ∧ ∀ j, 53 ≤ j → j < 60 → p.getD j 0 = 0) := by
  have hlen := leafOf_length p
  constructor
  · rintro ⟨h1, h2, h3⟩
    refine ⟨h1, h2, fun j hj hj2 => ?_⟩
    rw [← h3, leafLay_form _ hlen, getD_right (by rw [leafBody_length, hlen]; omega), leafBody_length, hlen, getD_left (by rw [zeros_length]; omega)]
    unfold zeros
    rw [List.getD_eq_getElem?_getD, List.getElem?_replicate]
    split <;> rfl
  · rintro ⟨h1, h2, h3⟩
    refine ⟨h1, h2, ?_⟩
    rw [right_take hp hl, decide_eq_true_eq] at hr
    have hb : leafBody (leafOf p) ++ zeros 7 = p.take 60 := by
      have e0 : p.take 1 = [128] := by rw [take_one p (by omega), h1]
      have e1 := slice_leI hp 1 8 (by omega)
      have e2 := slice_leI hp 9 4 (by omega)
      have e3 := slice_flat hp 13 10 (by omega)
      have e4 : (p.drop 53).take 7 = zeros 7 := slice_zeros p 53 7 (by omega) (fun j h4 h5 => h3 j h4 (by omega))
      rw [show 60 = 53 + 7 from rfl, take_add_slice, show 53 = 13 + 4 * 10 from rfl, take_add_slice p 13, show 13 = 9 + 4 from rfl, take_add_slice p 9, show 9 = 1 + 8 from rfl, take_add_slice p 1, e0, e1, e2, e3, e4]
      rfl
    unfold leafLay fullL
    rw [leafBody_length, hlen, hb]
    exact hr
end Go.Proofs.Ytmkkkenpjealdaa.PlainSec
