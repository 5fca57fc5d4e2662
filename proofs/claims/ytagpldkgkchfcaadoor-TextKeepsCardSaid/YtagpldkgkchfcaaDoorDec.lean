/- Arguments read as typed data, whatever their type (ints, truths, strings, arrays of ints, structs, slices of these). Of whatever program. -/
import Derived.Test.YtagpldkgkchfcaaDoorWMore
import Derived.ProofKit
import Derived.OpenShut
import Derived.Deep.Slices
import Derived.Carry
namespace Go.Proofs.YtagpldkgkchfcaaDoor.Dec
open Go.RowKit Go.ChangeShapes Go.WideShapes Go.Proofs.YtagpldkgkchfcaaDoorW.PrintWords Go.Proofs.YtagpldkgkchfcaaDoorW.PrintLast

/-- A kind without memory. -/
def flatKd {α : Type} (sz : Nat) (R : α → List Value → Prop) (hl : ∀ {x cs}, R x cs → cs.length = sz) (h1 : ∀ {x cs}, R x cs → ∀ u ∈ cs, u.oneCell' = true) : Kd α where
  sz := sz
  E := []
  K := fun _ x cs => R x cs
  M := fun _ _ _ x cs => R x cs
  K_len := hl
  K_one := h1
  K_below := fun _ h => h
  K_of_M := fun h => h
  M_mono := fun _ h => h
  M_bound := fun h => h
  M_move := fun _ h => h
  M_lower := fun _ h => h
/-- An array of n ints. -/
def ints (k : IntKind) (n : Nat) : Kd (List Int) := flatKd n (fun l cs => l.length = n ∧ cs = l.map (Value.int k)) (fun h => by rw [h.2, List.length_map, h.1]) (fun h u hu => by
  rw [h.2, List.mem_map] at hu
  obtain ⟨x, _, rfl⟩ := hu
  rfl)

/-- What came in at type T reads as k tells, and is good. -/
def Dec {α : Type} (P : Program) (T : TypeId) (k : Kd α) (G : α → Prop) : Prop :=
  ∀ {H : Type} {enc : TypeId × Value → H} {W : World} {fuel : Nat} {cs : List Value} {x : DataW H × List MemPlace}, DataW.trod enc P W 0 (fun _ => true) true fuel T cs = some x → ∃ a, k.K W a cs ∧ G a

section
variable {P : Program} {α β γ : Type}
theorem dec_int {T : TypeId} {k : IntKind} (hu : P.underlying T = some (.int k)) : Dec P T (Kd.int k) (fun n => (Lit.int k n).wf = true) := by
  intro H enc W fuel cs x h
  obtain ⟨n, rfl, _, hw⟩ := DataW.trod_int hu h
  exact ⟨n, rfl, hw⟩
theorem dec_bool {T : TypeId} (hu : P.underlying T = some .bool) : Dec P T Kd.bool (fun _ => True) := by
  intro H enc W fuel cs x h
  obtain ⟨b, rfl, _⟩ := DataW.trod_bool hu h
  exact ⟨b, rfl, trivial⟩
theorem dec_string {T : TypeId} (hu : P.underlying T = some .string) : Dec P T Kd.string (fun s => s.size ≤ maxLen) := by
  intro H enc W fuel cs x h
  obtain ⟨s, rfl, _, hs⟩ := DataW.trod_string hu h
  exact ⟨s, rfl, hs⟩
theorem ints_of {k : IntKind} : ∀ (cs : List Value), (∀ i, i < cs.length → ∃ n : Int, cs[i]? = some (.int k n) ∧ (Lit.int k n).wf = true) → ∃ l : List Int, cs = l.map (Value.int k) ∧ ∀ n ∈ l, (Lit.int k n).wf = true
  | [], _ => ⟨[], rfl, fun _ h => by cases h⟩
  | c :: cs, h => by
    obtain ⟨n, hn, hw⟩ := h 0 (by simp)
    obtain ⟨l, rfl, hl⟩ := ints_of cs (fun i hi => by have := h (i + 1) (by simp; omega); simpa using this)
    refine ⟨n :: l, ?_, fun m hm => ?_⟩
    · simp at hn; simp [hn]
    · rcases List.mem_cons.1 hm with rfl | hm
      · exact hw
      · exact hl m hm
theorem dec_ints {T e : TypeId} {k : IntKind} {n : Nat} (hu : P.underlying T = some (.array n e)) (he : P.underlying e = some (.int k)) (hce : P.cellsOf e = 1) (hcT : P.cellsOf T = n) : Dec P T (ints k n) (fun l => ∀ x ∈ l, (Lit.int k x).wf = true) := by
  intro H enc W fuel cs x h
  obtain ⟨xs, m, _, _, hcl, hxl, hx⟩ := DataW.trod_array hu h
  rw [hce] at hx
  rw [hcT] at hcl
  obtain ⟨l, rfl, hl⟩ := ints_of (k := k) cs (fun i hi => by
    have h1 := hx i (by omega)
    have h2 : xs[i]? = some (xs[i]'(by omega)) := List.getElem?_eq_getElem (by omega)
    rw [h2, Nat.mul_one] at h1
    obtain ⟨q, hq, _, hw⟩ := DataW.trod_int he h1
    have h3 : (cs.drop i).take 1 = [cs[i]] := by rw [List.drop_eq_getElem_cons hi]; rfl
    rw [h3] at hq
    exact ⟨q, by rw [List.getElem?_eq_getElem hi]; simp at hq; rw [hq], hw⟩)
  exact ⟨l, ⟨by simpa using hcl, rfl⟩, hl⟩
theorem dec_slice {T e : TypeId} {k : Kd α} {G : α → Prop} (hu : P.underlying T = some (.slice e)) (hk : Dec P e k G) (hsz : P.cellsOf e = k.sz) : Dec P T (Kd.slice e k) (fun l => ∀ x ∈ l, G x) := by
  intro H enc W fuel cs x h
  rcases Go.Deep.open_slice hu h with ⟨rfl, _⟩ | ⟨ad, len, cap, m, n, D, Pl, rfl, _, hl, hm, hmm, _, hx⟩
  · exact ⟨[], ⟨none, 0, rfl, Nat.le_refl _, Kd.C_nil k W⟩, fun _ h => by cases h⟩
  · simp only [if_true] at hmm
    subst hmm
    have : ∀ i, i < len → ∃ a : α, (∃ c, k.K W a c ∧ ∀ j u, c[j]? = some u → W.cell? (ad.add (i * k.sz + j)) = some u) ∧ G a := by
      intro i hi
      obtain ⟨cs', h1, h2⟩ := hx i (by omega)
      obtain ⟨a, ha, hg⟩ := hk h2
      rw [hsz] at h1
      obtain ⟨_, hlen, hat⟩ := World.cells?_some h1
      refine ⟨a, ⟨cs', ha, fun j u hu => ?_⟩, hg⟩
      have hj := (List.getElem?_eq_some_iff.1 hu).1
      rw [← Go.Deep.add_add, hat j (by omega)]
      exact hu
    obtain ⟨f, hf⟩ : ∃ f : Fin len → α, ∀ i : Fin len, (∃ c, k.K W (f i) c ∧ ∀ j u, c[j]? = some u → W.cell? (ad.add (i.val * k.sz + j)) = some u) ∧ G (f i) :=
      ⟨fun i => Classical.choose (this i.val i.isLt), fun i => Classical.choose_spec (this i.val i.isLt)⟩
    have hget : ∀ (j : Nat) (hj : j < len), (List.ofFn f)[j]? = some (f ⟨j, hj⟩) := fun j hj => by rw [List.getElem?_ofFn]; simp [hj]
    refine ⟨List.ofFn f, ⟨some ad, m, by simp, by simpa using hl, by simp, by simp [maxLen] at hm ⊢; omega, fun hn => ⟨ad, rfl, fun j p hp => ?_⟩⟩, fun y hy => ?_⟩
    · have hj : j < len := by have := (List.getElem?_eq_some_iff.1 hp).1; simpa using this
      rw [hget j hj] at hp
      obtain rfl := Option.some.inj hp
      obtain ⟨c, hc, hcell⟩ := (hf ⟨j, hj⟩).1
      exact ⟨c, k.K_len hc, hc, hcell⟩
    · rw [List.mem_ofFn] at hy
      obtain ⟨i, rfl⟩ := hy
      exact (hf i).2
/-- The fields from an offset on. -/
def DecF {α : Type} (P : Program) (fs : List Field) (off : Nat) (k : Kd α) (G : α → Prop) : Prop :=
  ∀ {H : Type} {enc : TypeId × Value → H} {W : World} {n : Nat} {cs : List Value}, off + k.sz ≤ cs.length →
    (∀ f ∈ fs, ∃ x, DataW.trod enc P W 0 (fun _ => true) true n f.type ((cs.drop f.offset).take (P.cellsOf f.type)) = some x) → ∃ a, k.K W a ((cs.drop off).take k.sz) ∧ G a
theorem decf_one {f : Field} {off : Nat} {k : Kd α} {G : α → Prop} (hk : Dec P f.type k G) (ho : f.offset = off) (hs : P.cellsOf f.type = k.sz) : DecF P [f] off k G := by
  intro H enc W n cs _ h
  obtain ⟨x, hx⟩ := h f (by simp)
  rw [ho, hs] at hx
  exact hk hx
theorem decf_cons {f : Field} {fs : List Field} {off : Nat} {k : Kd α} {ks : Kd β} {G : α → Prop} {Gs : β → Prop} (hk : Dec P f.type k G) (ho : f.offset = off) (hs : P.cellsOf f.type = k.sz) (hr : DecF P fs (off + k.sz) ks Gs) :
    DecF P (f :: fs) off (Kd.pair k ks) (fun x => G x.1 ∧ Gs x.2) := by
  intro H enc W n cs hlen h
  have hlen' : off + (k.sz + ks.sz) ≤ cs.length := hlen
  obtain ⟨x, hx⟩ := h f (by simp)
  rw [ho, hs] at hx
  obtain ⟨a, ha, hg⟩ := hk hx
  obtain ⟨b, hb, hgs⟩ := hr (n := n) (cs := cs) (by omega) (fun f' hf' => h f' (List.mem_cons_of_mem _ hf'))
  refine ⟨(a, b), ⟨_, _, ?_, ha, hb⟩, hg, hgs⟩
  show (cs.drop off).take (k.sz + ks.sz) = _
  rw [List.take_add, List.drop_drop]
theorem dec_struct {T : TypeId} {fs : Array Field} {k : Kd α} {G : α → Prop} {γ : Type} {pr : γ → α} (hu : P.underlying T = some (.struct fs)) (hc : P.cellsOf T = k.sz) (hf : DecF P fs.toList 0 k G) (hp : ∀ a, ∃ c, pr c = a) :
    Dec P T (Kd.iso k pr) (fun c => G (pr c)) := by
  intro H enc W fuel cs x h
  obtain ⟨xs, n, _, _, hcl, hxl, hx⟩ := DataW.trod_struct hu h
  obtain ⟨a, ha, hg⟩ := hf (n := n) (cs := cs) (by omega) (fun f hfm => by
    obtain ⟨i, hi, rfl⟩ := List.getElem_of_mem hfm
    have hi' : i < fs.size := by simpa using hi
    have h2 : xs[i]? = some (xs[i]'(by omega)) := List.getElem?_eq_getElem (by omega)
    exact ⟨_, (hx i _ (by rw [Array.getElem?_eq_getElem hi']; rfl)).trans h2⟩)
  obtain ⟨c, rfl⟩ := hp a
  refine ⟨c, ?_, hg⟩
  show k.K W (pr c) cs
  rw [List.drop_zero, List.take_of_length_le (by omega)] at ha
  exact ha
end

/-! ### a law's argument -/
section
variable {P : Program} {H : Type} {enc : TypeId × Value → H} {W : World} {T : TypeId} {v : Value} {d : DataW H} {p : List MemPlace} {r : Reach} {b : Nat} {α : Type} {k : Kd α} {G : α → Prop}
theorem arg_places (h : DataW.Trod enc P W 0 (fun _ => true) true T v d p) : ∀ x ∈ p, x.block < W.heap.size := by obtain ⟨m, hm⟩ := h; exact DataW.trod_lt m _ _ _ hm
theorem okAgg {t : TypeDesc} (hu : P.underlying T = some t) (ht : (match t with | .struct _ | .array _ _ => true | _ => false) = true) (hv : Value.okWide P W r b T v) : ∃ cs, v = .agg cs := by
  cases t <;> simp at ht
  all_goals
    simp only [Value.okWide, hu] at hv
    obtain ⟨cs, h1, _⟩ := hv
    exact ⟨cs, h1⟩
/-- A struct or an array. -/
theorem arg_agg (hk : Dec P T k G) (hv : ∃ cs, v = .agg cs) (h : DataW.Trod enc P W 0 (fun _ => true) true T v d p) : ∃ a cs, v = .agg cs ∧ k.K W a cs.toList ∧ G a := by
  obtain ⟨cs, rfl⟩ := hv
  obtain ⟨fuel, hf⟩ := h
  obtain ⟨a, ha, hg⟩ := hk hf
  exact ⟨a, cs, rfl, ha, hg⟩
theorem arg_slice {e : TypeId} (hu : P.underlying T = some (.slice e)) (hk : Dec P T (Kd.slice e k) (fun l => ∀ x ∈ l, G x)) (hv : Value.okWide P W r b T v) (h : DataW.Trod enc P W 0 (fun _ => true) true T v d p) :
    ∃ A c l, v = .slice A l.length c ∧ l.length ≤ c ∧ k.C W A l.length l ∧ ∀ x ∈ l, G x := by
  obtain ⟨A0, len, cap, rfl⟩ := okWide_slice hu hv
  obtain ⟨fuel, hf⟩ := h
  obtain ⟨l, ⟨A, c, he, hlc, hC⟩, hg⟩ := hk hf
  simp [Value.cells] at he
  obtain ⟨rfl, rfl, rfl⟩ := he
  exact ⟨A0, cap, l, rfl, hlc, hC, hg⟩
theorem arg_int {ik : IntKind} (hu : P.underlying T = some (.int ik)) (hv : Value.okWide P W r b T v) (h : DataW.Trod enc P W 0 (fun _ => true) true T v d p) : ∃ n, v = .int ik n ∧ (Lit.int ik n).wf = true := by
  obtain ⟨n, rfl⟩ := okWide_int hu hv
  obtain ⟨fuel, hf⟩ := h
  obtain ⟨m, he, _, hw⟩ := DataW.trod_int hu hf
  simp [Value.cells] at he
  subst he
  exact ⟨n, rfl, hw⟩
theorem arg_bool (hu : P.underlying T = some .bool) (hv : Value.okWide P W r b T v) : ∃ x, v = .bool x := okWide_bool hu hv
theorem arg_string (hu : P.underlying T = some .string) (hv : Value.okWide P W r b T v) (h : DataW.Trod enc P W 0 (fun _ => true) true T v d p) : ∃ s, v = .string s ∧ s.size ≤ maxLen := by
  obtain ⟨s, rfl⟩ := okWide_string hu hv
  obtain ⟨fuel, hf⟩ := h
  obtain ⟨t, he, _, hs⟩ := DataW.trod_string hu hf
  simp [Value.cells] at he
  subst he
  exact ⟨s, rfl, hs⟩
end
end Go.Proofs.YtagpldkgkchfcaaDoor.Dec
