/- Arguments read as typed data, with the reach that every claim has: how long what came in may be, to whatever depth. Of whatever program. -/
import Derived.Test.YtagpldkgkchfcaaDoorDec
import Derived.SizedLaws
namespace Go.Proofs.YtagpldkgkchfcaaDoor.Dec
open Go.RowKit Go.ChangeShapes Go.WideShapes Go.Proofs.YtagpldkgkchfcaaDoorW.PrintWords Go.Proofs.YtagpldkgkchfcaaDoorW.PrintLast

/-- No more than the reach. -/
def Sz {H : Type} (P : Program) (T : TypeId) (d : DataW H) : Prop := ∀ n ∈ d.weights P T, n ≤ reachBytes
def SDec {α : Type} (P : Program) (T : TypeId) (k : Kd α) (G : α → Prop) : Prop :=
  ∀ {H : Type} {enc : TypeId × Value → H} {W : World} {fuel : Nat} {cs : List Value} {x : DataW H × List MemPlace}, DataW.trod enc P W 0 (fun _ => true) true fuel T cs = some x → Sz P T x.1 → ∃ a, k.K W a cs ∧ G a
section
variable {P : Program} {α β γ : Type}
theorem SDec.of {T : TypeId} {k : Kd α} {G : α → Prop} (h : Dec P T k G) : SDec P T k G := fun ht _ => h ht
theorem mem_weightsAll {H : Type} {e : TypeId} {d : DataW H} : ∀ {l : List (DataW H)}, d ∈ l → ∀ n ∈ d.weights P e, n ∈ DataW.weightsAll P e l
  | x :: l, h, n, hn => by
    unfold DataW.weightsAll
    rw [List.mem_append]
    rcases List.mem_cons.1 h with rfl | h
    · exact .inl hn
    · exact .inr (mem_weightsAll h n hn)
theorem sdec_slice {T e : TypeId} {k : Kd α} {G : α → Prop} (hu : P.underlying T = some (.slice e)) (hk : SDec P e k G) (hsz : P.cellsOf e = k.sz) : SDec P T (Kd.slice e k) (fun l => l.length * P.bytesOf e ≤ reachBytes ∧ ∀ x ∈ l, G x) := by
  intro H enc W fuel cs x h hS
  rcases Go.Deep.open_slice hu h with ⟨rfl, _⟩ | ⟨ad, len, cap, m, n, D, Pl, rfl, _, hl, hm, hmm, rfl, hx⟩
  · exact ⟨[], ⟨none, 0, rfl, Nat.le_refl _, Kd.C_nil k W⟩, by simp, fun _ h => by cases h⟩
  · simp only [if_true] at hmm
    subst hmm
    have hlen : len * P.bytesOf e ≤ reachBytes := by
      have h1 := hS ((((List.range len).map D).length + ((List.range (m - len)).map fun j => D (len + j)).length) * P.bytesOf e) (by simp only [DataW.weights, hu]; exact List.mem_cons_self ..)
      simp only [List.length_map, List.length_range] at h1
      exact Nat.le_trans (Nat.mul_le_mul_right _ (by omega)) h1
    have this : ∀ i, i < len → ∃ a : α, (∃ c, k.K W a c ∧ ∀ j u, c[j]? = some u → W.cell? (ad.add (i * k.sz + j)) = some u) ∧ G a := by
      intro i hi
      obtain ⟨cs', h1, h2⟩ := hx i (by omega)
      obtain ⟨a, ha, hg⟩ := hk h2 (fun q hq => hS q (by
        simp only [DataW.weights, hu]
        refine List.mem_cons_of_mem _ (List.mem_append_left _ (mem_weightsAll (List.mem_map.2 ⟨i, List.mem_range.2 hi, rfl⟩) q hq))))
      rw [hsz] at h1
      obtain ⟨_, hlen, hat⟩ := World.cells?_some h1
      refine ⟨a, ⟨cs', ha, fun j u hu => ?_⟩, hg⟩
      have hj := (List.getElem?_eq_some_iff.1 hu).1
      rw [← Go.Deep.add_add, hat j (by omega)]
      exact hu
    obtain ⟨f, hf⟩ : ∃ f : Fin len → α, ∀ i : Fin len, (∃ c, k.K W (f i) c ∧ ∀ j u, c[j]? = some u → W.cell? (ad.add (i.val * k.sz + j)) = some u) ∧ G (f i) :=
      ⟨fun i => Classical.choose (this i.val i.isLt), fun i => Classical.choose_spec (this i.val i.isLt)⟩
    have hget : ∀ (j : Nat) (hj : j < len), (List.ofFn f)[j]? = some (f ⟨j, hj⟩) := fun j hj => by rw [List.getElem?_ofFn]; simp [hj]
    refine ⟨List.ofFn f, ⟨some ad, m, by simp, by simpa using hl, by simp, by simp [maxLen] at hm ⊢; omega, fun hn => ⟨ad, rfl, fun j p hp => ?_⟩⟩, by rw [List.length_ofFn]; exact hlen, fun y hy => ?_⟩
    · have hj : j < len := by have := (List.getElem?_eq_some_iff.1 hp).1; simpa using this
      rw [hget j hj] at hp
      obtain rfl := Option.some.inj hp
      obtain ⟨c, hc, hcell⟩ := (hf ⟨j, hj⟩).1
      exact ⟨c, k.K_len hc, hc, hcell⟩
    · rw [List.mem_ofFn] at hy
      obtain ⟨i, rfl⟩ := hy
      exact (hf i).2
def SDecF {α : Type} (P : Program) (fs : List Field) (off : Nat) (k : Kd α) (G : α → Prop) : Prop :=
  ∀ {H : Type} {enc : TypeId × Value → H} {W : World} {n : Nat} {cs : List Value}, off + k.sz ≤ cs.length →
    (∀ f ∈ fs, ∃ x, DataW.trod enc P W 0 (fun _ => true) true n f.type ((cs.drop f.offset).take (P.cellsOf f.type)) = some x ∧ Sz P f.type x.1) → ∃ a, k.K W a ((cs.drop off).take k.sz) ∧ G a
theorem sdecf_one {f : Field} {off : Nat} {k : Kd α} {G : α → Prop} (hk : SDec P f.type k G) (ho : f.offset = off) (hs : P.cellsOf f.type = k.sz) : SDecF P [f] off k G := by
  intro H enc W n cs _ h
  obtain ⟨x, hx, hz⟩ := h f (by simp)
  rw [ho, hs] at hx
  exact hk hx hz
theorem sdecf_cons {f : Field} {fs : List Field} {off : Nat} {k : Kd α} {ks : Kd β} {G : α → Prop} {Gs : β → Prop} (hk : SDec P f.type k G) (ho : f.offset = off) (hs : P.cellsOf f.type = k.sz) (hr : SDecF P fs (off + k.sz) ks Gs) :
    SDecF P (f :: fs) off (Kd.pair k ks) (fun x => G x.1 ∧ Gs x.2) := by
  intro H enc W n cs hlen h
  have hlen' : off + (k.sz + ks.sz) ≤ cs.length := hlen
  obtain ⟨x, hx, hz⟩ := h f (by simp)
  rw [ho, hs] at hx
  obtain ⟨a, ha, hg⟩ := hk hx hz
  obtain ⟨b, hb, hgs⟩ := hr (n := n) (cs := cs) (by omega) (fun f' hf' => h f' (List.mem_cons_of_mem _ hf'))
  refine ⟨(a, b), ⟨_, _, ?_, ha, hb⟩, hg, hgs⟩
  show (cs.drop off).take (k.sz + ks.sz) = _
  rw [List.take_add, List.drop_drop]
theorem sdec_struct {T : TypeId} {fs : Array Field} {k : Kd α} {G : α → Prop} {γ : Type} {pr : γ → α} (hu : P.underlying T = some (.struct fs)) (hc : P.cellsOf T = k.sz) (hf : SDecF P fs.toList 0 k G) (hp : ∀ a, ∃ c, pr c = a) :
    SDec P T (Kd.iso k pr) (fun c => G (pr c)) := by
  intro H enc W fuel cs x h hS
  obtain ⟨xs, n, _, rfl, hcl, hxl, hx⟩ := DataW.trod_struct hu h
  obtain ⟨a, ha, hg⟩ := hf (n := n) (cs := cs) (by omega) (fun f hfm => by
    obtain ⟨i, hi, rfl⟩ := List.getElem_of_mem hfm
    have hi' : i < fs.size := by simpa using hi
    have h2 : xs[i]? = some (xs[i]'(by omega)) := List.getElem?_eq_getElem (by omega)
    refine ⟨_, (hx i _ (by rw [Array.getElem?_eq_getElem hi']; rfl)).trans h2, fun q hq => hS q ?_⟩
    simp only [DataW.weights, hu]
    exact DataW.weights_mem_each (j := i) (t := (fs[i]'hi').type) (by simp [hi']) (by rw [List.getElem?_map, h2]; rfl) q hq)
  obtain ⟨c, rfl⟩ := hp a
  refine ⟨c, ?_, hg⟩
  show k.K W (pr c) cs
  rw [List.drop_zero, List.take_of_length_le (by omega)] at ha
  exact ha
end
section
variable {P : Program} {H : Type} {enc : TypeId × Value → H} {W : World} {T : TypeId} {v : Value} {d : DataW H} {p : List MemPlace} {r : Reach} {b : Nat} {α : Type} {k : Kd α} {G : α → Prop}
theorem sarg_agg (hk : SDec P T k G) (hv : ∃ cs, v = .agg cs) (h : DataW.Trod enc P W 0 (fun _ => true) true T v d p) (hz : Sz P T d) : ∃ a cs, v = .agg cs ∧ k.K W a cs.toList ∧ G a := by
  obtain ⟨cs, rfl⟩ := hv
  obtain ⟨fuel, hf⟩ := h
  obtain ⟨a, ha, hg⟩ := hk hf hz
  exact ⟨a, cs, rfl, ha, hg⟩
theorem sarg_slice {e : TypeId} {G : List α → Prop} (hu : P.underlying T = some (.slice e)) (hk : SDec P T (Kd.slice e k) G) (hv : Value.okWide P W r b T v) (h : DataW.Trod enc P W 0 (fun _ => true) true T v d p) (hz : Sz P T d) :
    ∃ A c l, v = .slice A l.length c ∧ l.length ≤ c ∧ k.C W A l.length l ∧ G l := by
  obtain ⟨A0, len, cap, rfl⟩ := okWide_slice hu hv
  obtain ⟨fuel, hf⟩ := h
  obtain ⟨l, ⟨A, c, he, hlc, hC⟩, hg⟩ := hk hf hz
  simp [Value.cells] at he
  obtain ⟨rfl, rfl, rfl⟩ := he
  exact ⟨A0, cap, l, rfl, hlc, hC, hg⟩
end
end Go.Proofs.YtagpldkgkchfcaaDoor.Dec
