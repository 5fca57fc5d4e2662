/- Layer 17: what blocks were, as it lies in memory: in maps. -/
import Derived.Test.YtipbgldfomejpaaProg
import Derived.Test.YtipbgldfomejpaaStep
import Derived.Test.YtipbgldfomejpaaDec
import Derived.DeepKeys4
namespace Go.Proofs.Ytipbgldfomejpaa.Snap
set_option linter.unusedSimpArgs false
set_option linter.unusedVariables false
open Go.RowKit Go.Proofs.YtipbgldfomejpaaW.PrintWords Go.Proofs.YtipbgldfomejpaaW.PrintLast Go.Proofs.YtipbgldfomejpaaW.PrintMore Arr

structure Old where
  blk : Int
  has : Bool
  data : List Int
def zeros (n : Nat) : List Int := List.replicate n 0
def old0 : Old := ⟨0, false, zeros 32⟩
def oldC (o : Old) : List Value := [.int .i64 o.blk, .bool o.has] ++ encs (Value.int .u8) o.data
abbrev OB (w : World) (g : Nat) (o : Old) : Prop := Blk w g 29 (oldC o)
def k29 : Kd Old := Kd.iso (Kd.pair (Kd.int .i64) (Kd.pair Kd.bool (Dec.ints .u8 32))) (fun o : Old => (o.blk, o.has, o.data))
theorem k29_open {w : World} {o : Old} {cs : List Value} (h : k29.K w o cs) : cs = oldC o ∧ o.data.length = 32 := by
  obtain ⟨_, _, rfl, rfl, ⟨_, _, rfl, rfl, h5, h6⟩⟩ := h
  refine ⟨?_, h5⟩
  rw [h6]; rfl
theorem k29_mkM (w : World) (base : Nat) (ok : Nat → Prop) (o : Old) (h : o.data.length = 32) : k29.M w base ok o (oldC o) :=
  ⟨[.int .i64 o.blk], _, rfl, rfl, ⟨[.bool o.has], encs (Value.int .u8) o.data, rfl, rfl, ⟨h, rfl⟩⟩⟩
theorem k29_sz : k29.sz = 34 := by kernel_rfl
def gOld (o : Old) : Prop := (Lit.int .i64 o.blk).wf = true ∧ True ∧ ∀ x ∈ o.data, (Lit.int .u8 x).wf = true
section
attribute [local irreducible] Dec.Dec Dec.DecF
theorem dec29 : Dec.Dec Try.prog 29 k29 gOld :=
  Dec.dec_struct (k := Kd.pair (Kd.int .i64) (Kd.pair Kd.bool (Dec.ints .u8 32))) (G := fun x => (Lit.int .i64 x.1).wf = true ∧ True ∧ ∀ y ∈ x.2.2, (Lit.int .u8 y).wf = true) (pr := fun o : Old => (o.blk, o.has, o.data)) Try.underlying29 (by kernel_rfl)
    (Dec.decf_cons (Dec.dec_int Try.underlying3) rfl (by kernel_rfl) (Dec.decf_cons (Dec.dec_bool Try.underlying4) rfl (by kernel_rfl) (Dec.decf_one (Dec.dec_ints Try.underlying27 Try.underlying5 (by kernel_rfl) (by kernel_rfl)) rfl (by kernel_rfl)))) (fun ⟨a, b, c⟩ => ⟨⟨a, b, c⟩, rfl⟩)
theorem dec32 : Dec.Dec Try.prog 32 (Kd.slice 29 k29) (fun l => ∀ x ∈ l, gOld x) := Dec.dec_slice Try.underlying32 dec29 (by kernel_rfl)
end
theorem oldC_len (o : Old) (h : o.data.length = 32) : (oldC o).length = 34 := by simp [oldC, encs, h]
theorem oldC_one (o : Old) : ∀ v ∈ oldC o, v.oneCell' = true := by
  intro v hv
  unfold oldC encs at hv
  simp only [List.mem_append, List.mem_cons, List.not_mem_nil, or_false, List.mem_map] at hv
  rcases hv with (rfl | rfl) | ⟨x, _, rfl⟩ <;> rfl
theorem size29 : (Try.prog.info? 29).map (·.size) = some 34 := by kernel_rfl
theorem zero29 : (Try.prog.info? 29).map (·.zero) = some (some (.agg (oldC old0).toArray)) := by kernel_rfl
theorem info29 : (Try.prog.info? 29).map (fun i => (i.zero, i.size, i.bytes)) = some (some (.agg (oldC old0).toArray), k29.sz, 48) := by kernel_rfl
theorem info3 : (Try.prog.info? 3).map (fun i => (i.zero, i.size, i.bytes)) = some (some (.int .i64 0), 1, 8) := by kernel_rfl
def og (l : List Old) (i : Nat) : Old := l.getD i old0
theorem og_at (l : List Old) (i : Nat) (h : i < l.length) : l[i]? = some (og l i) := by
  unfold og; rw [List.getD_eq_getElem?_getD, List.getElem?_eq_getElem h]; rfl
theorem og_mem (l : List Old) (i : Nat) (h : i < l.length) : og l i ∈ l := by
  unfold og; rw [List.getD_eq_getElem?_getD, List.getElem?_eq_getElem h]; exact List.getElem_mem h
theorem take_og (l : List Old) (k : Nat) (h : k < l.length) : l.take (k + 1) = l.take k ++ [og l k] := by
  rw [List.take_add_one, og_at l k h]; rfl
abbrev CO (w : World) (A : Option Addr) (n : Nat) (l : List Old) : Prop := k29.C w A n l
theorem at29 {w : World} {A : Option Addr} {n : Nat} {l : List Old} (h : CO w A n l) (i : Nat) (h1 : i < n) : ∃ ad, A = some ad ∧ (∀ j u, (oldC (og l i))[j]? = some u → w.cell? ((ad.add (i * 34)).add j) = some u) ∧ (og l i).data.length = 32 := by
  have h2 := Kd.C_get h old0 (i : Int) (by omega) (by omega)
  rw [k29_sz, Int.toNat_natCast] at h2
  obtain ⟨ad, c, e, _, hK, hc0⟩ := h2
  obtain ⟨h3, hl⟩ := k29_open hK
  rw [h3] at hc0
  refine ⟨ad, e, fun j u hu => ?_, hl⟩
  rw [add_add]
  exact hc0 j u hu
section
variable {ops : Array Oper} {rest : List Oper} {o : Oper} {a : Act} {Q : Exit → Act → World → Prop} {w0 W : World} {B : Nat}
theorem load29 (hgd : o.guard = none) (p : Operand) (ho : o.op = .load 29 p) (ad : Addr) (hp : a.eval p = .pointer (some ad)) (f : Old) (hl : f.data.length = 32) (hc : ∀ j u, (oldC f)[j]? = some u → W.cell? (ad.add j) = some u)
    (h : wpList Try.prog ops Q rest (a.put o.dst (.agg (oldC f).toArray)) W) : wpList Try.prog ops Q (o :: rest) a W :=
  wpl_load hgd 29 p ho ad hp (oldC f) Try.underlying29 rfl (by rw [oldC_len f hl]; exact size29) hc h
theorem loadB29 (hgd : o.guard = none) (p : Operand) (ho : o.op = .load 29 p) (g : Nat) (hp : a.eval p = .pointer (some ⟨g, 0, none⟩)) (f : Old) (hl : f.data.length = 32) (hb : OB W g f)
    (h : wpList Try.prog ops Q rest (a.put o.dst (.agg (oldC f).toArray)) W) : wpList Try.prog ops Q (o :: rest) a W :=
  wpl_loadAll hgd 29 p ho g hp hb Try.underlying29 rfl (by rw [oldC_len f hl]; exact size29) h
theorem alloc29 (hgd : o.guard = none) (ho : o.op = .alloc 29)
    (h : ∀ w1 g, W.heap.size ≤ g → OB w1 g old0 → W.grownBy w1 none → wpList Try.prog ops Q rest (a.put o.dst (.pointer (some ⟨g, 0, none⟩))) w1) : wpList Try.prog ops Q (o :: rest) a W :=
  wpl_alloc hgd 29 ho _ zero29 _ rfl h
theorem store29 (hgd : o.guard = none) (hN : o.dst = none) (p x : Operand) (ho : o.op = .store 29 p x) (g : Nat) (hp : a.eval p = .pointer (some ⟨g, 0, none⟩)) (f : Old) (hl : f.data.length = 32) (hx : a.eval x = .agg (oldC f).toArray) {M : Old} (hM : M.data.length = 32) (hb : OB W g M)
    (h : ∀ w1, OB w1 g f → W.grownBy w1 (some g) → w1.heap.size = W.heap.size → wpList Try.prog ops Q rest a w1) : wpList Try.prog ops Q (o :: rest) a W :=
  wpl_storeAll hgd hN 29 p x ho g hp (oldC f) hx (by rw [oldC_len f hl]; exact size29) (oldC_one f) hb (by rw [oldC_len f hl, oldC_len M hM]) h
theorem box29 (hgd : o.guard = none) (x : Operand) (ho : o.op = .box 29 x) (f : Old) (hx : a.eval x = .agg (oldC f).toArray)
    (h : ∀ w1 g, W.heap.size ≤ g → OB w1 g f → W.grownBy w1 none → wpList Try.prog ops Q rest (a.put o.dst (.pointer (some ⟨g, 0, none⟩))) w1) : wpList Try.prog ops Q (o :: rest) a W :=
  wpl_box hgd 29 x ho _ hx _ rfl h
theorem step_alloc29 {Kc : Act → World → Prop} (N : Tmp) (hd : o.dst = some N) (ho : o.op = .alloc 29)
    (h : ∀ w1 g, W.heap.size ≤ g → OB w1 g old0 → W.grownBy w1 none → Kc (a.put (some N) (.pointer (some ⟨g, 0, none⟩))) w1) : Oper.wp Try.prog o a W Kc Q :=
  step_alloc N hd 29 ho _ zero29 _ rfl h
theorem step_store29 {Kc : Act → World → Prop} (hN : o.dst = none) (p x : Operand) (ho : o.op = .store 29 p x) (g : Nat) (hp : a.eval p = .pointer (some ⟨g, 0, none⟩)) (f : Old) (hl : f.data.length = 32) (hx : a.eval x = .agg (oldC f).toArray) {M : Old} (hM : M.data.length = 32) (hb : OB W g M)
    (h : ∀ w1, OB w1 g f → W.grownBy w1 (some g) → w1.heap.size = W.heap.size → Kc a w1) : Oper.wp Try.prog o a W Kc Q :=
  step_storeAll hN 29 p x ho g hp (oldC f) hx (by rw [oldC_len f hl]; exact size29) (oldC_one f) hb (by rw [oldC_len f hl, oldC_len M hM]) h
end
/-! ### keys -/
def keyV (b n : Int) : Value := .agg #[.int .i64 b, .int .i64 n]
def kl (b n : Int) : Lit := .string (keyBytes [.int .i64 b, .int .i64 n])
theorem law76 : Maps.Keyed Try.prog 76 := Maps.Keyed.of_law (deep_law_laid (m := 200) (by kernel_rfl) (by omega) (of_decide_eq_true (by kernel_rfl)) (by kernel_rfl) (by rw [Try.underlying76]))
theorem law3 : Maps.Keyed Try.prog 3 := Maps.int_keyed Try.underlying3
theorem keyOf76 {b n : Int} (hb : (Lit.int .i64 b).wf = true) (hn : (Lit.int .i64 n).wf = true) : keyOf Try.prog 76 (keyV b n) = some (kl b n) := by
  have hkt : Try.prog.keyType 76 = true := by kernel_rfl
  have hsz : ∃ m, Try.prog.types.size + 1 = (m + 1) + 1 := ⟨Try.prog.types.size - 1, by have : 0 < Try.prog.types.size := of_decide_eq_true (by kernel_rfl); omega⟩
  obtain ⟨m, hm⟩ := hsz
  have hcells : Try.prog.cellsOf 76 = 2 := by kernel_rfl
  have hc3 : Try.prog.cellsOf 3 = 1 := by kernel_rfl
  unfold keyOf keyV
  rw [Try.underlying76]
  show (if _ then _ else _) = _
  rw [if_pos (by rw [hkt]; simp [Value.formed, Try.underlying76, hcells]), hm]
  have h1 : Try.prog.keyLits (m + 1 + 1) 76 [.int .i64 b, .int .i64 n] = some [.int .i64 b, .int .i64 n] := by
    unfold Program.keyLits
    rw [Try.underlying76]
    show (if _ then _ else _) = _
    rw [if_pos ⟨hcells.symm ▸ rfl, by kernel_rfl⟩]
    simp [hc3, lits_int Try.underlying3 hb, lits_int Try.underlying3 hn]
  show ((Try.prog.keyLits (m + 1 + 1) 76 [.int .i64 b, .int .i64 n]).map fun ls => Lit.string (keyBytes ls)) = _
  rw [h1]
  rfl
theorem keyOf3 {b : Int} (hb : (Lit.int .i64 b).wf = true) : keyOf Try.prog 3 (.int .i64 b) = some (.int .i64 b) := Maps.keyOf_int_mk Try.underlying3 hb
theorem kl_inj {b n b' n' : Int} (hb : (Lit.int .i64 b).wf = true) (hn : (Lit.int .i64 n).wf = true) (hb' : (Lit.int .i64 b').wf = true) (hn' : (Lit.int .i64 n').wf = true) (h : kl b n = kl b' n') : b = b' ∧ n = n' := by
  have h1 := keyOf76 hb hn
  have h2 := keyOf76 hb' hn'
  rw [← h] at h2
  have := law76.inj h1 h2
  unfold keyV at this
  injection this with this
  simp at this
  exact this
/-! ### the map of what blocks were -/
abbrev Key := Int × Int
abbrev Cont := List (Key × Old)
def RV (v : Value) : Option (DataW Value × List MemPlace) := some (.held v, [])
def ent (p : Key × Old) : Lit × DataW Value := (kl p.1.1 p.1.2, .held (.agg (oldC p.2).toArray))
def gKey (p : Key × Old) : Prop := (Lit.int .i64 p.1.1).wf = true ∧ (Lit.int .i64 p.1.2).wf = true ∧ p.2.data.length = 32
structure Fits (es : List (Lit × DataW Value)) (L : Cont) : Prop where
  perm : es.Perm (L.map ent)
  one : (L.map Prod.fst).Nodup
  good : ∀ p ∈ L, gKey p
def OldMap (w : World) (ob n : Nat) (L : Cont) : Prop := ∃ es, w.ownsMap Try.prog 76 RV ob n (.map es) ∧ Fits es L
theorem isKey (b n : Int) : WideAt.IsKeyLit (kl b n) := trivial
theorem same_kl {b n b' n' : Int} (hb : (Lit.int .i64 b).wf = true) (hn : (Lit.int .i64 n).wf = true) (hb' : (Lit.int .i64 b').wf = true) (hn' : (Lit.int .i64 n').wf = true) : (kl b n).sameKey (kl b' n') = decide ((b, n) = (b', n')) := by
  by_cases h : (b, n) = (b', n')
  · have e : b = b' ∧ n = n' := by simpa using h
    rw [e.1, e.2, WideAt.sameKey_self (isKey _ _)]; simp
  · rw [Maps.sameKey_ne (fun e => h (by obtain ⟨h1, h2⟩ := kl_inj hb hn hb' hn' e; rw [h1, h2]))]
    simp [h]
def fnd (L : Cont) (k : Key) : Option Old := (L.find? fun p => p.1 == k).map Prod.snd
theorem any_key {b n : Int} (hb : (Lit.int .i64 b).wf = true) (hn : (Lit.int .i64 n).wf = true) : ∀ L : Cont, (∀ p ∈ L, gKey p) → (L.any fun p => (ent p).1.sameKey (kl b n)) = L.any fun p => p.1 == (b, n)
  | [], _ => rfl
  | p :: L, h => by
    have hp := h p (List.mem_cons_self ..)
    rw [List.any_cons, List.any_cons, any_key hb hn L (fun q hq => h q (List.mem_cons_of_mem _ hq))]
    congr 1
    rw [show (ent p).1 = kl p.1.1 p.1.2 from rfl, same_kl hp.1 hp.2.1 hb hn, Bool.eq_iff_iff]
    simp
    exact ⟨fun h => Prod.ext h.1 h.2, fun h => by rw [h]; exact ⟨rfl, rfl⟩⟩
theorem fnd_some (L : Cont) (k : Key) : (fnd L k).isSome = L.any fun p => p.1 == k := by
  unfold fnd
  rw [Option.isSome_map, List.isSome_find?]
theorem fnd_mem {L : Cont} {k : Key} {o : Old} (h : fnd L k = some o) : (k, o) ∈ L := by
  unfold fnd at h
  obtain ⟨p, hp, rfl⟩ := Option.map_eq_some_iff.1 h
  have h1 := List.find?_some hp
  have h2 := List.mem_of_find?_eq_some hp
  have : p.1 = k := by simpa using h1
  rw [← this]; exact h2
theorem Fits.has {es : List (Lit × DataW Value)} {L : Cont} (h : Fits es L) {b n : Int} (hb : (Lit.int .i64 b).wf = true) (hn : (Lit.int .i64 n).wf = true) : Maps.has (.map es) (kl b n) = (fnd L (b, n)).isSome := by
  rw [Maps.has_eq, h.perm.any_eq, List.any_map, fnd_some]
  exact any_key hb hn L h.good
theorem Fits.pair {es : List (Lit × DataW Value)} {L : Cont} (h : Fits es L) : es.Pairwise (fun p q => p.1 ≠ q.1) := by
  refine (h.perm.symm.pairwise_iff (fun {a b} (h : a.1 ≠ b.1) => h.symm)).1 ?_
  rw [List.pairwise_map]
  have h1 := h.one
  rw [List.Nodup, List.pairwise_map] at h1
  refine List.Pairwise.imp_of_mem ?_ h1
  intro a b ha hb hne e
  obtain ⟨e1, e2⟩ := kl_inj (h.good a ha).1 (h.good a ha).2.1 (h.good b hb).1 (h.good b hb).2.1 e
  exact hne (Prod.ext e1 e2)
theorem Fits.at {es : List (Lit × DataW Value)} {L : Cont} (h : Fits es L) {b n : Int} (hb : (Lit.int .i64 b).wf = true) (hn : (Lit.int .i64 n).wf = true) (z : Old) : (DataW.map es).atKey (kl b n) (.held (.agg (oldC z).toArray)) = .held (.agg (oldC ((fnd L (b, n)).getD z)).toArray) := by
  cases hf : fnd L (b, n) with
  | none =>
    refine Maps.atKey_of_not_has ?_ _
    rw [h.has hb hn, hf]; rfl
  | some o =>
    refine WideAt.atKey_mem _ (isKey b n) h.pair (d := .held (.agg (oldC o).toArray)) ?_
    exact h.perm.symm.mem_iff.1 (List.mem_map.2 ⟨((b, n), o), fnd_mem hf, rfl⟩)
theorem Fits.size {es : List (Lit × DataW Value)} {L : Cont} (h : Fits es L) : Maps.size (.map es) = L.length := by
  rw [Maps.size_eq, h.perm.length_eq, List.length_map]
theorem Fits.put {es : List (Lit × DataW Value)} {L : Cont} (h : Fits es L) {b n : Int} {o : Old} (hb : (Lit.int .i64 b).wf = true) (hn : (Lit.int .i64 n).wf = true) (ho : o.data.length = 32) (hno : fnd L (b, n) = none) :
    ∃ es', (DataW.map es).put (kl b n) (.held (.agg (oldC o).toArray)) = .map es' ∧ Fits es' (L ++ [((b, n), o)]) := by
  have hnh : Maps.has (.map es) (kl b n) = false := by rw [h.has hb hn, hno]; rfl
  have hany : (L.any fun p => p.1 == (b, n)) = false := by rw [← fnd_some, hno]; rfl
  refine ⟨_, DataW.put_eq .., ?_, ?_, ?_⟩
  · unfold ChangeMaps.putKey
    refine (WideShapes.insert_perm _ _).trans ?_
    have hself : es.filter (ChangeMaps.notKey (kl b n)) = es := by
      refine List.filter_eq_self.2 (fun p hp => ?_)
      rw [Maps.has_eq, List.any_eq_false] at hnh
      have := hnh p hp
      unfold ChangeMaps.notKey
      simpa using this
    rw [hself, List.map_append]
    exact (h.perm.cons _).trans (List.perm_append_singleton _ _).symm
  · rw [List.map_append, List.nodup_append]
    refine ⟨h.one, by simp, fun a ha b' hb' e => ?_⟩
    obtain ⟨p, hp, rfl⟩ := List.mem_map.1 ha
    have hb'' : b' = (b, n) := by simpa using hb'
    rw [List.any_eq_false] at hany
    exact hany p hp (by rw [e, hb'']; simp)
  · intro p hp
    rcases List.mem_append.1 hp with hp | hp
    · exact h.good p hp
    · obtain rfl := List.mem_singleton.1 hp
      exact ⟨hb, hn, ho⟩
theorem Fits.del {es : List (Lit × DataW Value)} {L : Cont} (h : Fits es L) (f : Key → Bool) (pd : Lit → DataW Value → Bool) (hpd : ∀ p ∈ L, pd (ent p).1 (ent p).2 = f p.1) :
    ∃ es', Lib.deleteFuncD pd (.map es) = .map es' ∧ Fits es' (L.filter fun p => !f p.1) := by
  refine ⟨_, rfl, ?_, ?_, fun p hp => h.good p (List.mem_filter.1 hp).1⟩
  · refine (h.perm.filter _).trans ?_
    rw [List.filter_map]
    refine List.Perm.map _ ?_
    rw [List.filter_congr (q := fun p => !f p.1) (fun p hp => by simp [hpd p hp])]
  · have : (L.filter fun p => !f p.1).map Prod.fst = (L.map Prod.fst).filter fun k => !f k := by
      rw [List.filter_map]; rfl
    rw [this]
    exact h.one.filter _
end Go.Proofs.Ytipbgldfomejpaa.Snap
