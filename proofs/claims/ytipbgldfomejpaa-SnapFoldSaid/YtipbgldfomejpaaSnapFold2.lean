/- Layer 17's statement SnapFold: what its walk reads and writes. -/
import Derived.Test.YtipbgldfomejpaaSnapFold1
import Derived.Test.YtipbgldfomejpaaSnapLaws4
namespace Go.Proofs.Ytipbgldfomejpaa.Snap
set_option linter.unusedSimpArgs false
set_option linter.unusedVariables false
open Go.RowKit Go.Proofs.YtipbgldfomejpaaW.PrintWords Go.Proofs.YtipbgldfomejpaaW.PrintLast Go.Proofs.YtipbgldfomejpaaW.PrintMore Arr

/-! ### The steps -/
structure Stp where
  block : Int
  data : List Int
  trim : Bool
  more : Bool
def stp0 : Stp := ⟨0, zeros 32, false, false⟩
def stpC (x : Stp) : List Value := [.int .u8 x.block] ++ (encs (Value.int .u8) x.data ++ [.bool x.trim, .bool x.more])
def k34 : Kd Stp := Kd.iso (Kd.pair (Kd.int .u8) (Kd.pair (Dec.ints .u8 32) (Kd.pair Kd.bool Kd.bool))) (fun x : Stp => (x.block, x.data, x.trim, x.more))
def gStp (x : Stp) : Prop := (Lit.int .u8 x.block).wf = true ∧ (∀ y ∈ x.data, (Lit.int .u8 y).wf = true) ∧ True ∧ True
section
attribute [local irreducible] Dec.Dec Dec.DecF
theorem dec34 : Dec.Dec Try.prog 34 k34 gStp :=
  Dec.dec_struct (k := Kd.pair (Kd.int .u8) (Kd.pair (Dec.ints .u8 32) (Kd.pair Kd.bool Kd.bool))) (G := fun x => (Lit.int .u8 x.1).wf = true ∧ (∀ y ∈ x.2.1, (Lit.int .u8 y).wf = true) ∧ True ∧ True) (pr := fun x : Stp => (x.block, x.data, x.trim, x.more)) Try.underlying34 (by kernel_rfl)
    (Dec.decf_cons (Dec.dec_int Try.underlying5) rfl (by kernel_rfl) (Dec.decf_cons (Dec.dec_ints Try.underlying27 Try.underlying5 (by kernel_rfl) (by kernel_rfl)) rfl (by kernel_rfl) (Dec.decf_cons (Dec.dec_bool Try.underlying4) rfl (by kernel_rfl) (Dec.decf_one (Dec.dec_bool Try.underlying4) rfl (by kernel_rfl))))) (fun ⟨a, b, c, d⟩ => ⟨⟨a, b, c, d⟩, rfl⟩)
theorem dec22 : Dec.Dec Try.prog 22 (Kd.slice 34 k34) (fun l => ∀ x ∈ l, gStp x) := Dec.dec_slice Try.underlying22 dec34 (by kernel_rfl)
end
theorem k34_sz : k34.sz = 35 := by kernel_rfl
def sg (l : List Stp) (i : Nat) : Stp := l.getD i stp0
theorem sg_mem (l : List Stp) (i : Nat) (h : i < l.length) : sg l i ∈ l := by
  unfold sg; rw [List.getD_eq_getElem?_getD, List.getElem?_eq_getElem h]; exact List.getElem_mem h
theorem at34 {w : World} {A : Option Addr} {n : Nat} {l : List Stp} (h : Kd.C k34 w A n l) (i : Nat) (h1 : i < n) : ∃ ad, A = some ad ∧ (∀ j u, (stpC (sg l i))[j]? = some u → w.cell? ((ad.add (i * 35)).add j) = some u) ∧ (sg l i).data.length = 32 := by
  have h2 := Kd.C_get h stp0 (i : Int) (by omega) (by omega)
  rw [k34_sz, Int.toNat_natCast] at h2
  obtain ⟨ad, c, e, _, hK, hc0⟩ := h2
  obtain ⟨_, _, rfl, rfl, ⟨_, _, rfl, ⟨hl, rfl⟩, ⟨_, _, rfl, rfl, rfl⟩⟩⟩ := hK
  refine ⟨ad, e, fun j u hu => ?_, hl⟩
  rw [Addr.add_add]
  exact hc0 j u hu
/-! ### Rows of eight -/
theorem oldC_one' (l : List Old) : ∀ u ∈ flat l, u.oneCell' = true := fun u hu => by
  obtain ⟨o, _, h⟩ := List.mem_flatMap.1 hu
  exact oldC_one o u h
def kN : Kd (List Old) := Dec.flatKd 272 (fun l cs => l.length = 8 ∧ (∀ o ∈ l, okO o) ∧ cs = flat l) (fun h => by rw [h.2.2, flat_len _ h.2.1, h.1]) (fun h u hu => by rw [h.2.2] at hu; exact oldC_one' _ u hu)
theorem kN_sz : kN.sz = 272 := rfl
theorem kN_mk (w : World) (base : Nat) (ok : Nat → Prop) {l : List Old} (h1 : l.length = 8) (h2 : ∀ o ∈ l, okO o) : kN.M w base ok l (flat l) := ⟨h1, h2, rfl⟩
theorem kN_open {w : World} {l : List Old} {cs : List Value} (h : kN.K w l cs) : l.length = 8 ∧ (∀ o ∈ l, okO o) ∧ cs = flat l := h
theorem cells_agg (xs : Array Value) : (Value.agg xs).cells = xs := rfl
theorem zero30 : (Try.prog.info? 30).map (·.zero) = some (some (.agg (flat (List.replicate 8 old0)).toArray)) := by kernel_rfl
theorem info30 : (Try.prog.info? 30).map (fun i => (i.zero, i.size, i.bytes)) = some (some (.agg (flat (List.replicate 8 old0)).toArray), 272, 384) := by kernel_rfl
theorem size30 : (Try.prog.info? 30).map (·.size) = some 272 := by kernel_rfl
theorem size27 : (Try.prog.info? 27).map (·.size) = some 32 := by kernel_rfl
theorem flat_data {l : List Old} (hl : ∀ o ∈ l, okO o) {i : Nat} (hi : i < l.length) {d : List Int} (hd : d.length = 32) :
    (flat l).take (i * 34 + 2) ++ encs (Value.int .u8) d ++ (flat l).drop (i * 34 + 2 + (encs (Value.int .u8) d).length) = flat (l.set i { og l i with data := d }) := by
  have hed : (encs (Value.int .u8) d).length = 32 := by simp [encs, hd]
  rw [hed, ← flat_put l hl i hi, show i * 34 + 2 + 32 = i * 34 + 34 by omega]
  congr 1
  have h1 : (flat l).take (i * 34 + 2) = (flat l).take (i * 34) ++ [.int .i64 (og l i).blk, .bool (og l i).has] := by
    have a0 := flat_at l hl i hi 0 (by omega)
    have a1 := flat_at l hl i hi 1 (by omega)
    rw [show i * 34 + 2 = i * 34 + 1 + 1 by omega, List.take_add_one, List.take_add_one, a1, show (flat l)[i * 34]? = _ from a0]
    simp [oldC]
  rw [h1, List.append_assoc]
  rfl
section
variable {ops : Array Oper} {rest : List Oper} {o : Oper} {a : Go.Act} {Q : Exit → Go.Act → World → Prop} {w0 W : World} {B : Nat}
theorem alloc30 {zs : List Value} (hzs : zs = flat (List.replicate 8 old0)) (hgd : o.guard = none) (ho : o.op = .alloc 30)
    (h : ∀ w1 g, W.heap.size ≤ g → Blk w1 g 30 zs → W.grownBy w1 none → wpList Try.prog ops Q rest (a.put o.dst (.pointer (some ⟨g, 0, none⟩))) w1) : wpList Try.prog ops Q (o :: rest) a W := by
  have z0 : (Try.prog.info? 30).map (·.zero) = some (some (.agg zs.toArray)) := by rw [hzs]; exact zero30
  exact wpl_alloc hgd 30 ho (.agg zs.toArray) z0 zs rfl h
theorem load30 (hgd : o.guard = none) (p : Operand) (ho : o.op = .load 30 p) (g : Nat) (hp : a.eval p = .pointer (some ⟨g, 0, none⟩)) {l : List Old} (h8 : l.length = 8) (hl : ∀ o ∈ l, okO o) (hb : Blk W g 30 (flat l))
    (h : wpList Try.prog ops Q rest (a.put o.dst (.agg (flat l).toArray)) W) : wpList Try.prog ops Q (o :: rest) a W :=
  wpl_loadAll hgd 30 p ho g hp hb Try.underlying30 rfl (by rw [flat_len l hl, h8]; exact size30) h
theorem app30 {ok : Nat → Prop} (hgd : o.guard = none) (s x : Operand) (ho : o.op = .call { callee := .builtin .append, args := #[s, x], argTypes := #[31, 31] })
    (v : Value) (xs : List (List Old)) (l : List Old) (hs : a.eval s = v) (hx : a.eval x = .slice (some ⟨W.heap.size, 0, none⟩) 1 1) (h8 : l.length = 8) (hl : ∀ o ∈ l, okO o) (HO : Kd.R kN 30 W B ok v xs) (hf : ∀ k, W.heap.size ≤ k → ok k) (HB : Below B w0 W) (hb : B ≤ W.heap.size) (hn : xs.length ≤ 10000)
    (h : ∀ v1 w1, Kd.R kN 30 w1 B ok v1 (xs ++ [l]) → Below B w0 w1 → W.grownBy w1 v.ownBlock → wpList Try.prog ops Q rest (a.put o.dst v1) w1) : wpList Try.prog ops Q (o :: rest) a (W.alloc (.cells (flat l).toArray 30)) :=
  Kd.R_append kN (w0 := w0) B hgd s x 31 30 (.agg (flat (List.replicate 8 old0)).toArray) 384 ho Try.underlying31 info30 (by kernel_rfl) (by rw [kN_sz]; omega) (by omega) v xs l (flat l) ok (fun _ => False) hs hx (kN_mk _ _ _ h8 hl) (fun _ hk => hk.elim) hf HO HB hb (by omega)
    fun v1 w1 h1 h2 h3 _ => h v1 w1 h1 h2 h3
theorem app29 {ok : Nat → Prop} (hgd : o.guard = none) (s x : Operand) (ho : o.op = .call { callee := .builtin .append, args := #[s, x], argTypes := #[32, 32] })
    (v : Value) (xs : List Old) (f : Old) (hs : a.eval s = v) (hx : a.eval x = .slice (some ⟨W.heap.size, 0, none⟩) 1 1) (hl : f.data.length = 32) (HO : Kd.R k29 29 W B ok v xs) (hf : ∀ k, W.heap.size ≤ k → ok k) (HB : Below B w0 W) (hb : B ≤ W.heap.size) (hn : xs.length ≤ 10000)
    (h : ∀ v1 w1, Kd.R k29 29 w1 B ok v1 (xs ++ [f]) → Below B w0 w1 → W.grownBy w1 v.ownBlock → wpList Try.prog ops Q rest (a.put o.dst v1) w1) : wpList Try.prog ops Q (o :: rest) a (W.alloc (.cells (oldC f).toArray 29)) :=
  Kd.R_append k29 (w0 := w0) B hgd s x 32 29 (.agg (oldC old0).toArray) 48 ho Try.underlying32 info29 rfl (by rw [k29_sz]; omega) (by omega) v xs f (oldC f) ok (fun _ => False) hs hx (k29_mkM _ _ _ _ hl) (fun _ hk => hk.elim) hf HO HB hb (by omega)
    fun v1 w1 h1 h2 h3 _ => h v1 w1 h1 h2 h3
theorem lit29 (hgd : o.guard = none) (x : Operand) (ho : o.op = .buildSlice 32 1 #[(0, x)]) (f : Old) (hl : f.data.length = 32) (hx : a.eval x = .agg (oldC f).toArray)
    (h : wpList Try.prog ops Q rest (a.put o.dst (.slice (some ⟨W.heap.size, 0, none⟩) 1 1)) (W.alloc (.cells (oldC f).toArray 29))) : wpList Try.prog ops Q (o :: rest) a W :=
  wpl_lit hgd 32 29 x ho Try.underlying32 34 48 _ info29 (by omega) (by decide) (oldC f) (oldC_len f hl) hx h
theorem lit30 (hgd : o.guard = none) (x : Operand) (ho : o.op = .buildSlice 31 1 #[(0, x)]) (l : List Old) (h8 : l.length = 8) (hl : ∀ o ∈ l, okO o) (hx : a.eval x = .agg (flat l).toArray)
    (h : wpList Try.prog ops Q rest (a.put o.dst (.slice (some ⟨W.heap.size, 0, none⟩) 1 1)) (W.alloc (.cells (flat l).toArray 30))) : wpList Try.prog ops Q (o :: rest) a W :=
  wpl_lit hgd 31 30 x ho Try.underlying31 272 384 _ info30 (by omega) (by decide) (flat l) (by rw [flat_len l hl, h8]) hx h
end
theorem lits27 {l : List Int} (hl : l.length = 32) (hw : ∀ x ∈ l, (Lit.int .u8 x).wf = true) : Try.prog.keyLits 3 27 (encs (Value.int .u8) l) = some (l.map (Lit.int .u8)) :=
  lits_ints (P := Try.prog) (D := 1) (T := 27) (e := 5) (n := 32) (k := .u8) Try.underlying27 Try.underlying5 (by kernel_rfl) (by kernel_rfl) hl hw
theorem eqg27 : Try.prog.eqGuardType Try.prog.depth 27 = false := by kernel_rfl
theorem eq27 {l : List Int} (hl : l.length = 32) (hw : ∀ x ∈ l, (Lit.int .u8 x).wf = true) (w : World) : (Op.equal 27 (.agg (encs (Value.int .u8) l).toArray) (.agg (encs (Value.int .u8) l).toArray)).run Try.prog w = .ok true w :=
  run_equal_cells (P := Try.prog) (T := 27) (m := 3) (by decide) (by kernel_rfl) Try.underlying27 rfl (by rw [show (encs (Value.int .u8) l).length = 32 by simp [encs, hl]]; kernel_rfl) (by rw [show (encs (Value.int .u8) l).length = 32 by simp [encs, hl]]; kernel_rfl) (lits27 hl hw) (lits27 hl hw) (by simp) w
/-! ### Where the fold stands in memory -/
structure FW (W w : World) (s ob lb nb : Nat) (vw vo : Value) (S : St) (m : Nat) : Prop where
  doc : DocAt w s ob lb (S.all, 0) m
  bel : Below W.heap.size W w
  now : Blk w nb 30 (flat S.now)
  was : Kd.R kN 30 w W.heap.size (fun k => k ≠ s ∧ k ≠ ob ∧ k ≠ lb ∧ k ≠ nb) vw S.was
  opn : Kd.R k29 29 w W.heap.size (fun k => k ≠ s ∧ k ≠ ob ∧ k ≠ lb ∧ k ≠ nb) vo S.opn
  lo : W.heap.size ≤ s ∧ W.heap.size ≤ ob ∧ W.heap.size ≤ lb ∧ W.heap.size ≤ nb
  ne : nb ≠ s ∧ nb ≠ ob ∧ nb ≠ lb
section
variable {W w w1 : World} {s ob lb nb m : Nat} {vw vo : Value} {S : St}
theorem FW.below (h : FW W w s ob lb nb vw vo S m) (hb : Below w.heap.size w w1) : FW W w1 s ob lb nb vw vo S m :=
  ⟨h.doc.below' hb, step_bel h.bel hb, blk_below h.now hb, Kd.R_below h.was hb, Kd.R_below h.opn hb, h.lo, h.ne⟩
theorem FW.lts (h : FW W w s ob lb nb vw vo S m) : s < w.heap.size ∧ ob < w.heap.size ∧ lb < w.heap.size ∧ nb < w.heap.size := ⟨h.doc.1.blk.lt, h.doc.1.old.lt, h.doc.1.last.lt, Blk.lt h.now⟩
/-- The eight are written. -/
theorem FW.put (h : FW W w s ob lb nb vw vo S m) {l : List Old} (hg : w.grownBy w1 (some nb)) (hb : Blk w1 nb 30 (flat l)) : FW W w1 s ob lb nb vw vo { S with now := l } m :=
  ⟨⟨h.doc.1.grown hg (by simp; have := h.ne; omega) (by simp; have := h.ne; omega) (by simp; have := h.ne; omega), h.doc.2⟩, below_grown h.bel h.lo.2.2.2 h.bel.size hg, hb, Kd.R_grown h.was hg (fun k hk => by simpa using hk.2.2.2), Kd.R_grown h.opn hg (fun k hk => by simpa using hk.2.2.2), h.lo, h.ne⟩
/-- The open ones are written. -/
theorem FW.open_ (h : FW W w s ob lb nb vw vo S m) {v1 : Value} {l : List Old} {S' : St} (hg : w.grownBy w1 vo.ownBlock) (hB : Below W.heap.size W w1) (hR : Kd.R k29 29 w1 W.heap.size (fun k => k ≠ s ∧ k ≠ ob ∧ k ≠ lb ∧ k ≠ nb) v1 l) (hS : S' = { S with opn := l }) : FW W w1 s ob lb nb vw v1 S' m := by
  subst hS
  have hne : ∀ k, k = s ∨ k = ob ∨ k = lb ∨ k = nb → some k ≠ vo.ownBlock := fun k hk e => by
    have := h.opn.1 k e.symm
    omega
  exact ⟨⟨h.doc.1.grown hg (hne _ (.inl rfl)) (hne _ (.inr (.inl rfl))) (hne _ (.inr (.inr (.inl rfl)))), h.doc.2⟩, hB, Blk.grown h.now hg (hne _ (.inr (.inr (.inr rfl)))), Kd.R_over h.was h.opn (fun q hq => by have h30 : q = 30 := (by simpa [kN, Dec.flatKd] using hq); omega) hg, hR, h.lo, h.ne⟩
/-- One more of what was. -/
theorem FW.was_ (h : FW W w s ob lb nb vw vo S m) {v1 : Value} {l : List (List Old)} {S' : St} (hg : w.grownBy w1 vw.ownBlock) (hB : Below W.heap.size W w1) (hR : Kd.R kN 30 w1 W.heap.size (fun k => k ≠ s ∧ k ≠ ob ∧ k ≠ lb ∧ k ≠ nb) v1 l) (hS : S' = { S with was := l }) : FW W w1 s ob lb nb v1 vo S' m := by
  subst hS
  have hne : ∀ k, k = s ∨ k = ob ∨ k = lb ∨ k = nb → some k ≠ vw.ownBlock := fun k hk e => by
    have := h.was.1 k e.symm
    omega
  exact ⟨⟨h.doc.1.grown hg (hne _ (.inl rfl)) (hne _ (.inr (.inl rfl))) (hne _ (.inr (.inr (.inl rfl)))), h.doc.2⟩, hB, Blk.grown h.now hg (hne _ (.inr (.inr (.inr rfl)))), hR, Kd.R_over h.opn h.was (fun q hq => by have h29 : q = 29 := (by simpa [k29, Kd.iso, Kd.pair, Kd.int, Kd.bool, Kd.scalar, Dec.ints, Dec.flatKd] using hq); omega) hg, h.lo, h.ne⟩
end
end Go.Proofs.Ytipbgldfomejpaa.Snap
