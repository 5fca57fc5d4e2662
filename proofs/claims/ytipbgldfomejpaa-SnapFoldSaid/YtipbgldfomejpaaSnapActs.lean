/- Layer 17: the snapshots and the document, act by act. -/
import Derived.Test.YtipbgldfomejpaaSnapRDo
namespace Go.Proofs.Ytipbgldfomejpaa.Snap
set_option linter.unusedSimpArgs false
set_option linter.unusedVariables false
open Go.RowKit Go.Proofs.YtipbgldfomejpaaW.PrintWords Go.Proofs.YtipbgldfomejpaaW.PrintLast Go.Proofs.YtipbgldfomejpaaW.PrintMore Arr

theorem DocC.keep {W w w1 : World} {T : Nat} {A : Option Addr} {all : All} (h : DocC W T w A all) (hk : ∀ j, T ≤ j → j < w.heap.size → w1.heap[j]? = w.heap[j]?) : DocC W T w1 A all := by
  refine ⟨⟨h.1.1, h.1.2.1, fun hp => ?_⟩, h.2⟩
  obtain ⟨ad, e, hc⟩ := h.1.2.2 hp
  refine ⟨ad, e, fun j p hj => ?_⟩
  obtain ⟨c, h1, h2, h3⟩ := hc j p hj
  refine ⟨c, h1, h2, fun i u hu => ?_⟩
  have h4 := h3 i u hu
  have hb := h.2 ad e (by have := h.1.1; omega)
  have hlt := World.block_lt_of_cell? w _ h4
  have he : (ad.add (j * (kA W).sz + i)).block = ad.block := by unfold Addr.add; split <;> rfl
  rw [he] at hlt
  exact (World.cell?_of_block (w := w) (by rw [he]; exact hk _ hb hlt)).trans h4
theorem DocC.below {W w w1 : World} {T : Nat} {A : Option Addr} {all : All} (h : DocC W T w A all) (hb : Below w.heap.size w w1) : DocC W T w1 A all := ⟨Kd.C_below h.1 hb, h.2⟩
theorem blk_below {w w1 : World} {g : Nat} {t : TypeId} {cs : List Value} (h : Blk w g t cs) (hb : Below w.heap.size w w1) : Blk w1 g t cs := (hb.block g (Blk.lt h)).trans h
/-- The snapshots, and the document beside them. -/
structure Both (W : World) (T : Nat) (w : World) (s ob lb dg : Nat) (st : All × Nat) (m : Nat) : Prop where
  doc : DocAt w s ob lb st m
  bel : Below W.heap.size W w
  ref : ∃ A c, Blk w dg 45 (docV A st.1.length c st.2) ∧ DocC W T w A st.1
  ts : s < T ∧ ob < T ∧ lb < T ∧ dg < T ∧ T ≤ w.heap.size
  lo : W.heap.size ≤ s ∧ W.heap.size ≤ ob ∧ W.heap.size ≤ lb ∧ W.heap.size ≤ dg
  ne : dg ≠ s ∧ dg ≠ ob ∧ dg ≠ lb
section
variable {W w w1 : World} {T s ob lb dg m : Nat} {st : All × Nat}
theorem Both.below (h : Both W T w s ob lb dg st m) (hb : Below w.heap.size w w1) : Both W T w1 s ob lb dg st m := by
  obtain ⟨A, c, h1, h2⟩ := h.ref
  exact ⟨h.doc.below' hb, step_bel h.bel hb, ⟨A, c, blk_below h1 hb, h2.below hb⟩, ⟨h.ts.1, h.ts.2.1, h.ts.2.2.1, h.ts.2.2.2.1, Nat.le_trans h.ts.2.2.2.2 hb.size⟩, h.lo, h.ne⟩
end
theorem act_calls2 {W wr : World} {T : Nat} {A : Option Addr} {l : List Act} (HC : Kd.C k48 W A l.length l) (HG : gActs l) {s ob lb dg k : Nat} (HD : Both W T wr s ob lb dg (doc (l.take k)) (oldsTo l k)) (hk : k < l.length) (hf : tot l l.length ≤ 200) :
    ∃ ad Ao co, A = some ad ∧ (∀ j u, (actC (ac l k) Ao co)[j]? = some u → W.cell? ((ad.add (k * 3)).add j) = some u) ∧ (ac l k).olds.length ≤ co ∧ CO W Ao (ac l k).olds.length (ac l k).olds ∧
      Calls Try.prog 18 #[.pointer (some ⟨s, 0, none⟩), .agg (actC (ac l k) Ao co).toArray] wr fun e w' => e = .returned (.tuple #[]) ∧ DocAt w' s ob lb (doc (l.take (k + 1))) (oldsTo l (k + 1)) ∧ Below W.heap.size W w' ∧ Moves wr w' s ob lb := by
  obtain ⟨ad, Ao, co, e, hc', hlc, hCO'⟩ := at48v HC k hk
  have HB := HD.bel
  have ho := oldsTo_le l (k + 1) (by omega)
  have ho' := oldsTo_succ l k hk
  have hl := doTo_len l k (by omega)
  have hll := oldsTo_le l 0 (by omega)
  refine ⟨ad, Ao, co, e, hc', hlc, hCO', (do_calls wr s ob lb _ _ HD.doc Ao co (ac l k) (fun w1 hM => Kd.C_below hCO' (hM.below _ W HB HB.size HD.lo.1 HD.lo.2.1 HD.lo.2.2.1)) (HG.2 _ (ac_mem l k hk)) (by show (doTo doc0 (l.take k)).1.length ≤ _; unfold doc0; omega) (by omega)).mono ?_⟩
  rintro x w' ⟨hx, hD, hM⟩
  refine ⟨hx, ?_, hM.below _ W HB HB.size HD.lo.1 HD.lo.2.1 HD.lo.2.2.1, hM⟩
  unfold doc at hD ⊢
  rw [doTo_succ _ _ _ hk, ho']
  exact hD
theorem RefIs.unique {all : All} {gone : Nat} {b n : Int} {o o' : Old} {ok ok' : Bool} (h : RefIs all gone b n o ok) (h' : RefIs all gone b n o' ok') : o = o' ∧ ok = ok' := (read_ref h).unique (read_ref h')
section
variable {P : Program} {ops : Array Oper} {o : Oper} {a : Go.Act} {Q : Exit → Go.Act → World → Prop} {W : World} {Kc : Go.Act → World → Prop}
theorem step_loadAll (N : Tmp) (hd : o.dst = some N) (T : TypeId) (p : Operand) (ho : o.op = .load T p) (g : Nat) (hp : a.eval p = .pointer (some ⟨g, 0, none⟩)) {t : TypeId} {cs : List Value} (hb : Blk W g t cs) {d : TypeDesc} (hu : P.underlying T = some d) (hdw : wideT d = true)
    (hi : (P.info? T).map (·.size) = some cs.length) (h : Kc (a.put (some N) (.agg cs.toArray)) W) : Oper.wp P o a W Kc Q := by
  have hl := run_loadVar_row W g t T cs.toArray (0, 0) d hb hu (by cases d <;> simp_all [wideT]) (by rw [hi]; simp)
  have hrun : (execOp a.eval o).run P W = .ok (.value (.agg cs.toArray)) W := by
    unfold execOp
    simp only [ho, hp, Instr.loadAt, Instr.sureAddr, Sem.run_bind, Sem.run_pure, Result.andThen_ok, hl]
  unfold Oper.wp
  rw [hrun, ← hd] at *
  exact h
end
end Go.Proofs.Ytipbgldfomejpaa.Snap
