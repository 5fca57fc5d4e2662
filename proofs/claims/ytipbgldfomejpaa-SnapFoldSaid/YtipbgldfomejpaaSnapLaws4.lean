/- The walk of layer 17's statement SnapKeeps. -/
import Derived.Test.YtipbgldfomejpaaSnapActs
namespace Go.Proofs.Ytipbgldfomejpaa.Snap
set_option linter.unusedSimpArgs false
set_option linter.unusedVariables false
open Go.RowKit Go.Proofs.YtipbgldfomejpaaW.PrintWords Go.Proofs.YtipbgldfomejpaaW.PrintLast Go.Proofs.YtipbgldfomejpaaW.PrintMore Arr

abbrev RO (w : World) (B : Nat) (ok : Nat → Prop) (v : Value) (l : List Old) : Prop := Kd.R k29 29 w B ok v l
section
variable {ops : Array Oper} {rest : List Oper} {o : Oper} {a : Go.Act} {Q : Exit → Go.Act → World → Prop} {w0 W : World} {B : Nat}
theorem lit0O (hgd : o.guard = none) (N : Tmp) (hd : o.dst = some N) (ho : o.op = .buildSlice 32 0 #[]) (HB : Below B w0 W) (hb : B ≤ W.heap.size)
    (h : ∀ v1 w1, RO w1 B (fun _ => True) v1 [] → Below B w0 w1 → W.grownBy w1 none → wpList Try.prog ops Q rest (a.put o.dst v1) w1) : wpList Try.prog ops Q (o :: rest) a W :=
  Kd.R_lit k29 B 29 hgd hd (xs := ([] : List Old)) (inner := []) (ok := fun _ => True) (okp := fun _ => True) (by simp only [execOp, ho]; kernel_rfl) (Reps.none _ _) (fun _ h => h) trivial HB hb (by simp)
    fun v1 w1 h1 h2 h3 _ => h v1 w1 h1 h2 h3
theorem app_rowO (hgd : o.guard = none) (s x : Operand) (ho : o.op = .call { callee := .builtin .append, args := #[s, x], argTypes := #[32, 32] })
    (v : Value) (l ys : List Old) (A : Option Addr) (m c : Nat) (hs : a.eval s = v) (hx : a.eval x = .slice A m c) (HO : RO W B (fun _ => True) v l) (HR : CO W A m ys) (HB : Below B w0 W) (hb : B ≤ W.heap.size) (hl : l.length + m ≤ 1000000)
    (h : ∀ v1 w1, RO w1 B (fun _ => True) v1 (l ++ ys) → Below B w0 w1 → W.grownBy w1 v.ownBlock → wpList Try.prog ops Q rest (a.put o.dst v1) w1) : wpList Try.prog ops Q (o :: rest) a W :=
  Kd.R_append_rows k29 (w0 := w0) B hgd s x 32 29 (.agg (oldC old0).toArray) 48 ho Try.underlying32 info29 rfl (by rw [k29_sz]; omega) (by omega) v l ys A m c (fun _ => True) (fun _ => False) hs hx HO HR (fun L cs h => by
      obtain ⟨rfl, h10⟩ := k29_open h
      exact k29_mkM _ _ _ _ h10) (fun _ hk => hk.elim) (fun _ _ => trivial) HB hb (by omega)
    fun v1 w1 h1 h2 h3 _ => h v1 w1 h1 h2 h3
theorem yields_cells29 {S : World → Prop} (hw : Region.wanted o (yielded ops a.tmps) = true) (p : Operand) (ho : o.op = .load 29 p) (ad : Addr) (hp : a.eval p = .pointer (some ad)) (f : Old) (hl : f.data.length = 32)
    (hc : ∀ w, S w → ∀ j u, (oldC f)[j]? = some u → w.cell? (ad.add j) = some u) : YieldsIf Try.prog ops S o (.agg (oldC f).toArray) a := Or.inl ⟨hw, fun w hS => by
  obtain ⟨i, hii, his⟩ := Option.map_eq_some_iff.1 size29
  have hcl := run_loadCells_list (P := Try.prog) w ad (oldC f) (hc w hS)
  have hagg : (isAgg 29).run Try.prog w = .ok true w := by rw [run_isAgg Try.underlying29 w]; rfl
  rw [oldC_len f hl] at hcl
  unfold execOp
  simp [ho, hp, Instr.loadAt, Instr.sureAddr, loadVar, Sem.run_bind, hagg, sizeOf, typeInfo, hii, his, hcl]⟩
end
theorem blk_cell {w : World} {g : Nat} {t : TypeId} {cs : List Value} (h : Blk w g t cs) (k : Nat) : w.cell? ⟨g, k, none⟩ = cs[k]? := by
  have h' : w.heap[g]? = some (.cells cs.toArray t (0, 0)) := h
  unfold World.cell?
  rw [h']
  simp
/-- The snapshots, and a row of the law's own. -/
structure KB (W : World) (T : Nat) (w : World) (s ob lb : Nat) (st : All × Nat) (m : Nat) (v : Value) (l : List Old) : Prop where
  doc : DocAt w s ob lb st m
  bel : Below W.heap.size W w
  own : RO w W.heap.size (fun k => k < T) v l
  ts : T ≤ s ∧ T ≤ ob ∧ T ≤ lb
  lo : W.heap.size ≤ T
theorem KB.below {W w w1 : World} {T s ob lb m : Nat} {st : All × Nat} {v : Value} {l : List Old} (h : KB W T w s ob lb st m v l) (hb : Below w.heap.size w w1) : KB W T w1 s ob lb st m v l :=
  ⟨h.doc.below' hb, step_bel h.bel hb, Kd.R_below h.own hb, h.ts, h.lo⟩
/-- Cells of a row of kept blocks, whatever they hold. -/
def Raw (n : Nat) (cs : List Value) : Prop := ∀ i, i < n → (∃ x, cs[i * 34 + 2]? = some (.int .u8 x)) ∧ ∃ y, cs[i * 34 + 1]? = some (.bool y)
theorem raw_of {w : World} {g n co : Nat} {l : List Old} (h : CO w (some ⟨g, 0, none⟩) n l) (hG : ∀ x ∈ l, gOld x) {cs : List Value} (hb : Blk w g 29 cs) : Raw n cs := fun i hi => by
  obtain ⟨ad, e, hc, hl⟩ := at29 h i hi
  have hil : i < l.length := by have := h.1; omega
  have hd := (hG _ (og_mem l i hil)).2.2
  obtain rfl := Option.some.inj e
  have hz : ∀ j u, (oldC (og l i))[j]? = some u → cs[i * 34 + j]? = some u := fun j u hu => by
    rw [← blk_cell hb]
    have := hc j u hu
    rw [Addr.add_add] at this
    rcases Nat.eq_zero_or_pos (i * 34 + j) with e0 | e0
    · rw [e0] at this ⊢; exact this
    · unfold Addr.add at this
      rw [if_neg (by omega)] at this
      simpa using this
  refine ⟨⟨(og l i).data.getD 0 0, hz 2 _ ?_⟩, (og l i).has, hz 1 _ rfl⟩
  cases hdd : (og l i).data with
  | nil => rw [hdd] at hl; cases hl
  | cons x r => unfold oldC; rw [hdd]; rfl
theorem Raw.data {n : Nat} {cs : List Value} (h : Raw n cs) (i : Nat) (hi : i < n) (x : Int) : Raw n (cs.set (i * 34 + 2) (.int .u8 x)) := fun k hk => by
  obtain ⟨⟨y, h1⟩, z, h3⟩ := h k hk
  constructor
  · by_cases e : i = k
    · subst e
      have hlt := (List.getElem?_eq_some_iff.1 h1).1
      exact ⟨x, by rw [List.getElem?_set_self hlt]⟩
    · exact ⟨y, by rw [List.getElem?_set_ne (by omega)]; exact h1⟩
  · exact ⟨z, by rw [List.getElem?_set_ne (by omega)]; exact h3⟩
theorem Raw.has {n : Nat} {cs : List Value} (h : Raw n cs) (i : Nat) (hi : i < n) (y : Bool) : Raw n (cs.set (i * 34 + 1) (.bool y)) := fun k hk => by
  obtain ⟨⟨x, h1⟩, z, h3⟩ := h k hk
  constructor
  · exact ⟨x, by rw [List.getElem?_set_ne (by omega)]; exact h1⟩
  · by_cases e : i = k
    · subst e
      have hlt := (List.getElem?_eq_some_iff.1 h3).1
      exact ⟨y, by rw [List.getElem?_set_self hlt]⟩
    · exact ⟨z, by rw [List.getElem?_set_ne (by omega)]; exact h3⟩
/-- While the row's cells are written. -/
structure KW (W : World) (w : World) (s ob lb : Nat) (st : All × Nat) (m n g x : Nat) (o : Old) : Prop where
  doc : DocAt w s ob lb st m
  bel : Below W.heap.size W w
  raw : 0 < n → W.heap.size ≤ g ∧ ∃ cs, Blk w g 29 cs ∧ Raw n cs
  obx : OB w x o
  ne : 0 < n → g ≠ s ∧ g ≠ ob ∧ g ≠ lb ∧ g ≠ x
theorem KW.below {W w w1 : World} {s ob lb m n g x : Nat} {st : All × Nat} {o : Old} (h : KW W w s ob lb st m n g x o) (hb : Below w.heap.size w w1) : KW W w1 s ob lb st m n g x o :=
  ⟨h.doc.below' hb, step_bel h.bel hb, fun hn => by obtain ⟨h1, cs, h2, h3⟩ := h.raw hn; exact ⟨h1, cs, blk_below h2 hb, h3⟩, OB.below h.obx hb, h.ne⟩
theorem KW.set {W w : World} {s ob lb m n g x : Nat} {st : All × Nat} {o : Old} (h : KW W w s ob lb st m n g x o) (hn : 0 < n) {cs : List Value} (hb : Blk w g 29 cs) {j : Nat} {v : Value} (hr : Raw n (cs.set j v)) : KW W (w.setCell ⟨g, j, none⟩ v) s ob lb st m n g x o := by
  have hg := grown_set w g j v
  obtain ⟨n1, n2, n3, n4⟩ := h.ne hn
  exact ⟨⟨h.doc.1.grown hg (by simp; omega) (by simp; omega) (by simp; omega), h.doc.2⟩, below_grown h.bel (h.raw hn).1 h.bel.size hg, fun _ => ⟨(h.raw hn).1, _, hb.set j v, hr⟩, Blk.grown h.obx hg (by simp; omega), h.ne⟩
set_option maxRecDepth 10000 in
set_option maxHeartbeats 8000000 in
theorem keeps_walk (W : World) (A : Option Addr) (c : Nat) (l : List Old) (hlc : l.length ≤ c) (hC : CO W A l.length l) (hG : ∀ x ∈ l, gOld x) (b : Int) (hbw : (Lit.int .i64 b).wf = true) : Calls Try.prog 4 #[.slice A l.length c, .int .i64 b] W (Holds W) := by
  have HC := Aside0.mk hC
  have HG := Aside0.mk hG
  have hm := Kd.C_max hC
  clear hC hG
  go_enter Try.func4, Try.ntmps4
  go_wp2_with fail
  refine (awake_calls _).mono ?_
  rintro e w1 ⟨rfl, hb⟩
  have H1 := Aside0.mk hb
  clear hb
  by_cases q1 : 60 < (l.length : Int)
  case pos =>
    have hd : decide (60 < (l.length : Int)) = true := by simp; omega
    go_wp2_with fail
    refine (awake_calls _).mono ?_
    rintro e w9 ⟨rfl, hb⟩
    have H9 := Aside0.mk (step_bel H1.out hb)
    clear hb
    go_wp2_with fail
    go_ret
    exact ⟨rfl, H9.out⟩
  have d1 : decide (60 < (l.length : Int)) = false := by simp; omega
  go_upto_region 4 with (first | ((with_reducible refine gate_dst (N := 21) rfl ?_); refine lit0O (w0 := W) (B := W.heap.size) rfl _ rfl rfl H1.out H1.out.size ?_; intro v2 w2 h4 h5 h6; have H4 := Aside0.mk h4; have H5 := Aside0.mk h5; clear h4 h5 h6) | ((with_reducible refine gate_dst (N := 23) rfl ?_); refine app_rowO (w0 := W) (B := W.heap.size) rfl (.tmp 21) (.tmp 22) rfl v2 [] l _ _ _ rfl rfl H4.out (Kd.C_below HC.out H5.out) H5.out H5.out.size (by simp; omega) ?_; intro v3 w3 h7 h8 h9; have H7 := Aside0.mk h7; have H8 := Aside0.mk h8; clear h7 h8 h9))
  have hR3 := Kd.R_mono (Kd.R_bound H7.out) (ok' := fun k => k < w3.heap.size) (fun k hk => hk.2.2.1)
  rw [List.nil_append] at hR3
  obtain ⟨Ao, co, hv3, hlo, _⟩ := Kd.R_reads hR3
  subst hv3
  have HR3 := Aside0.mk hR3
  have hog : ∃ g, 0 < l.length → Ao = some ⟨g, 0, none⟩ := by
    rcases Nat.eq_zero_or_pos l.length with h0 | h0
    · exact ⟨0, fun h => by omega⟩
    · obtain ⟨g, cap, e, _⟩ := Kd.R_form hR3 h0
      exact ⟨g, fun _ => by injection e⟩
  obtain ⟨g, hgA⟩ := hog
  have HGA := Aside0.mk hgA
  clear hR3 H7 H4 H5 hgA
  go_upto_region 6 with (first | (go_at_call 13; refine (newDoc _).mono ?_; rintro e w4 ⟨s, ob, lb, rfl, hD, hs1, hs2, hs3, hB1⟩; have HK := Aside0.mk (show KB W w3.heap.size w4 s ob lb ([], 0) 0 (.slice Ao l.length co) l from ⟨hD, step_bel H8.out hB1, Kd.R_below HR3.out hB1, ⟨hs1, hs2, hs3⟩, H8.out.size⟩); clear hD hB1 hs1 hs2 hs3 H8 HR3) | (go_at_call 14; refine (commitDoc _ s ob lb 0 ([], 0) HK.out.doc Ao co l (fun w1 hM => (Kd.R_reads' (Kd.R_move HK.out.own (fun k hk => hM.heap k (by have := HK.out.ts; have := HK.out.doc.1.blk.lt; omega) (by have := HK.out.ts; omega) (by have := HK.out.ts; omega) (by have := HK.out.ts; omega)))).2.2) HG.out (by decide) (by omega)).mono ?_; rintro e w5 ⟨rfl, hD, hM⟩; have HK5 := Aside0.mk (show KB W w3.heap.size w5 s ob lb ([l], 0) (0 + l.length) (.slice Ao l.length co) l from ⟨hD, hM.below _ W HK.out.bel HK.out.bel.size (Nat.le_trans HK.out.lo HK.out.ts.1) (Nat.le_trans HK.out.lo HK.out.ts.2.1) (Nat.le_trans HK.out.lo HK.out.ts.2.2), Kd.R_move HK.out.own (fun k hk => hM.heap k (by have := HK.out.ts; have := HK.out.doc.1.blk.lt; omega) (by have := HK.out.ts; omega) (by have := HK.out.ts; omega) (by have := HK.out.ts; omega)), HK.out.ts, HK.out.lo⟩); clear hD hM HK))
  obtain ⟨T, hT⟩ : ∃ T, T = w3.heap.size := ⟨_, rfl⟩
  rw [← hT] at HK5
  clear hT
  go_wp2_with fail
  go_loopw [7] (fun i wr => ∃ k : Nat, k ≤ l.length ∧ i = .int .i64 k ∧ Aside0 (KB W T wr s ob lb ([l], 0) (0 + l.length) (.slice Ao l.length co) l)) (fun i _ => l.length - (intOf i).toNat)
  case atStart => exact ⟨0, by omega, rfl, HK5⟩
  case round =>
    clear HK5
    obtain ⟨k, hk, rfl, HK5⟩ := hrel
    by_cases hlt : k < l.length
    · have hd : decide ((k : Int) < l.length) = true := by simp; omega
      obtain ⟨ad, hA, hcx, hxl⟩ := at29 (Kd.C_below HC.out HK5.out.bel) k hlt
      subst hA
      obtain ⟨ad2, hA2, hcx2, _⟩ := at29 (Kd.R_reads' HK5.out.own).2.2 k hlt
      subst hA2
      have HCX := Aside0.mk hcx
      have HCX2 := Aside0.mk hcx2
      have HXG := Aside0.mk (HG.out _ (og_mem l k hlt))
      obtain ⟨x, hx⟩ : ∃ x, x = og l k := ⟨_, rfl⟩
      rw [← hx] at HCX HCX2 HXG hxl
      clear hcx hcx2 hx
      go_upto_region 9 with (fail)
      refine wp_region_held_drew (S := (fun w' => Below wr.heap.size wr w')) (by kernel_rfl) (by exact below_drew (Below.refl _ _)) (fun hHeld => ?_)
      refine wpAnyH_tk (i := 0) (v := ?vz1) 34 rfl rfl (by kernel_rfl) (by kernel_rfl) (by kernel_rfl) (fun _ _ _ h => h) (Or.inl ⟨by rfl, ?yz1⟩) hHeld ?rz1
      case yz1 => (intro w hSw; go_simp; try with_reducible rfl)
      (try simp only [Act.put, List.setIfInBounds_toArray, List.set_cons_zero, List.set_cons_succ])
      refine wpAnyH_tk (i := 1) (v := ?vz2) 35 rfl rfl (by kernel_rfl) (by kernel_rfl) (by kernel_rfl) (fun _ _ _ h => h) (Or.inl ⟨by rfl, ?yz2⟩) hHeld ?rz2
      case yz2 => (intro w hSw; go_simp; try with_reducible rfl)
      (try simp only [Act.put, List.setIfInBounds_toArray, List.set_cons_zero, List.set_cons_succ])
      refine wpAnyH_tk (i := 2) (v := _) 36 rfl rfl (by kernel_rfl) (by kernel_rfl) (by kernel_rfl) (fun _ _ _ h => h) (show YieldsIf Try.prog _ _ _ (.pointer (some (ad.add (k * 34)))) _ from Or.inl ⟨(by rfl), fun w hSw => by go_simp; try omega⟩) hHeld ?_
      (try simp only [Act.put, List.setIfInBounds_toArray, List.set_cons_zero, List.set_cons_succ])
      refine wpAnyH_tk (i := 3) (v := _) 37 rfl rfl (by kernel_rfl) (by kernel_rfl) (by kernel_rfl) (fun _ _ _ h => h) (yields_cells29 (by rfl) (.tmp 36) rfl (ad.add (k * 34)) rfl x hxl (fun w h j u hu => bel_cell h (HCX.out j u hu))) hHeld ?_
      (try simp only [Act.put, List.setIfInBounds_toArray, List.set_cons_zero, List.set_cons_succ])
      refine wpAnyH_tk (i := 4) (v := ?vz3) 38 rfl rfl (by kernel_rfl) (by kernel_rfl) (by kernel_rfl) (fun _ _ _ h => h) (Or.inl ⟨by rfl, ?yz3⟩) hHeld ?rz3
      case yz3 => (intro w hSw; go_simp; try with_reducible rfl)
      (try simp only [Act.put, List.setIfInBounds_toArray, List.set_cons_zero, List.set_cons_succ])
      refine wpAnyH_tk (i := 5) (v := ?vz4) 39 rfl rfl (by kernel_rfl) (by kernel_rfl) (by kernel_rfl) (fun _ _ _ h => h) (Or.inl ⟨by rfl, ?yz4⟩) hHeld ?rz4
      case yz4 => (intro w hSw; go_simp; try with_reducible rfl)
      (try simp only [Act.put, List.setIfInBounds_toArray, List.set_cons_zero, List.set_cons_succ])
      refine wpAnyH_tk (i := 6) (v := _) 40 rfl rfl (by kernel_rfl) (by kernel_rfl) (by kernel_rfl) (fun _ _ _ h => h) (show YieldsIf Try.prog _ _ _ (.pointer (some (ad2.add (k * 34)))) _ from Or.inl ⟨(by rfl), fun w hSw => by go_simp; try omega⟩) hHeld ?_
      (try simp only [Act.put, List.setIfInBounds_toArray, List.set_cons_zero, List.set_cons_succ])
      refine wpAnyH_tk (i := 7) (v := _) 41 rfl rfl (by kernel_rfl) (by kernel_rfl) (by kernel_rfl) (fun _ _ _ h => h) (yields_cells29 (by rfl) (.tmp 40) rfl (ad2.add (k * 34)) rfl x hxl (fun w h j u hu => bel_cell h (HCX2.out j u hu))) hHeld ?_
      (try simp only [Act.put, List.setIfInBounds_toArray, List.set_cons_zero, List.set_cons_succ])
      refine wpAnyH_tk (i := 8) (v := _) 42 rfl rfl (by kernel_rfl) (by kernel_rfl) (by kernel_rfl) (fun _ _ _ h => h) (yields_neq (by rfl) 29 29 (.tmp 37) (.tmp 41) rfl (oldC x) (oldC x) rfl rfl true (fun w => eq29 hxl HXG.out w) eqg29 rfl) hHeld ?_
      (try simp only [Act.put, List.setIfInBounds_toArray, List.set_cons_zero, List.set_cons_succ])
      refine wpAnyH_done (by kernel_rfl) ?_ _
      skip
      have HK6 := Aside0.mk (HK5.out.below hHeld)
      clear hHeld
      go_wp2_with fail
      go_roundw
      case rel => exact ⟨k + 1, by omega, by go_num, HK6⟩
      case measure => simp [intOf]; omega
    · obtain rfl : k = l.length := by omega
      have hd : decide ((l.length : Int) < l.length) = false := by simp
      obtain ⟨o, ok, hR⟩ := ref_is [l] 0 b 0
      have R1 := Aside0.mk hR
      have GO := Aside0.mk (ref_good hR (fun x hx y hy => by rw [List.mem_singleton.1 hx] at hy; exact HG.out y hy))
      clear hR
      go_upto_region 12 with (first | (go_at_call 15; refine (readDoc _ s ob lb _ _ HK5.out.doc b 0 hbw (by decide) (by show 1 ≤ 100000; decide) R1.out).mono ?_; rintro e wpa ⟨rfl, hd, hB⟩; have hwz := hB.size; have hsT := HK5.out.doc.1.blk.lt; have htT := HK5.out.ts; have Bpa := Aside0.mk (HK5.out.below hB); clear hB HK5 ) | ((with_reducible refine gate_dst (N := 8) rfl ?_); refine alloc29 rfl rfl ?_; intro wpb x8 h6 h7 h8; have H5 := Aside0.mk h7; clear h7) | (refine store29 rfl rfl (.tmp 8) (.tmp 47) rfl x8 rfl o hd rfl (M := old0) rfl H5.out ?_; intro wpc h12 h10 h11; have HX8 := Aside0.mk h12; have Bp := Aside0.mk (Bpa.out.below (below_grown (grown_fresh h8) h6 h8.size h10)); clear h12 h10 h11 h8 Bpa H5 ))
      have hdo := hd
      clear hd
      have HW := Aside0.mk (show KW W wpc s ob lb ([l], 0) (0 + l.length) l.length g x8 o from by
        have hh := Bp.out
        refine ⟨hh.doc, hh.bel, fun hn => ?_, HX8.out, fun hn => ?_⟩
        · have hA := HGA.out hn
          subst hA
          obtain ⟨g', cap, e, h1, h2, cells, h3⟩ := Kd.R_form hh.own hn
          injection e with e1 _ _
          injection e1 with e1
          injection e1 with e1
          subst e1
          exact ⟨h1, cells.toList, by simpa [Blk] using h3, raw_of (co := co) (Kd.R_reads' hh.own).2.2 HG.out (by simpa [Blk] using h3)⟩
        · have hA := HGA.out hn
          subst hA
          have h1 := hh.own.1 g (by simp [Value.ownBlock])
          have h2 := hh.ts
          have h3 : T ≤ x8 := by omega
          omega)
      clear Bp HX8 hwz hsT htT h6
      go_wp2_with fail
      go_loopw [10] (fun i wr => ∃ k : Nat, k ≤ l.length ∧ i = .int .i64 k ∧ Aside0 (KW W wr s ob lb ([l], 0) (0 + l.length) l.length g x8 o)) (fun i _ => l.length - (intOf i).toNat)
      case atStart => exact ⟨0, by omega, rfl, HW⟩
      case round =>
        clear HW
        obtain ⟨k, hk, rfl, HW⟩ := hrel
        by_cases hlt : k < l.length
        · have hd : decide ((k : Int) < l.length) = true := by simp; omega
          have hA := HGA.out (by omega)
          subst hA
          obtain ⟨hgW, cs, hbk, hraw⟩ := HW.out.raw (by omega)
          obtain ⟨⟨x, hx1⟩, _⟩ := hraw k hlt
          have hcell : wr.cell? ⟨g, k * 34 + 2, none⟩ = some (.int .u8 x) := by rw [blk_cell hbk]; exact hx1
          have HBK := Aside0.mk hbk
          have HRW := Aside0.mk hraw
          have hfit : k * 34 + 2 < cs.length := (List.getElem?_eq_some_iff.1 hx1).1
          have HCE := Aside0.mk hcell
          clear hbk hraw hx1 hcell
          go_upto_region 15 with (fail)
          refine wp_region_held_drew (S := (fun w' => True)) (by kernel_rfl) (by trivial) (fun hHeld => ?_)
          refine wpAnyH_tk (i := 0) (v := ?vz5) 55 rfl rfl (by kernel_rfl) (by kernel_rfl) (by kernel_rfl) (fun _ _ _ h => h) (Or.inl ⟨by rfl, ?yz5⟩) hHeld ?rz5
          case yz5 => (intro w hSw; go_simp; try with_reducible rfl)
          (try simp only [Act.put, List.setIfInBounds_toArray, List.set_cons_zero, List.set_cons_succ])
          refine wpAnyH_tk (i := 1) (v := ?vz6) 56 rfl rfl (by kernel_rfl) (by kernel_rfl) (by kernel_rfl) (fun _ _ _ h => h) (Or.inl ⟨by rfl, ?yz6⟩) hHeld ?rz6
          case yz6 => (intro w hSw; go_simp; try with_reducible rfl)
          (try simp only [Act.put, List.setIfInBounds_toArray, List.set_cons_zero, List.set_cons_succ])
          refine wpAnyH_tk (i := 2) (v := _) 57 rfl rfl (by kernel_rfl) (by kernel_rfl) (by kernel_rfl) (fun _ _ _ h => h) (show YieldsIf Try.prog _ _ _ (.pointer (some ⟨g, k * 34, none⟩)) _ from Or.inl ⟨(by rfl), fun w hSw => by go_simp; try omega⟩) hHeld ?_
          (try simp only [Act.put, List.setIfInBounds_toArray, List.set_cons_zero, List.set_cons_succ])
          refine wpAnyH_tk (i := 3) (v := ?vz7) 58 rfl rfl (by kernel_rfl) (by kernel_rfl) (by kernel_rfl) (fun _ _ _ h => h) (Or.inl ⟨by rfl, ?yz7⟩) hHeld ?rz7
          case yz7 => (intro w hSw; go_simp; try with_reducible rfl)
          (try simp only [Act.put, List.setIfInBounds_toArray, List.set_cons_zero, List.set_cons_succ])
          refine wpAnyH_tk (i := 4) (v := ?vz8) 59 rfl rfl (by kernel_rfl) (by kernel_rfl) (by kernel_rfl) (fun _ _ _ h => h) (Or.inl ⟨by rfl, ?yz8⟩) hHeld ?rz8
          case yz8 => (intro w hSw; go_simp; try with_reducible rfl)
          (try simp only [Act.put, List.setIfInBounds_toArray, List.set_cons_zero, List.set_cons_succ])
          refine wpAnyH_tk (i := 7) (v := _) 62 rfl rfl (by kernel_rfl) (by kernel_rfl) (by kernel_rfl) (fun _ _ _ h => h) (show YieldsIf Try.prog _ _ _ (.pointer (some ⟨g, k * 34, none⟩)) _ from Or.inl ⟨(by rfl), fun w hSw => by go_simp; try omega⟩) hHeld ?_
          (try simp only [Act.put, List.setIfInBounds_toArray, List.set_cons_zero, List.set_cons_succ])
          refine wpAnyH_tk (i := 8) (v := ?vz9) 63 rfl rfl (by kernel_rfl) (by kernel_rfl) (by kernel_rfl) (fun _ _ _ h => h) (Or.inl ⟨by rfl, ?yz9⟩) hHeld ?rz9
          case yz9 => (intro w hSw; go_simp; try with_reducible rfl)
          (try simp only [Act.put, List.setIfInBounds_toArray, List.set_cons_zero, List.set_cons_succ])
          refine wpAnyH_one (i := 5) (by kernel_rfl) rfl (fun K hK => ?_)
          rw [if_pos (by rfl)]
          refine step_read 60 rfl 5 (.tmp 59) rfl ⟨g, k * 34 + 2, none⟩ rfl (v := .int .u8 x) HCE.out Try.underlying5 rfl ?_
          refine hK.out _ _ (by trivial) (fun hHeld => ?_)
          clear hK K
          (try simp only [Act.put, List.setIfInBounds_toArray, List.set_cons_zero, List.set_cons_succ])
          refine wpAnyH_tk (i := 6) (v := ?vz10) 61 rfl rfl (by kernel_rfl) (by kernel_rfl) (by kernel_rfl) (fun _ _ _ h => h) (Or.inl ⟨by rfl, ?yz10⟩) hHeld ?rz10
          case yz10 => (intro w hSw; go_simp; try with_reducible rfl)
          (try simp only [Act.put, List.setIfInBounds_toArray, List.set_cons_zero, List.set_cons_succ])
          refine wpAnyH_tk (i := 9) (v := ?vz11) 64 rfl rfl (by kernel_rfl) (by kernel_rfl) (by kernel_rfl) (fun _ _ _ h => h) (Or.inl ⟨by rfl, ?yz11⟩) hHeld ?rz11
          case yz11 => (intro w hSw; go_simp; try with_reducible rfl)
          (try simp only [Act.put, List.setIfInBounds_toArray, List.set_cons_zero, List.set_cons_succ])
          refine wpAnyH_one (i := 10) (by kernel_rfl) rfl (fun K hK => ?_)
          rw [if_pos (by rfl)]
          refine step_cell rfl 5 (.tmp 64) (.tmp 61) rfl g (k * 34 + 2) rfl (.int .u8 _) rfl rfl (by kernel_rfl) HBK.out.drew hfit ?_
          refine hK.out _ _ (by trivial) (fun hHeld => ?_)
          clear hK K
          (try simp only [Act.put, List.setIfInBounds_toArray, List.set_cons_zero, List.set_cons_succ])
          refine wpAnyH_done (by kernel_rfl) ?_ _
          skip
          have HW2 := Aside0.mk ((HW.out.below (below_drew (Below.refl _ _))).set (by omega) HBK.out.drew (HRW.out.data k hlt (bits BinOp.xor IntKind.u8 x 255)))
          clear hHeld
          obtain ⟨_, cs2, hbk2, hraw2⟩ := HW2.out.raw (by omega)
          obtain ⟨_, y, hy⟩ := hraw2 k hlt
          have hc2 := hy
          rw [← blk_cell hbk2] at hc2
          have hf2 := hbk2.frozen (k * 34 + 1)
          have HW3 := Aside0.mk (HW2.out.set (by omega) hbk2 (hraw2.has k hlt (!y)))
          clear hraw2 hbk2 HW HW2 HBK HRW HCE hy
          obtain ⟨w6, hw6⟩ : ∃ w6, w6 = wr.drew.setCell ⟨g, k * 34 + 2, none⟩ (.int .u8 (bits BinOp.xor IntKind.u8 x 255)) := ⟨_, rfl⟩
          rw [← hw6] at hc2 hf2 HW3 ⊢
          clear hw6
          go_wp2_with fail
          go_roundw
          case rel => exact ⟨k + 1, by omega, by go_num, HW3⟩
          case measure => simp [intOf]; omega
        · obtain rfl : k = l.length := by omega
          have hd : decide ((l.length : Int) < l.length) = false := by simp
          go_upto_region 18 with (first | (go_at_call 15; refine (readDoc _ s ob lb _ _ HW.out.doc b 0 hbw (by decide) (by show 1 ≤ 100000; decide) R1.out).mono ?_; rintro e wqa ⟨rfl, hd, hB⟩; have Bqa := Aside0.mk (HW.out.below hB); clear hB HW ) | ((with_reducible refine gate_dst (N := 11) rfl ?_); refine alloc29 rfl rfl ?_; intro wqb x11 h6 h7 h8; have H5 := Aside0.mk h7; clear h7) | (refine store29 rfl rfl (.tmp 11) (.tmp 79) rfl x11 rfl o hd rfl (M := old0) rfl H5.out ?_; intro wqc h12 h10 h11; have HX11 := Aside0.mk h12; have Bq := Aside0.mk (Bqa.out.below (below_grown (grown_fresh h8) h6 h8.size h10)); clear h12 h10 h11 h8 Bqa H5 ))
          try clear h6
          have HX8 := Bq.out.obx
          have HX8 := Aside0.mk HX8
          go_wp2_with (first | ((with_reducible refine gate_dst (N := 81) rfl ?_); refine loadB29 rfl (.tmp 8) rfl x8 rfl o hdo HX8.out ?_) | ((with_reducible refine gate_dst (N := 82) rfl ?_); refine loadB29 rfl (.tmp 11) rfl x11 rfl o hdo HX11.out ?_) | ((with_reducible refine gate_dst (N := 83) rfl ?_); refine wpl_eql rfl 29 29 (.tmp 81) (.tmp 82) rfl (oldC o) (oldC o) rfl rfl true (fun w => eq29 hdo GO.out w) eqg29 rfl ?_))
          go_ret
          exact ⟨by simp, Bq.out.bel⟩
end Go.Proofs.Ytipbgldfomejpaa.Snap

