/- Layer 25's laws: TextKeeps. -/
import Derived.Test.YtagpldkgkchfcaaDoorTxtLaws6
namespace Go.Proofs.YtagpldkgkchfcaaDoor.Txt
set_option linter.unusedSimpArgs false
set_option linter.unusedVariables false
open Go.RowKit Go.Proofs.YtagpldkgkchfcaaDoorW.PrintWords Go.Proofs.YtagpldkgkchfcaaDoorW.PrintLast Go.Proofs.YtagpldkgkchfcaaDoorW.PrintMore Arr PTextPrints

/-! ### rows of rows of numbers -/
def kk : Kd (List Int) := Kd.slice 3 (Kd.int .i64)
theorem kk_sz : kk.sz = 1 := rfl
abbrev RR (w : World) (B : Nat) (v : Value) (ll : List (List Int)) : Prop := Kd.R kk 36 w B (fun _ => True) v ll
theorem info36 : (Tryd.prog.info? 36).map (fun i => (i.zero, i.size, i.bytes)) = some (some (.slice none 0 0), kk.sz, 24) := by kernel_rfl
section
variable {ops : Array Oper} {rest : List Oper} {o : Oper} {a : Go.Act} {Q : Exit → Go.Act → World → Prop} {w0 W : World} {B : Nat}
theorem lit0I (hgd : o.guard = none) (N : Tmp) (hd : o.dst = some N) (ho : o.op = .buildSlice 36 0 #[]) (HB : Below B w0 W) (hb : B ≤ W.heap.size)
    (h : ∀ v1 w1, RK w1 W.heap.size v1 [] → Below B w0 w1 → Below W.heap.size W w1 → wpList Tryd.prog ops Q rest (a.put o.dst v1) w1) : wpList Tryd.prog ops Q (o :: rest) a W :=
  Kd.R_lit (Kd.int .i64) W.heap.size 3 hgd hd (w0 := W) (xs := ([] : List Int)) (inner := []) (ok := fun _ => True) (okp := fun _ => True) (by simp only [execOp, ho]; kernel_rfl) (Reps.none _ _) (fun _ h => h) trivial (Below.refl _ _) (Nat.le_refl _) (by simp)
    fun v1 w1 h1 h2 h3 _ => h v1 w1 h1 (HB.trans (h2.mono hb)) h2
theorem app_rowI (hgd : o.guard = none) (s x : Operand) (ho : o.op = .call { callee := .builtin .append, args := #[s, x], argTypes := #[36, 36] })
    (v : Value) (l ys : List Int) (A : Option Addr) (m c : Nat) (hs : a.eval s = v) (hx : a.eval x = .slice A m c) (HO : RK W B v l) (HR : (Kd.int .i64).C W A m ys) (HB : Below B w0 W) (hb : B ≤ W.heap.size) (hl : l.length + m ≤ 1000000)
    (h : ∀ v1 w1, RK w1 B v1 (l ++ ys) → Below B w0 w1 → W.grownBy w1 v.ownBlock → wpList Tryd.prog ops Q rest (a.put o.dst v1) w1) : wpList Tryd.prog ops Q (o :: rest) a W :=
  Kd.R_append_rows (Kd.int .i64) (Rr := (Kd.int .i64).K W) (w0 := w0) B hgd s x 36 3 (.int .i64 0) 8 ho Tryd.underlying36 info3 rfl (by decide) (by decide) v l ys A m c (fun _ => True) (fun _ => False) hs hx HO HR
    (fun _ _ h => h) (fun _ hk => hk.elim) (fun _ _ => trivial) HB hb (by omega)
    fun v1 w1 h1 h2 h3 _ => h v1 w1 h1 h2 h3
/-- A row of numbers, appended to rows. -/
theorem appRR (hgd : o.guard = none) (s x : Operand) (ho : o.op = .call { callee := .builtin .append, args := #[s, x], argTypes := #[46, 46] })
    (v : Value) (l : List (List Int)) (p : List Int) (vk : Value) (hs : a.eval s = v) (hx : a.eval x = .slice (some ⟨W.heap.size, 0, none⟩) 1 1) (hk : Kd.R (Kd.int .i64) 3 W B (fun k => some k ≠ v.ownBlock) vk p) (HO : RR W B v l) (HB : Below B w0 W) (hb : B ≤ W.heap.size) (hl : l.length ≤ 4294967296)
    (h : ∀ v1 w1, RR w1 B v1 (l ++ [p]) → Below B w0 w1 → wpList Tryd.prog ops Q rest (a.put o.dst v1) w1) : wpList Tryd.prog ops Q (o :: rest) a (W.alloc (.cells #[vk] 36)) :=
  Kd.R_append kk (w0 := w0) B hgd s x 46 36 (.slice none 0 0) 24 ho Tryd.underlying46 info36 rfl (by decide) (by decide) v l p [vk] (fun _ => True) (fun k => True ∧ some k ≠ v.ownBlock) hs hx
    ⟨vk, rfl, Kd.R_mono hk (fun _ h => ⟨trivial, h⟩)⟩ (fun _ hk => hk) (fun _ _ => trivial) HO HB hb (by omega)
    fun v1 w1 h1 h2 h3 h4 => h v1 w1 h1 h2
end
def laOf (s : Bs) : List Step := match parseOf s with
  | .ok l => l
  | .err _ => []
theorem parse_any (w : World) (hE : Env w) (s : ByteArray) (hs : s.size ≤ 3000) : Calls Tryd.prog 11 #[.string s] w fun e w' => ∃ v i j, e = .returned (.tuple #[v, .int .i64 i, .int .i64 j]) ∧ RO w' w.heap.size v (laOf s.data.toList) ∧ Below w.heap.size w w' := by
  refine (parse_calls w hE s (by omega)).mono ?_
  unfold ParseEnd laOf
  rcases hp : parseOf s.data.toList with l | n
  · rintro e w' ⟨v, rfl, h1, _, h2⟩
    exact ⟨v, _, _, rfl, h1, h2⟩
  · rintro e w' ⟨rfl, h⟩
    exact ⟨_, _, _, rfl, Kd.R_nil _ _ _ _ _, h⟩
theorem la_small (s : ByteArray) (hs : s.size ≤ 3000) : (laOf s.data.toList).length ≤ 3000 ∧ ∀ x ∈ laOf s.data.toList, x.keep.length ≤ 3000 := by
  have hz : s.data.toList.length = s.size := (Lib.size_eq s).symm
  unfold laOf
  rcases hp : parseOf s.data.toList with l | n
  · have := parse_small hp
    exact ⟨by show l.length ≤ _; omega, fun x hx => by have := this.2 x hx; omega⟩
  · exact ⟨by simp, fun x hx => by cases hx⟩
theorem atK {w : World} {A : Option Addr} {n : Nat} {l : List Int} (h : (Kd.int .i64).C w A n l) (i : Nat) (h1 : i < n) : ∃ ad, A = some ad ∧ w.cell? (ad.add i) = some (.int .i64 (l.getD i 0)) := by
  obtain ⟨ad, c, e, _, hK, hc⟩ := Kd.C_get h 0 (i : Int) (by omega) (by omega)
  obtain rfl : c = [.int .i64 (l.getD i 0)] := hK
  have := hc 0 _ rfl
  rw [Int.toNat_natCast, show i * (Kd.int .i64).sz + 0 = i by show i * 1 + 0 = i; omega] at this
  exact ⟨ad, e, this⟩
theorem atKK {w : World} {A : Option Addr} {n : Nat} {ll : List (List Int)} (h : kk.C w A n ll) (i : Nat) (h1 : i < n) : ∃ ad Ai ci, A = some ad ∧ w.cell? (ad.add i) = some (.slice Ai (ll.getD i []).length ci) ∧ (Kd.int .i64).C w Ai (ll.getD i []).length (ll.getD i []) := by
  obtain ⟨ad, c, e, _, hK, hc⟩ := Kd.C_get h [] (i : Int) (by omega) (by omega)
  rw [Int.toNat_natCast] at hK hc
  obtain ⟨Ai, ci, rfl, _, hC⟩ := hK
  have := hc 0 _ rfl
  rw [show i * kk.sz + 0 = i by rw [kk_sz]; omega] at this
  exact ⟨ad, Ai, ci, e, this, hC⟩
theorem k41_openM {w : World} {B : Nat} {ok : Nat → Prop} {x : Step} {cs : List Value} (h : k41.M w B ok x cs) : ∃ v, cs[39]? = some v ∧ Kd.R (Kd.int .i64) 3 w B ok v x.keep := by
  obtain ⟨c1, _, rfl, h1, ⟨_, _, rfl, rfl, ⟨_, _, rfl, rfl, ⟨_, _, rfl, ⟨v, rfl, hR⟩, ⟨_, _, rfl, rfl, rfl⟩⟩⟩⟩⟩ := h
  have hl : c1.length = 37 := by rw [k35.K_len (k35.K_of_M h1), k35_sz]
  refine ⟨v, ?_, hR⟩
  rw [List.getElem?_append_right (by omega), hl]
  rfl
/-- Where the kept numbers of steps that were read stand. -/
structure Heads (W : World) (T0 T1 : Nat) (A : Option Addr) (la : List Step) : Prop where
  at_ : ∀ i, i < la.length → ∃ ad Ai ci, A = some ad ∧ W.cell? ((ad.add (i * 42)).add 39) = some (.slice Ai (sg la i).keep.length ci) ∧ (∃ cells, W.heap[((ad.add (i * 42)).add 39).block]? = some (.cells cells 41 (0, 0))) ∧ ((ad.add (i * 42)).add 39).block < T1 ∧
    (0 < (sg la i).keep.length → ∃ t, Ai = some ⟨t, 0, none⟩ ∧ T0 ≤ t ∧ t < T1 ∧ ∃ cells : Array Value, W.heap[t]? = some (.cells cells 3 (0, 0)) ∧ (sg la i).keep.length ≤ cells.size)
theorem adds (g i j : Nat) : ((⟨g, 0, none⟩ : Addr).add (i * 42)).add (j + 1) = ⟨g, i * 42 + (j + 1), none⟩ := by
  rw [add_add]
  unfold Addr.add
  rw [if_neg (by omega)]
  simp
theorem heads_of {W : World} {T0 : Nat} {A : Option Addr} {n c : Nat} {la : List Step} (h : RO W T0 (.slice A n c) la) : Heads W T0 W.heap.size A la := by
  refine ⟨fun i hi => ?_⟩
  have hn : n = la.length := (Kd.R_reads' h).1
  obtain ⟨g, cg, hv, hT, hg, cells, hcl⟩ := Kd.R_form h (by omega)
  injection hv with hA _ hc
  subst hA hc
  obtain ⟨cs, hlen, hM, hcell, _⟩ := Kd.R_elem h step0 (i : Int) (by omega) (by omega)
  rw [Int.toNat_natCast] at hM hcell
  obtain ⟨v, hv, hR⟩ := k41_openM hM
  have h39 := hcell 39 v hv
  rw [k41_sz] at h39
  obtain ⟨Ai, ci, rfl⟩ := Kd.R_slice hR
  have hsg : la.getD i step0 = sg la i := rfl
  rw [hsg] at hR h39
  refine ⟨⟨g, 0, none⟩, Ai, ci, rfl, by rw [adds g i 38]; exact h39, by rw [adds g i 38]; exact ⟨cells, hcl⟩, by rw [adds g i 38]; exact hg, fun hk => ?_⟩
  obtain ⟨t, ct, hvt, ht0, ht1, cs3, hc3⟩ := Kd.R_form hR hk
  injection hvt with hAi _ hci
  subst hAi hci
  refine ⟨t, rfl, ht0, ht1, cs3, hc3, ?_⟩
  obtain ⟨c', hl', hM', hcell', _⟩ := Kd.R_elem hR 0 (((sg la i).keep.length - 1 : Nat) : Int) (by omega) (by omega)
  have hl1 : c'.length = 1 := hl'
  have h0 := hcell' 0 (c'[0]'(by omega)) (List.getElem?_eq_getElem _)
  rw [Int.toNat_natCast, show ((sg la i).keep.length - 1) * (Kd.int .i64).sz + 0 = (sg la i).keep.length - 1 by show _ * 1 + 0 = _; omega] at h0
  unfold World.cell? at h0
  rw [hc3] at h0
  have h1 : (sg la i).keep.length - 1 < cs3.size := (Array.getElem?_eq_some_iff.1 h0).1
  omega
theorem Heads.below {W W1 : World} {T0 T1 : Nat} {A : Option Addr} {la : List Step} (h : Heads W T0 T1 A la) (hT : T1 ≤ W.heap.size) (hb : Below W.heap.size W W1) : Heads W1 T0 T1 A la :=
  ⟨fun i hi => by
    obtain ⟨ad, Ai, ci, h1, h2, ⟨cells, h3⟩, h4, h5⟩ := h.at_ i hi
    refine ⟨ad, Ai, ci, h1, pw_cell_below hb h2, ⟨cells, by rw [hb.block _ (by omega)]; exact h3⟩, h4, fun hk => ?_⟩
    obtain ⟨t, h6, h7, h8, cs, h9, h10⟩ := h5 hk
    exact ⟨t, h6, h7, h8, cs, by rw [hb.block _ (by omega)]; exact h9, h10⟩⟩
/-- What stays while kept numbers of what was read are written. -/
structure KW (w W5 wr : World) (T0 T1 : Nat) : Prop where
  bel : Below w.heap.size w wr
  size : W5.heap.size ≤ wr.heap.size
  out : ∀ j, j < W5.heap.size → (j < T0 ∨ T1 ≤ j) → wr.heap[j]? = W5.heap[j]?
  typ : ∀ j, j < T1 → ∀ (cs : Array Value) (t : TypeId), W5.heap[j]? = some (.cells cs t (0, 0)) → ∃ cs' : Array Value, wr.heap[j]? = some (.cells cs' t (0, 0)) ∧ cs'.size = cs.size ∧ (t ≠ 3 → cs' = cs)
theorem KW.start {w W5 : World} {T0 T1 : Nat} (hb : Below w.heap.size w W5) : KW w W5 W5 T0 T1 := ⟨hb, Nat.le_refl _, fun _ _ _ => rfl, fun j _ cs t h => ⟨cs, h, rfl, fun _ => rfl⟩⟩
theorem KW.put {w W5 wr : World} {T0 T1 t : Nat} (h : KW w W5 wr T0 T1) (hw : w.heap.size ≤ T0) (h0 : T0 ≤ t) (h1 : t < T1) {cells : Array Value} (hc : W5.heap[t]? = some (.cells cells 3 (0, 0))) (k : Nat) (v : Value) : KW w W5 (wr.setCell ⟨t, k, none⟩ v) T0 T1 := by
  refine ⟨below_set h.bel (by omega), ?_, fun j hj ho => ?_, fun j hj cs ty hcs => ?_⟩
  · rw [show (wr.setCell ⟨t, k, none⟩ v).heap.size = wr.heap.size by simp [World.setCell]]
    exact h.size
  · rw [Below.heap_setCell wr ⟨t, k, none⟩ _ j (by show j ≠ t; omega)]
    exact h.out j hj ho
  · obtain ⟨cs', h2, h3, h4⟩ := h.typ j hj cs ty hcs
    by_cases e : j = t
    · subst e
      rw [hc] at hcs
      injection hcs with hcs
      injection hcs with e1 e2
      subst e1 e2
      refine ⟨cs'.setIfInBounds k v, ?_, by rw [Array.size_setIfInBounds]; exact h3, fun h => absurd rfl h⟩
      unfold World.setCell
      simp [Array.getElem?_modify, h2]
    · refine ⟨cs', ?_, h3, h4⟩
      rw [Below.heap_setCell wr ⟨t, k, none⟩ _ j (by exact e)]
      exact h2
theorem KW.head {w W5 wr : World} {T0 T1 : Nat} (h : KW w W5 wr T0 T1) {a : Addr} {u : Value} (hc : W5.cell? a = some u) (hb : ∃ cells, W5.heap[a.block]? = some (.cells cells 41 (0, 0))) (hl : a.block < T1) : wr.cell? a = some u := by
  obtain ⟨cells, h1⟩ := hb
  obtain ⟨cs', h2, _, h4⟩ := h.typ a.block hl cells 41 h1
  rw [h4 (by decide)] at h2
  exact (World.cell?_of_block (h2.trans h1.symm)).trans hc
theorem KW.spot {w W5 wr : World} {T0 T1 t n : Nat} (h : KW w W5 wr T0 T1) (h1 : t < T1) {cells : Array Value} (hc : W5.heap[t]? = some (.cells cells 3 (0, 0))) (hn : n ≤ cells.size) (k : Nat) (hk : k < n) : (∃ u, wr.cell? ⟨t, k, none⟩ = some u) ∧ wr.frozen? ⟨t, k, none⟩ = false := by
  obtain ⟨cs', h2, h3, _⟩ := h.typ t h1 cells 3 hc
  refine ⟨⟨cs'[k]'(by omega), ?_⟩, ?_⟩
  · unfold World.cell?
    rw [h2]
    simp
  · unfold World.frozen?
    rw [h2]
    simp
theorem KW.drewN {w W5 wr : World} {T0 T1 : Nat} (h : KW w W5 wr T0 T1) (n : Nat) : KW w W5 (wr.drewN n) T0 T1 := ⟨pw_below_drewN h.bel n, h.size, h.out, h.typ⟩
theorem KW.row {α : Type} {d : Kd α} {e base : Nat} {ok : Nat → Prop} {v : Value} {xs : List α} {w W5 wr : World} {T0 T1 : Nat} (h : KW w W5 wr T0 T1) (hR : d.R e W5 base ok v xs) (ho : ∀ k, ok k → base ≤ k → k < T0 ∨ T1 ≤ k) : d.R e wr base ok v xs :=
  Kd.R_mono (Kd.R_step (Kd.R_bound hR) (fun k hk hlt => h.out k hlt (ho k hk.1 hk.2.1))) (fun _ hk => hk.1)
theorem refKeep_pos : ∀ (l : List Int) (s s' : Bs), refKeep l s = some s' → ∀ y ∈ l, 0 ≤ y
  | [], s, s', h, y, hy => by cases hy
  | n :: r, s, s', h, y, hy => by
    unfold refKeep at h
    split at h
    · rename_i hf
      rcases List.mem_cons.1 hy with rfl | hy
      · exact ((fits_iff _).1 hf).1
      · exact refKeep_pos r _ s' h y hy
    · cases h
theorem refLine_pos {x : Step} {t : Bs} (h : refLine x = some t) : ∀ y ∈ x.keep, 0 ≤ y := by
  unfold refLine at h
  split at h
  · split at h
    · cases h
    · obtain ⟨s', h1, rfl⟩ := Option.map_eq_some_iff.1 h
      exact refKeep_pos _ _ _ h1
  · split at h
    · cases h
    · rename_i h1
      have : x.keep = [] := Classical.byContradiction fun e => h1 (Or.inr (Or.inr (by have := List.length_pos_iff.2 e; omega)))
      rw [this]
      exact fun y hy => by cases hy
theorem la_pos (s : Bs) : ∀ x ∈ laOf s, ∀ y ∈ x.keep, 0 ≤ y := by
  unfold laOf
  rcases hp : parseOf s with l | n
  · intro x hx
    obtain ⟨t, h1, _⟩ := refPrint_mem l s (parse_iff.1 hp).1 x hx
    exact refLine_pos h1
  · intro x hx
    cases hx
theorem map_take_keep (l : List Step) (k : Nat) (h : k < l.length) : (l.take (k + 1)).map Step.keep = (l.take k).map Step.keep ++ [(sg l k).keep] := by
  rw [take_sg l k h]; simp
set_option maxRecDepth 10000 in
set_option maxHeartbeats 1500000 in
theorem law_keeps (w : World) (hE : Env w) (A : Option Addr) (c : Nat) (l : List Step) (hC : k41.C w A l.length l) (hg : ∀ x ∈ l, Good x) (hfw : l.length ≤ 281474976710656) (hkw : ∀ x ∈ l, x.keep.length ≤ 281474976710656) (s : ByteArray) :
    Calls Tryd.prog 8 #[.slice A l.length c, .string s] w fun e w' => e = .returned (.bool true) ∧ Below w.heap.size w w' := by
  have HK := Aside0.mk (Keeps.refl w)
  have HE := Aside0.mk hE
  have HAW := Aside0.mk (fun W hW => awake_calls W (hE.below hW))
  have HFA := Aside0.mk (fun W hW => few_calls W A c l (Kd.C_below hC hW) hfw hkw)
  by_cases hfa : fewB l = true
  · have HA1 := Aside0.mk hfa
    by_cases hb : s.size ≤ 3000
    · have hd0 : decide ((s.size : Int) > 3000) = false := by simp; omega
      have HST := Aside0.mk (few_steps hC hg hfa)
      have hlf := HST.out.few
      clear hfa hC hg hfw hkw hE
      go_enter Tryd.func8, Tryd.ntmps8
      go_wp2_with (first | (go_at_call 10; refine (HAW.out _ HK.out.below).mono ?_; rintro e w1 ⟨rfl, hbb⟩; have HK1 := Aside0.mk (HK.out.step hbb); clear hbb) | (go_at_call 15; refine (HFA.out _ HK1.out.below).mono ?_; rintro e w2 ⟨rfl, hbb⟩; rw [HA1.out]; have HK2 := Aside0.mk (HK1.out.step hbb); clear hbb))
      go_loopw [5, 6] (fun v i wr => ∃ k : Nat, k ≤ l.length ∧ i = .int .i64 k ∧ Aside0 (RR wr w.heap.size v ((l.take k).map Step.keep)) ∧ Aside0 (Keeps w [] wr)) (fun _ i _ => l.length - (intOf i).toNat)
      case atStart => exact ⟨0, by omega, rfl, ⟨Kd.R_nil _ _ _ _ _⟩, HK2⟩
      case round =>
        clear HK1 HK2
        obtain ⟨k, hk, rfl, HR, HB⟩ := hrel
        rename World => wr
        by_cases hlt : k < l.length
        · have hd : decide ((k : Int) < l.length) = true := by simp; omega
          obtain ⟨ad, Ak, ck, hA, hcx, hxl, hkc, hkC⟩ := at41 HST.out.cells k hlt
          subst hA
          have HMT := Aside0.mk (map_take_keep l k hlt)
          have hkx := HST.out.keep _ (sg_mem l k hlt)
          obtain ⟨x, hx⟩ : ∃ x, x = sg l k := ⟨_, rfl⟩
          rw [← hx] at hcx hxl hkc hkC HMT hkx
          have hq := pw_cell_below HB.out.below (step_at39 hxl hcx)
          rw [add_j _ _ _ (by decide)] at hq
          have HKC := Aside0.mk (Kd.C_below hkC HB.out.below)
          have hln := ((l.take k).map Step.keep).length
          have HLN := Aside0.mk (show ((l.take k).map Step.keep).length ≤ 4294967296 by rw [List.length_map, List.length_take]; omega)
          clear hcx hkC hx hxl
          go_wp2_with (first | ((with_reducible refine gate_dst (N := 39) rfl ?_); refine lit0I (w0 := wr) (B := wr.heap.size) rfl _ rfl rfl (Below.refl _ _) (Nat.le_refl _) ?_; intro v3 w3 h1 h2 h3; have hq3 := pw_cell_below h2 hq; have HV3 := Aside0.mk h1; have HB3 := Aside0.mk h2; have HKC3 := Aside0.mk (Kd.C_below HKC.out h2); clear h1 h2 h3) | ((with_reducible refine gate_dst (N := 46) rfl ?_); refine app_rowI (w0 := wr) (B := wr.heap.size) rfl (.tmp 39) (.tmp 45) rfl v3 [] x.keep _ _ _ rfl rfl HV3.out HKC3.out HB3.out HB3.out.size (by simp; omega) ?_; intro v4 w4 h1 h2 h3; rw [List.nil_append] at h1; obtain ⟨A4, c4, rfl, hc4, hC4⟩ := Kd.R_reads h1; have HV4 := Aside0.mk h1; have HB4 := Aside0.mk h2; clear h1 h2 h3 hC4) | ((with_reducible refine gate_dst (N := 48) rfl ?_); go_loud (refine appRR (w0 := w) (B := w.heap.size) rfl (.tmp 38) (.tmp 47) rfl u5 _ x.keep _ rfl rfl (Kd.R_lower (Kd.R_mono (Kd.R_bound HV4.out) (fun k' hk' e => by have h7 := Kd.R_lt HR.out k' e.symm; have h8 := hk'.2.1; omega)) HB.out.size) (Kd.R_below HR.out HB4.out) (HB.out.step HB4.out).below (HB.out.step HB4.out).size HLN.out ?_; intro v6 w6 h1 h2; rw [← HMT.out] at h1; have HV6 := Aside0.mk h1; have HB6 := Aside0.mk (show Keeps w [] w6 from ⟨h2, fun _ h => by cases h⟩); clear h1 h2)))
          go_roundw
          case rel => exact ⟨k + 1, by omega, by go_num, HV6, HB6⟩
          case measure => simp [intOf]; omega
        · obtain rfl : k = l.length := by omega
          have hd : decide ((l.length : Int) < l.length) = false := by simp
          rw [List.take_length] at HR
          have hR1 := Kd.R_mono (Kd.R_bound HR.out) (ok' := fun k => k < wr.heap.size) (fun k hk => hk.2.2.1)
          obtain ⟨Av, cv, hvr, hlv, _⟩ := Kd.R_reads hR1
          rw [List.length_map] at hvr
          subst hvr
          have HRR := Aside0.mk hR1
          obtain ⟨W0, hW0⟩ : ∃ W0, W0 = wr := ⟨_, rfl⟩
          rw [← hW0] at HRR
          have HW0 := Aside0.mk hW0
          have HSM := Aside0.mk (la_small s hb)
          clear HR hR1 hlv hW0
          go_upto_region 10 with (first | (go_at_call 18; refine (print_calls _ (HE.out.keeps HB.out) A c l (HST.out.below HB.out.below)).mono ?_; unfold PrintEnd; rintro e w6 ⟨rfl, hbb⟩; have HB6 := Aside0.mk (HB.out.step hbb); have HW6 := Aside0.mk (show Below W0.heap.size W0 w6 by rw [HW0.out]; exact hbb); clear hbb) | (go_at_call 11; refine (parse_any _ (HE.out.keeps HB6.out) s hb).mono ?_; rintro e w7 ⟨va, i7, j7, rfl, hRa, hbb⟩; have HRA := Aside0.mk hRa; have HB7 := Aside0.mk (HB6.out.step hbb); have HW7 := Aside0.mk (HW6.out.trans (hbb.mono HW6.out.size)); have HBB := Aside0.mk hbb; clear hRa hbb))
          obtain ⟨Aa, ca, hva, hla, _⟩ := Kd.R_reads HRA.out
          subst hva
          have HHA := Aside0.mk (heads_of HRA.out)
          obtain ⟨T0, hT0⟩ : ∃ T0, T0 = w6.heap.size := ⟨_, rfl⟩
          obtain ⟨T1, hT1⟩ : ∃ T1, T1 = w7.heap.size := ⟨_, rfl⟩
          rw [← hT0, ← hT1] at HHA
          have HT := Aside0.mk (show w.heap.size ≤ T0 ∧ T0 ≤ T1 ∧ W0.heap.size ≤ T0 from ⟨by rw [hT0]; exact HB6.out.size, by rw [hT0, hT1]; exact HBB.out.size, by rw [hT0]; exact HW6.out.size⟩)
          have HT1 := Aside0.mk hT1
          obtain ⟨la, hla2⟩ : ∃ la, la = laOf s.data.toList := ⟨_, rfl⟩
          rw [← hla2] at HHA HSM ⊢
          have HPO := Aside0.mk (show ∀ x ∈ la, ∀ y ∈ x.keep, 0 ≤ y by rw [hla2]; exact la_pos _)
          have HLA := Aside0.mk hla2
          clear hT0 hT1 hla hla2 HRA HBB
          go_upto_region 11 with (first | (go_at_call 11; refine (parse_any _ (HE.out.keeps HB7.out) s hb).mono ?_; rintro e w8 ⟨vb, i8, j8, rfl, hRb, hbb⟩; rw [← HLA.out, ← HT1.out] at hRb; have HRB := Aside0.mk hRb; have HB8 := Aside0.mk (HB7.out.step hbb); have HW8 := Aside0.mk (HW7.out.trans (hbb.mono HW7.out.size)); have HH8 := Aside0.mk (HHA.out.below (by rw [HT1.out]; omega) hbb); clear hRb hbb))
          have hln := HSM.out.1
          have HKW := Aside0.mk (show KW w w8 w8 T0 T1 from KW.start HB8.out.below)
          go_wp2_with fail
          go_loopw [13, 14] (fun i _ wr => ∃ k : Nat, k ≤ la.length ∧ i = .int .i64 k ∧ Aside0 (KW w w8 wr T0 T1)) (fun i _ _ => la.length - (intOf i).toNat)
          case atStart => exact ⟨0, by omega, rfl, HKW⟩
          case round =>
            clear HKW
            obtain ⟨k, hk, rfl, HKW⟩ := hrel
            rename World => wr
            by_cases hlt : k < la.length
            · have hd : decide ((k : Int) < la.length) = true := by simp; omega
              obtain ⟨ad, Ai, ci, hA, h2, h3, h4, h5⟩ := HH8.out.at_ k hlt
              subst hA
              have HHD := Aside0.mk (fun (wr : World) (h : KW w w8 wr T0 T1) => h.head h2 h3 h4)
              have hkl := HSM.out.2 _ (sg_mem la k hlt)
              obtain ⟨n, hn⟩ : ∃ n, n = (sg la k).keep.length := ⟨_, rfl⟩
              rw [← hn] at HHD h5 hkl
              have H5 := Aside0.mk h5
              clear h2 h3 h4 h5 hn
              go_wp2_with fail
              go_loopw [14] (fun j wr => ∃ m : Nat, m ≤ n ∧ j = .int .i64 m ∧ Aside0 (KW w w8 wr T0 T1)) (fun j _ => n - (intOf j).toNat)
              case atStart => exact ⟨0, by omega, rfl, HKW⟩
              case round =>
                clear HKW
                obtain ⟨m, hm, rfl, HKW⟩ := hrel
                rename World => wr
                have hq := HHD.out wr HKW.out
                rw [add_j _ _ _ (by decide)] at hq
                by_cases hlt2 : m < n
                · have hd2 : decide ((m : Int) < n) = true := by simp; omega
                  obtain ⟨t, rfl, h6, h7, cells, h8, h9⟩ := H5.out (by omega)
                  obtain ⟨⟨u, hsp⟩, hsf⟩ := HKW.out.spot h7 h8 h9 m hlt2
                  have HPUT := Aside0.mk (HKW.out.put HT.out.1 h6 h7 h8 m (.int .i64 (-7)))
                  clear h6 h8 h9
                  go_wp2_with fail
                  go_roundw
                  case rel => exact ⟨m + 1, by omega, by go_num, HPUT⟩
                  case measure => simp [intOf]; omega
                · obtain rfl : m = n := by omega
                  have hd2 : decide ((m : Int) < m) = false := by simp
                  go_wp2_with fail
                  go_roundw
                  case rel => exact ⟨k + 1, by omega, by go_num, HKW⟩
                  case measure => simp [intOf]; omega
            · obtain rfl : k = la.length := by omega
              have hd : decide ((la.length : Int) < la.length) = false := by simp
              obtain ⟨Ab, cb, rfl, hlb, _⟩ := Kd.R_reads HRB.out
              have HCB := Aside0.mk (fun (wr : World) (h : KW w w8 wr T0 T1) => show k41.C wr Ab la.length la from (Kd.R_reads' (h.row HRB.out (fun k _ hk => Or.inr hk))).2.2)
              have HKK := Aside0.mk (fun (wr : World) (h : KW w w8 wr T0 T1) => show kk.C wr Av l.length (l.map Step.keep) from by
                have h1 := (Kd.R_reads' (h.row (Kd.R_below HRR.out HW8.out) (fun k hk _ => Or.inl (by have h7 := HT.out.2.2; omega)))).2.2
                rwa [List.length_map] at h1)
              have HCL := Aside0.mk (fun (wr : World) (h : KW w w8 wr T0 T1) => Kd.C_below HST.out.cells h.bel)
              clear HRB hlb HH8
              go_wp2_with fail
              go_loopw [15, 16] (fun i _ wr => ∃ k : Nat, k ≤ la.length ∧ i = .int .i64 k ∧ Aside0 (KW w w8 wr T0 T1)) (fun i _ _ => la.length - (intOf i).toNat)
              case atStart => exact ⟨0, by omega, rfl, HKW⟩
              case round =>
                clear HKW
                obtain ⟨k, hk, rfl, HKW⟩ := hrel
                rename World => wr
                by_cases hlt : k < la.length
                · have hd : decide ((k : Int) < la.length) = true := by simp; omega
                  have hkl := HSM.out.2 _ (sg_mem la k hlt)
                  have HPX := Aside0.mk (HPO.out _ (sg_mem la k hlt))
                  have HAT := Aside0.mk (fun (wr : World) (h : KW w w8 wr T0 T1) => at41 (HCB.out wr h) k hlt)
                  obtain ⟨x, hx⟩ : ∃ x, x = sg la k := ⟨_, rfl⟩
                  rw [← hx] at HAT HPX hkl
                  obtain ⟨ad0, _, _, hA, _⟩ := HAT.out wr HKW.out
                  subst hA
                  clear hx
                  go_wp2_with fail
                  go_loopw [16] (fun j wr => ∃ m : Nat, m ≤ x.keep.length ∧ j = .int .i64 m ∧ Aside0 (KW w w8 wr T0 T1)) (fun j _ => x.keep.length - (intOf j).toNat)
                  case atStart => exact ⟨0, by omega, rfl, HKW⟩
                  case round =>
                    clear HKW
                    obtain ⟨m, hm, rfl, HKW⟩ := hrel
                    rename World => wr
                    obtain ⟨ad, Ak, ck, hA, hcx, hxl, hkc, hkC⟩ := HAT.out wr HKW.out
                    injection hA with hA
                    subst hA
                    have hq := step_at39 hxl hcx
                    rw [add_j _ _ _ (by decide)] at hq
                    by_cases hlt2 : m < x.keep.length
                    · have hd2 : decide ((m : Int) < x.keep.length) = true := by simp; omega
                      obtain ⟨bd, rfl, hy⟩ := atK hkC m hlt2
                      have hpos : 0 ≤ x.keep.getD m 0 := HPX.out _ (by rw [List.getD_eq_getElem?_getD, List.getElem?_eq_getElem hlt2]; exact List.getElem_mem _)
                      obtain ⟨y, hyy⟩ : ∃ y, y = x.keep.getD m 0 := ⟨_, rfl⟩
                      rw [← hyy] at hy hpos
                      have hd3 : decide (y < 0) = false := by simp; omega
                      clear hcx hkC hyy
                      go_wp2_with fail
                      go_roundw
                      case rel => exact ⟨m + 1, by omega, by go_num, HKW⟩
                      case measure => simp [intOf]; omega
                    · obtain rfl : m = x.keep.length := by omega
                      have hd2 : decide ((x.keep.length : Int) < x.keep.length) = false := by simp
                      clear hcx hkC
                      go_wp2_with fail
                      go_roundw
                      case rel => exact ⟨k + 1, by omega, by go_num, HKW⟩
                      case measure => simp [intOf]; omega
                · obtain rfl : k = la.length := by omega
                  have hd : decide ((la.length : Int) < la.length) = false := by simp
                  clear HCB
                  go_wp2_with fail
                  go_loopw [17, 18] (fun i _ wr => ∃ k : Nat, k ≤ l.length ∧ i = .int .i64 k ∧ Aside0 (KW w w8 wr T0 T1)) (fun i _ _ => l.length - (intOf i).toNat)
                  case atStart => exact ⟨0, by omega, rfl, HKW⟩
                  case round =>
                    clear HKW
                    obtain ⟨k, hk, rfl, HKW⟩ := hrel
                    rename World => wr
                    by_cases hlt : k < l.length
                    · have hd : decide ((k : Int) < l.length) = true := by simp; omega
                      have hkl := HST.out.keep _ (sg_mem l k hlt)
                      have HAT := Aside0.mk (fun (wr : World) (h : KW w w8 wr T0 T1) => at41 (HCL.out wr h) k hlt)
                      have HAK := Aside0.mk (fun (wr : World) (h : KW w w8 wr T0 T1) => atKK (HKK.out wr h) k hlt)
                      have hgm : (l.map Step.keep).getD k [] = (sg l k).keep := by
                        unfold sg
                        rw [List.getD_eq_getElem?_getD, List.getD_eq_getElem?_getD, List.getElem?_map, List.getElem?_eq_getElem hlt]; rfl
                      rw [hgm] at HAK
                      obtain ⟨x, hx⟩ : ∃ x, x = sg l k := ⟨_, rfl⟩
                      rw [← hx] at HAT HAK hkl
                      obtain ⟨ad0, _, _, hA, _⟩ := HAT.out wr HKW.out
                      subst hA
                      obtain ⟨ad1, _, _, hA, _⟩ := HAK.out wr HKW.out
                      subst hA
                      clear hx hgm
                      go_wp2_with fail
                      go_loopw [18] (fun j wr => ∃ m : Nat, m ≤ x.keep.length ∧ j = .int .i64 m ∧ Aside0 (KW w w8 wr T0 T1)) (fun j _ => x.keep.length - (intOf j).toNat)
                      case atStart => exact ⟨0, by omega, rfl, HKW⟩
                      case round =>
                        clear HKW
                        obtain ⟨m, hm, rfl, HKW⟩ := hrel
                        rename World => wr
                        obtain ⟨ad, Ak, ck, hA, hcx, hxl, hkc, hkC⟩ := HAT.out wr HKW.out
                        injection hA with hA
                        subst hA
                        have hq := step_at39 hxl hcx
                        rw [add_j _ _ _ (by decide)] at hq
                        obtain ⟨ad2, Bk, dk, hA, hq2, hkD⟩ := HAK.out wr HKW.out
                        injection hA with hA
                        subst hA
                        by_cases hlt2 : m < x.keep.length
                        · have hd2 : decide ((m : Int) < x.keep.length) = true := by simp; omega
                          obtain ⟨bd, rfl, hy⟩ := atK hkC m hlt2
                          obtain ⟨bd2, rfl, hy2⟩ := atK hkD m hlt2
                          obtain ⟨y, hyy⟩ : ∃ y, y = x.keep.getD m 0 := ⟨_, rfl⟩
                          rw [← hyy] at hy hy2
                          have hd3 : (y != y) = false := by simp
                          clear hcx hkC hkD hyy
                          go_wp2_with fail
                          go_quiet (fail)
                          go_wp2_with fail
                          go_roundw
                          case rel => exact ⟨m + 1, by omega, by go_num, ⟨HKW.out.drewN _⟩⟩
                          case measure => simp [intOf]; omega
                        · obtain rfl : m = x.keep.length := by omega
                          have hd2 : decide ((x.keep.length : Int) < x.keep.length) = false := by simp
                          clear hcx hkC hkD
                          go_wp2_with fail
                          go_roundw
                          case rel => exact ⟨k + 1, by omega, by go_num, HKW⟩
                          case measure => simp [intOf]; omega
                    · obtain rfl : k = l.length := by omega
                      have hd : decide ((l.length : Int) < l.length) = false := by simp
                      go_wp2_with fail
                      go_ret
                      exact ⟨rfl, HKW.out.bel⟩
    · have hd0 : decide ((s.size : Int) > 3000) = true := by simp; omega
      clear hfa hC hg hfw hkw hE
      go_enter Tryd.func8, Tryd.ntmps8
      go_wp2_with (first | (go_at_call 10; first | (refine (HAW.out _ HK2.out.below).mono ?_; rintro e w3 ⟨rfl, hbb⟩; have HK3 := Aside0.mk (HK2.out.step hbb); clear hbb) | (refine (HAW.out _ HK.out.below).mono ?_; rintro e w1 ⟨rfl, hbb⟩; have HK1 := Aside0.mk (HK.out.step hbb); clear hbb)) | (go_at_call 15; refine (HFA.out _ HK1.out.below).mono ?_; rintro e w2 ⟨rfl, hbb⟩; rw [HA1.out]; have HK2 := Aside0.mk (HK1.out.step hbb); clear hbb))
      go_ret
      exact ⟨rfl, HK3.out.below⟩
  · have HA1 := Aside0.mk (show fewB l = false by simpa using hfa)
    clear hfa hC hg hfw hkw hE
    go_enter Tryd.func8, Tryd.ntmps8
    go_wp2_with (first | (go_at_call 10; first | (refine (HAW.out _ HK2.out.below).mono ?_; rintro e w3 ⟨rfl, hbb⟩; have HK3 := Aside0.mk (HK2.out.step hbb); clear hbb) | (refine (HAW.out _ HK.out.below).mono ?_; rintro e w1 ⟨rfl, hbb⟩; have HK1 := Aside0.mk (HK.out.step hbb); clear hbb)) | (go_at_call 15; refine (HFA.out _ HK1.out.below).mono ?_; rintro e w2 ⟨rfl, hbb⟩; rw [HA1.out]; have HK2 := Aside0.mk (HK1.out.step hbb); clear hbb))
    go_ret
    exact ⟨rfl, HK3.out.below⟩
theorem row_keeps (w : World) (hE : Env w) (A : Option Addr) (c : Nat) (l : List Step) (hlc : l.length ≤ c) (hC : k41.C w A l.length l) (hg : l.length * Tryd.prog.bytesOf 41 ≤ reachBytes ∧ ∀ x ∈ l, gStep x) (s : ByteArray) (hs : s.size ≤ maxLen) : Calls Tryd.prog 8 #[.slice A l.length c, .string s] w fun e w' => e = .returned (.bool true) ∧ Below w.heap.size w w' := by
  obtain ⟨h1, h2, h3⟩ := args_good hC hg
  exact law_keeps w hE A c l hC h1 h2 h3 s
end Go.Proofs.YtagpldkgkchfcaaDoor.Txt
