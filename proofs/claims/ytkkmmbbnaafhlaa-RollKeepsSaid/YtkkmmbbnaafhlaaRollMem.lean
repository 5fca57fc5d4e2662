/- Layer 15: records found, changes, groups, as they lie in memory; a copy of a slice. -/
import Derived.Test.YtkkmmbbnaafhlaaPRollJoinx
import Derived.Test.YtkkmmbbnaafhlaaPRollDoesx
import Derived.Test.YtkkmmbbnaafhlaaSec
import Derived.Test.YtkkmmbbnaafhlaaDec
namespace Go.Proofs.Ytkkmmbbnaafhlaa.Roll
set_option linter.unusedSimpArgs false
set_option linter.unusedVariables false
open Go.RowKit Go.Proofs.YtkkmmbbnaafhlaaW.PrintWords Go.Proofs.YtkkmmbbnaafhlaaW.PrintLast Go.Proofs.YtkkmmbbnaafhlaaW.PrintMore Arr PRollJoin

structure Rec where
  kind : Int
  epoch : Int
  seq : Int
  block : Int
  count : Int
  data : List Int
structure Found where
  place : Int
  rc : Rec
def recC (r : Rec) : List Value := [.int .i64 r.kind, .int .i64 r.epoch, .int .i64 r.seq, .int .i64 r.block, .int .i64 r.count] ++ encs (Value.int .u8) r.data
def foundC (f : Found) : List Value := [.int .i64 f.place] ++ recC f.rc
def k39 : Kd Rec := Kd.iso (Kd.pair (Kd.int .i64) (Kd.pair (Kd.int .i64) (Kd.pair (Kd.int .i64) (Kd.pair (Kd.int .i64) (Kd.pair (Kd.int .i64) (Dec.ints .u8 32)))))) (fun r : Rec => (r.kind, r.epoch, r.seq, r.block, r.count, r.data))
def k41 : Kd Found := Kd.iso (Kd.pair (Kd.int .i64) k39) (fun f : Found => (f.place, f.rc))
theorem k39_open {w : World} {r : Rec} {cs : List Value} (h : k39.K w r cs) : cs = recC r ∧ r.data.length = 32 := by
  obtain ⟨_, _, rfl, rfl, ⟨_, _, rfl, rfl, ⟨_, _, rfl, rfl, ⟨_, _, rfl, rfl, ⟨_, _, rfl, rfl, h5, h6⟩⟩⟩⟩⟩ := h
  refine ⟨?_, h5⟩
  rw [h6]; rfl
theorem k41_open {w : World} {f : Found} {cs : List Value} (h : k41.K w f cs) : cs = foundC f ∧ f.rc.data.length = 32 := by
  obtain ⟨_, _, rfl, rfl, h5⟩ := h
  obtain ⟨rfl, h6⟩ := k39_open h5
  exact ⟨rfl, h6⟩
theorem k39_mkM (w : World) (base : Nat) (ok : Nat → Prop) (r : Rec) (h : r.data.length = 32) : k39.M w base ok r (recC r) :=
  ⟨[.int .i64 r.kind], _, rfl, rfl, ⟨[.int .i64 r.epoch], _, rfl, rfl, ⟨[.int .i64 r.seq], _, rfl, rfl, ⟨[.int .i64 r.block], _, rfl, rfl, ⟨[.int .i64 r.count], encs (Value.int .u8) r.data, rfl, rfl, ⟨h, rfl⟩⟩⟩⟩⟩⟩
theorem k41_mkM (w : World) (base : Nat) (ok : Nat → Prop) (f : Found) (h : f.rc.data.length = 32) : k41.M w base ok f (foundC f) :=
  ⟨[.int .i64 f.place], recC f.rc, rfl, rfl, k39_mkM w base ok f.rc h⟩
theorem k41_sz : k41.sz = 38 := by kernel_rfl
def gRec (r : Rec) : Prop := (Lit.int .i64 r.kind).wf = true ∧ (Lit.int .i64 r.epoch).wf = true ∧ (Lit.int .i64 r.seq).wf = true ∧ (Lit.int .i64 r.block).wf = true ∧ (Lit.int .i64 r.count).wf = true ∧ ∀ x ∈ r.data, (Lit.int .u8 x).wf = true
def gFound (f : Found) : Prop := (Lit.int .i64 f.place).wf = true ∧ gRec f.rc
def gChg (c : S44) : Prop := (Lit.int .i64 c.f0).wf = true ∧ (Lit.int .i64 c.f1).wf = true
def gGrp (g : S28) : Prop := True ∧ (Lit.int .i64 g.f1).wf = true ∧ ∀ c ∈ g.f2, gChg c
section
attribute [local irreducible] Dec.Dec Dec.DecF
theorem dec37 : Dec.Dec Try.prog 37 (Dec.ints .u8 32) (fun l => ∀ x ∈ l, (Lit.int .u8 x).wf = true) := Dec.dec_ints Try.underlying37 Try.underlying5 (by kernel_rfl) (by kernel_rfl)
theorem dec39 : Dec.Dec Try.prog 39 k39 gRec :=
  Dec.dec_struct (k := Kd.pair (Kd.int .i64) (Kd.pair (Kd.int .i64) (Kd.pair (Kd.int .i64) (Kd.pair (Kd.int .i64) (Kd.pair (Kd.int .i64) (Dec.ints .u8 32))))))
    (G := fun x => (Lit.int .i64 x.1).wf = true ∧ (Lit.int .i64 x.2.1).wf = true ∧ (Lit.int .i64 x.2.2.1).wf = true ∧ (Lit.int .i64 x.2.2.2.1).wf = true ∧ (Lit.int .i64 x.2.2.2.2.1).wf = true ∧ ∀ y ∈ x.2.2.2.2.2, (Lit.int .u8 y).wf = true)
    (pr := fun r : Rec => (r.kind, r.epoch, r.seq, r.block, r.count, r.data)) Try.underlying39 (by kernel_rfl)
    (Dec.decf_cons (Dec.dec_int Try.underlying3) rfl (by kernel_rfl) (Dec.decf_cons (Dec.dec_int Try.underlying3) rfl (by kernel_rfl) (Dec.decf_cons (Dec.dec_int Try.underlying3) rfl (by kernel_rfl) (Dec.decf_cons (Dec.dec_int Try.underlying3) rfl (by kernel_rfl) (Dec.decf_cons (Dec.dec_int Try.underlying3) rfl (by kernel_rfl) (Dec.decf_one (Dec.dec_ints Try.underlying37 Try.underlying5 (by kernel_rfl) (by kernel_rfl)) rfl (by kernel_rfl))))))) (fun ⟨a, b, c, d, e, f⟩ => ⟨⟨a, b, c, d, e, f⟩, rfl⟩)
theorem dec41 : Dec.Dec Try.prog 41 k41 gFound :=
  Dec.dec_struct (k := Kd.pair (Kd.int .i64) k39) (G := fun x => (Lit.int .i64 x.1).wf = true ∧ gRec x.2) (pr := fun f : Found => (f.place, f.rc)) Try.underlying41 (by kernel_rfl)
    (Dec.decf_cons (Dec.dec_int Try.underlying3) rfl (by kernel_rfl) (Dec.decf_one (by exact dec39) rfl (by kernel_rfl))) (fun ⟨a, b⟩ => ⟨⟨a, b⟩, rfl⟩)
theorem dec33 : Dec.Dec Try.prog 33 (Kd.slice 41 k41) (fun l => ∀ x ∈ l, gFound x) := Dec.dec_slice Try.underlying33 dec41 (by kernel_rfl)
theorem dec22 : Dec.Dec Try.prog 22 (Kd.slice 3 (Kd.int .i64)) (fun l => ∀ x ∈ l, (Lit.int .i64 x).wf = true) := Dec.dec_slice Try.underlying22 (Dec.dec_int Try.underlying3) (by kernel_rfl)
theorem dec44 : Dec.Dec Try.prog 44 k44 gChg :=
  Dec.dec_struct (k := Kd.pair (Kd.int .i64) (Kd.int .i64)) (G := fun x => (Lit.int .i64 x.1).wf = true ∧ (Lit.int .i64 x.2).wf = true) (pr := fun x : S44 => (x.f0, x.f1)) Try.underlying44 (by kernel_rfl)
    (Dec.decf_cons (Dec.dec_int Try.underlying3) rfl (by kernel_rfl) (Dec.decf_one (Dec.dec_int Try.underlying3) rfl (by kernel_rfl))) (fun ⟨a, b⟩ => ⟨⟨a, b⟩, rfl⟩)
theorem dec26 : Dec.Dec Try.prog 26 (Kd.slice 44 k44) (fun l => ∀ x ∈ l, gChg x) := Dec.dec_slice Try.underlying26 dec44 (by kernel_rfl)
theorem dec28 : Dec.Dec Try.prog 28 k28 gGrp :=
  Dec.dec_struct (k := Kd.pair Kd.bool (Kd.pair (Kd.int .i64) (Kd.slice 44 k44))) (G := fun x => True ∧ (Lit.int .i64 x.2.1).wf = true ∧ ∀ c ∈ x.2.2, gChg c) (pr := fun x : S28 => (x.f0, x.f1, x.f2)) Try.underlying28 (by kernel_rfl)
    (Dec.decf_cons (Dec.dec_bool Try.underlying4) rfl (by kernel_rfl) (Dec.decf_cons (Dec.dec_int Try.underlying3) rfl (by kernel_rfl) (Dec.decf_one (Dec.dec_slice Try.underlying26 dec44 (by kernel_rfl)) rfl (by kernel_rfl)))) (fun ⟨a, b, c⟩ => ⟨⟨a, b, c⟩, rfl⟩)
theorem dec23 : Dec.Dec Try.prog 23 (Kd.slice 28 k28) (fun l => ∀ x ∈ l, gGrp x) := Dec.dec_slice Try.underlying23 dec28 (by kernel_rfl)
end
/-! ### a kind whose memory lies in a block that is named -/
def tag {α : Type} (d : Kd α) : Kd (α × Nat) where
  sz := d.sz
  E := d.E
  K := fun w x cs => d.K w x.1 cs
  M := fun w base ok x cs => d.M w base (fun k => ok k ∧ k = x.2) x.1 cs
  K_len := d.K_len
  K_one := d.K_one
  K_below := d.K_below
  K_of_M := d.K_of_M
  M_mono := fun hok h => d.M_mono (fun k hk => ⟨hok k hk.1, hk.2⟩) h
  M_bound := fun h => d.M_mono (fun k hk => ⟨⟨hk.1.1, hk.2⟩, hk.1.2⟩) (d.M_bound h)
  M_move := fun hm h => d.M_move (fun k hk => hm k hk.1) h
  M_lower := fun hb h => d.M_lower hb h
theorem tag_sz {α : Type} (d : Kd α) : (tag d).sz = d.sz := rfl
theorem C_untag {α : Type} {d : Kd α} {w : World} {A : Option Addr} {n : Nat} {xs : List (α × Nat)} (h : (tag d).C w A n xs) : d.C w A n (xs.map Prod.fst) := by
  obtain ⟨h1, h2, h3⟩ := h
  refine ⟨by rw [List.length_map]; exact h1, h2, fun hn => ?_⟩
  obtain ⟨ad, e, h4⟩ := h3 hn
  refine ⟨ad, e, fun j p hp => ?_⟩
  rw [List.getElem?_map] at hp
  obtain ⟨q, hq, rfl⟩ := Option.map_eq_some_iff.1 hp
  exact h4 j q hq
/-- A row of tagged things, away from a block that none of them lies in. -/
theorem Q_away_tag {α : Type} {d : Kd α} {e : Nat} {w : World} {base : Nat} {ok : Nat → Prop} {v : Value} {xs : List (α × Nat)} (h : (tag d).Q e w base ok v xs) {b : Nat} (hv : some b ≠ v.ownBlock) (ht : ∀ x ∈ xs, x.2 ≠ b) : (tag d).Q e w base (fun k => ok k ∧ k ≠ b) v xs := by
  obtain ⟨h1, inner, h2, h3, h4⟩ := h
  refine ⟨fun k hk => ⟨h1 k hk, fun e => hv (by rw [← e]; exact hk.symm)⟩, inner, h2, h3, fun j p hp => ?_⟩
  have hm := List.mem_of_getElem? hp
  exact d.M_mono (fun k hk => ⟨⟨⟨hk.1.1, fun e => ht p hm (by rw [← hk.2]; exact e)⟩, hk.1.2⟩, hk.2⟩) (h4 j p hp)
theorem R_away_tag {α : Type} {d : Kd α} {e : Nat} {w : World} {base : Nat} {ok : Nat → Prop} {v : Value} {xs : List (α × Nat)} (h : (tag d).R e w base ok v xs) {b : Nat} (hv : some b ≠ v.ownBlock) (ht : ∀ x ∈ xs, x.2 ≠ b) : (tag d).R e w base (fun k => ok k ∧ k ≠ b) v xs := by
  obtain ⟨h1, inner, h2, h3, h4⟩ := h
  refine ⟨fun k hk => ⟨h1 k hk, fun e => hv (by rw [← e]; exact hk.symm)⟩, inner, h2, h3, fun j p hp => ?_⟩
  have hm := List.mem_of_getElem? hp
  exact d.M_mono (fun k hk => ⟨⟨⟨hk.1.1, fun e => ht p hm (by rw [← hk.2]; exact e)⟩, hk.1.2⟩, hk.2⟩) (h4 j p hp)
/-! ### changes, groups -/
abbrev RI (w : World) (B : Nat) (v : Value) (l : List Int) : Prop := Kd.R (Kd.int .i64) 3 w B (fun _ => True) v l
abbrev RC (w : World) (B : Nat) (v : Value) (l : List S44) : Prop := Kd.R k44 44 w B (fun _ => True) v l
theorem info3 : (Try.prog.info? 3).map (fun i => (i.zero, i.size, i.bytes)) = some (some (.int .i64 0), 1, 8) := by kernel_rfl
theorem info44 : (Try.prog.info? 44).map (fun i => (i.zero, i.size, i.bytes)) = some (some (.agg #[.int .i64 0, .int .i64 0]), k44.sz, 16) := by kernel_rfl
theorem info28 : (Try.prog.info? 28).map (fun i => (i.zero, i.size, i.bytes)) = some (some (.agg #[.bool false, .int .i64 0, .slice none 0 0]), (tag k28).sz, 40) := by kernel_rfl
theorem bounds_i64 {x : Int} (h : (Lit.int .i64 x).wf = true) : -9223372036854775808 ≤ x ∧ x ≤ 9223372036854775807 := by
  simp [Lit.wf, IntKind.min, IntKind.max, IntKind.signed, IntKind.bits] at h
  omega
theorem bounds_u8 {x : Int} (h : (Lit.int .u8 x).wf = true) : 0 ≤ x ∧ x ≤ 255 := by
  simp [Lit.wf, IntKind.min, IntKind.max, IntKind.signed, IntKind.bits] at h
  omega
theorem M44 (w : World) (base : Nat) (ok : Nat → Prop) {x : S44} {cs : List Value} {w0 : World} (h : k44.K w0 x cs) : k44.M w base ok x cs := by
  obtain rfl := k44_open h
  exact k44_mkM w base ok x
section
variable {ops : Array Oper} {rest : List Oper} {o : Oper} {a : Act} {Q : Exit → Act → World → Prop} {w0 W : World} {B : Nat}
/-- A slice of changes appended, whole. -/
theorem apps44 (hgd : o.guard = none) (s x : Operand) (ho : o.op = .call { callee := .builtin .append, args := #[s, x], argTypes := #[26, 26] })
    (v : Value) (l ys : List S44) (A : Option Addr) (m c : Nat) (hs : a.eval s = v) (hx : a.eval x = .slice A m c) (HO : RC W B v l) (HR : k44.C W A m ys) (HB : Below B w0 W) (hb : B ≤ W.heap.size) (hl : l.length + m ≤ 100000)
    (h : ∀ v1 w1, RC w1 B v1 (l ++ ys) → Below B w0 w1 → W.grownBy w1 v.ownBlock → wpList Try.prog ops Q rest (a.put o.dst v1) w1) : wpList Try.prog ops Q (o :: rest) a W :=
  Kd.R_append_rows (P := Try.prog) k44 (w0 := w0) B hgd s x 26 44 (.agg #[.int .i64 0, .int .i64 0]) 16 ho Try.underlying26 info44 rfl (by decide) (by omega) v l ys A m c (fun _ => True) (fun _ => False) hs hx HO HR (fun x cs h => M44 _ _ _ h) (fun _ hk => hk.elim) (fun _ _ => trivial) HB hb (by omega)
    (fun v1 w1 h1 h2 h3 _ => h v1 w1 h1 h2 h3)
/-- A change appended. -/
theorem app44 (hgd : o.guard = none) (s x : Operand) (ho : o.op = .call { callee := .builtin .append, args := #[s, x], argTypes := #[26, 26] })
    (v : Value) (l : List S44) (b p : Int) (hs : a.eval s = v) (hx : a.eval x = .slice (some ⟨W.heap.size, 0, none⟩) 1 1) (HO : RC W B v l) (HB : Below B w0 W) (hb : B ≤ W.heap.size) (hl : l.length ≤ 100000)
    (h : ∀ v1 w1, RC w1 B v1 (l ++ [⟨b, p⟩]) → Below B w0 w1 → W.grownBy w1 v.ownBlock → (v1.ownBlock = v.ownBlock ∨ ∃ b, v1.ownBlock = some b ∧ W.heap.size ≤ b) → wpList Try.prog ops Q rest (a.put o.dst v1) w1) : wpList Try.prog ops Q (o :: rest) a (W.alloc (.cells #[.int .i64 b, .int .i64 p] 44)) :=
  Kd.R_append k44 (w0 := w0) B hgd s x 26 44 (.agg #[.int .i64 0, .int .i64 0]) 16 ho Try.underlying26 info44 rfl (by decide) (by omega) v l ⟨b, p⟩ [.int .i64 b, .int .i64 p] (fun _ => True) (fun _ => False) hs hx (k44_mkM _ _ _ _) (fun _ hk => hk.elim) (fun _ _ => trivial) HO HB hb (by omega)
    fun v1 w1 h1 h2 h3 h4 => h v1 w1 h1 h2 h3 h4
/-- Numbers appended, whole. -/
theorem apps22 (hgd : o.guard = none) (s x : Operand) (ho : o.op = .call { callee := .builtin .append, args := #[s, x], argTypes := #[22, 22] })
    (v : Value) (l ys : List Int) (A : Option Addr) (m c : Nat) (hs : a.eval s = v) (hx : a.eval x = .slice A m c) (HO : RI W B v l) (HR : (Kd.int .i64).C W A m ys) (HB : Below B w0 W) (hb : B ≤ W.heap.size) (hl : l.length + m ≤ 100000)
    (h : ∀ v1 w1, RI w1 B v1 (l ++ ys) → Below B w0 w1 → W.grownBy w1 v.ownBlock → wpList Try.prog ops Q rest (a.put o.dst v1) w1) : wpList Try.prog ops Q (o :: rest) a W :=
  Kd.R_append_rows (P := Try.prog) (Kd.int .i64) (w0 := w0) B hgd s x 22 3 (.int .i64 0) 8 ho Try.underlying22 info3 rfl (by decide) (by omega) v l ys A m c (fun _ => True) (fun _ => False) hs hx HO HR (fun x cs h => h) (fun _ hk => hk.elim) (fun _ _ => trivial) HB hb (by omega)
    (fun v1 w1 h1 h2 h3 _ => h v1 w1 h1 h2 h3)
end
theorem lit0 (W : World) (base : Nat) {α : Type} (d : Kd α) (e : Nat) (hb : base ≤ W.heap.size) : Kd.R d e (W.alloc (.cells #[] e)) base (fun _ => True) (.slice (some ⟨W.heap.size, 0, none⟩) 0 0) [] :=
  ⟨fun _ _ => trivial, OwnRow.lit W base (ps := ([] : List α)) (inner := []) (Reps.none _ _) hb (by simp)⟩
set_option maxHeartbeats 1000000 in
theorem clone22_calls (w : World) (A : Option Addr) (c : Nat) (l : List Int) (hC : (Kd.int .i64).C w A l.length l) (hl : l.length ≤ 100000) : Calls Try.prog 36 #[.slice A l.length c] w fun e w' => ∃ v, e = .returned v ∧ RI w' w.heap.size v l ∧ Below w.heap.size w w' := by
  have HC := Aside0.mk hC
  have HB := Aside0.mk (Below.refl w.heap.size w)
  rcases A with _ | ad
  · have h0 : l = [] := by
      rcases Nat.eq_zero_or_pos l.length with h0 | h0
      · exact List.eq_nil_of_length_eq_zero h0
      · obtain ⟨ad, h, _⟩ := hC.2.2 h0
        cases h
    subst h0
    clear hC
    have hnil := Lib.run_eql_slice_nil (P := Try.prog) w 22 3 none 0 c 0 0 Try.underlying22
    go_enter Try.func36, Try.ntmps36
    go_wp2
    go_ret
    exact ⟨_, rfl, Kd.R_nil _ _ _ _ _, HB.out⟩
  · clear hC
    have hnil := Lib.run_eql_slice_nil (P := Try.prog) w 22 3 (some ad) l.length c 0 0 Try.underlying22
    go_enter Try.func36, Try.ntmps36
    go_wp2_with (first | ((with_reducible refine gate_dst (N := 7) rfl ?_); refine apps22 rfl (.tmp 5) (.tmp 6) rfl (.slice (some ⟨w.heap.size, 0, none⟩) 0 0) [] l (some ad) l.length c rfl rfl (lit0 w w.heap.size _ 3 (Nat.le_refl _)) (Kd.C_alloc HC.out _) (w0 := w) (below_alloc HB.out _) (by simp) (by simp; omega) ?_; intro v1 w1 h1 h2 h3; have H1 := Aside0.mk h1; have H2 := Aside0.mk h2; clear h1 h2 h3))
    go_ret
    exact ⟨_, rfl, H1.out, H2.out⟩
set_option maxHeartbeats 1000000 in
theorem clone26_calls (w : World) (A : Option Addr) (c : Nat) (l : List S44) (hC : k44.C w A l.length l) (hl : l.length ≤ 100000) : Calls Try.prog 37 #[.slice A l.length c] w fun e w' => ∃ v, e = .returned v ∧ RC w' w.heap.size v l ∧ Below w.heap.size w w' := by
  have HC := Aside0.mk hC
  have HB := Aside0.mk (Below.refl w.heap.size w)
  rcases A with _ | ad
  · have h0 : l = [] := by
      rcases Nat.eq_zero_or_pos l.length with h0 | h0
      · exact List.eq_nil_of_length_eq_zero h0
      · obtain ⟨ad, h, _⟩ := hC.2.2 h0
        cases h
    subst h0
    clear hC
    have hnil := Lib.run_eql_slice_nil (P := Try.prog) w 26 44 none 0 c 0 0 Try.underlying26
    go_enter Try.func37, Try.ntmps37
    go_wp2
    go_ret
    exact ⟨_, rfl, Kd.R_nil _ _ _ _ _, HB.out⟩
  · clear hC
    have hnil := Lib.run_eql_slice_nil (P := Try.prog) w 26 44 (some ad) l.length c 0 0 Try.underlying26
    go_enter Try.func37, Try.ntmps37
    go_wp2_with (first | ((with_reducible refine gate_dst (N := 7) rfl ?_); refine apps44 rfl (.tmp 5) (.tmp 6) rfl (.slice (some ⟨w.heap.size, 0, none⟩) 0 0) [] l (some ad) l.length c rfl rfl (lit0 w w.heap.size _ 44 (Nat.le_refl _)) (Kd.C_alloc HC.out _) (w0 := w) (below_alloc HB.out _) (by simp) (by simp; omega) ?_; intro v1 w1 h1 h2 h3; have H1 := Aside0.mk h1; have H2 := Aside0.mk h2; clear h1 h2 h3))
    go_ret
    exact ⟨_, rfl, H1.out, H2.out⟩
end Go.Proofs.Ytkkmmbbnaafhlaa.Roll
