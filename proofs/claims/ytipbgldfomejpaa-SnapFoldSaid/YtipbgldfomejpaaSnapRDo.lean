/- The walk of layer 17's document's acts. -/
import Derived.Test.YtipbgldfomejpaaSnapRSize
namespace Go.Proofs.Ytipbgldfomejpaa.Snap
set_option linter.unusedSimpArgs false
set_option linter.unusedVariables false
open Go.RowKit Go.Proofs.YtipbgldfomejpaaW.PrintWords Go.Proofs.YtipbgldfomejpaaW.PrintLast Go.Proofs.YtipbgldfomejpaaW.PrintMore Arr

/-- A row of commits: each stands in an elder world. -/
def kA (W : World) : Kd (List Old) := Kd.fixed (Kd.slice 29 k29) W
abbrev RA (W w : World) (B : Nat) (v : Value) (all : All) : Prop := Kd.R (kA W) 32 w B (fun _ => True) v all
abbrev CA (W w : World) (A : Option Addr) (n : Nat) (all : All) : Prop := Kd.C (kA W) w A n all
theorem kA_sz (W : World) : (kA W).sz = 1 := rfl
theorem kA_open {W w : World} {l : List Old} {cs : List Value} (h : (kA W).K w l cs) : ∃ A c, cs = [.slice A l.length c] ∧ l.length ≤ c ∧ CO W A l.length l := h
theorem kA_mk (W w : World) {l : List Old} {A : Option Addr} {c : Nat} (h : l.length ≤ c) (hC : CO W A l.length l) : (kA W).K w l [.slice A l.length c] := ⟨A, c, rfl, h, hC⟩
theorem info32 : (Try.prog.info? 32).map (fun i => (i.zero, i.size, i.bytes)) = some (some (.slice none 0 0), 1, 24) := by kernel_rfl
theorem size45 : (Try.prog.info? 45).map (·.size) = some 2 := by kernel_rfl
theorem zero45 : (Try.prog.info? 45).map (·.zero) = some (some (.agg #[.slice none 0 0, .int .i64 0])) := by kernel_rfl
theorem CA_all {W w : World} {A : Option Addr} {all : All} (h : CA W w A all.length all) (hb : Below W.heap.size W w) : AllAt w A all := ⟨Kd.C_max h, fun i hi => by
  obtain ⟨ad, c, e, _, hK, hc⟩ := Kd.C_get h ([] : List Old) (i : Int) (by omega) (by omega)
  rw [Int.toNat_natCast] at hK hc
  obtain ⟨Ao, co, rfl, hl, hC⟩ := kA_open (w := w) hK
  refine ⟨ad, Ao, co, e, ?_, hl, Kd.C_below hC hb⟩
  have := hc 0 _ rfl
  rw [kA_sz, Nat.mul_one, Nat.add_zero] at this
  exact this⟩
def DocC (W : World) (T : Nat) (w : World) (A : Option Addr) (all : All) : Prop := CA W w A all.length all ∧ ∀ ad, A = some ad → 0 < all.length → T ≤ ad.block
section
variable {ops : Array Oper} {rest : List Oper} {o : Oper} {a : Go.Act} {Q : Exit → Go.Act → World → Prop} {W w0 Wf : World} {B : Nat} {Kc : Go.Act → World → Prop}
theorem box48 (hgd : o.guard = none) (x : Operand) (ho : o.op = .box 48 x) (f : Act) (A : Option Addr) (c : Nat) (hx : a.eval x = .agg #[.int .u8 f.kind, .slice A f.olds.length c, .int .i64 f.n])
    (h : ∀ w1 g, W.heap.size ≤ g → Blk w1 g 48 (actC f A c) → W.grownBy w1 none → wpList Try.prog ops Q rest (a.put o.dst (.pointer (some ⟨g, 0, none⟩))) w1) : wpList Try.prog ops Q (o :: rest) a W :=
  wpl_box hgd 48 x ho _ hx (actC f A c) rfl h
theorem alloc45 (hgd : o.guard = none) (ho : o.op = .alloc 45)
    (h : ∀ w1 g, W.heap.size ≤ g → Blk w1 g 45 (docV none 0 0 0) → W.grownBy w1 none → wpList Try.prog ops Q rest (a.put o.dst (.pointer (some ⟨g, 0, none⟩))) w1) : wpList Try.prog ops Q (o :: rest) a W :=
  wpl_alloc hgd 45 ho _ zero45 _ rfl h
theorem lit0A (N : Tmp) (hd : o.dst = some N) (ho : o.op = .buildSlice 43 0 #[]) (hg : o.guard = none) (HB : Below B w0 W) (hb : B ≤ W.heap.size)
    (h : ∀ v1 w1, RA Wf w1 B v1 [] → Below B w0 w1 → W.grownBy w1 none → Kc (a.put (some N) v1) w1) : Oper.wp Try.prog o a W Kc Q := by
  have hw : Region.wanted o (yielded #[] a.tmps) = true := by simp [Region.wanted, hg]
  have := Kd.R_lit_step (P := Try.prog) (ops := #[]) (o := o) (a := a) (Q := Q) (Kc := Kc) (kA Wf) (w0 := w0) B 32 hw (N := N) hd (xs := ([] : All)) (inner := []) (ok := fun _ => True) (okp := fun _ => True) (by simp only [execOp, ho]; kernel_rfl) (Reps.none _ _) (fun _ h => h) trivial HB hb (by simp)
    (fun v1 w1 h1 h2 h3 _ => by rw [hd]; exact h v1 w1 h1 h2 h3)
  rwa [if_pos hw] at this
theorem lit1A_run (x : Operand) (ho : o.op = .buildSlice 43 1 #[(0, x)]) (l : List Old) (A : Option Addr) (n c : Nat) (hx : a.eval x = .slice A n c) : (execOp a.eval o).run Try.prog W = .ok (.value (.slice (some ⟨W.heap.size, 0, none⟩) [l].length [l].length)) (W.alloc (.cells [.slice A n c].toArray 32)) := by
  simp only [execOp, ho, List.map_toArray, List.map_cons, List.map_nil, hx]
  kernel_rfl
theorem lit1A (N : Tmp) (hd : o.dst = some N) (x : Operand) (ho : o.op = .buildSlice 43 1 #[(0, x)]) (hg : o.guard = none) (l : List Old) (A : Option Addr) (c : Nat) (hlc : l.length ≤ c) (hC : CO Wf A l.length l) (hx : a.eval x = .slice A l.length c) (HB : Below B w0 W) (hb : B ≤ W.heap.size)
    (h : ∀ v1 w1, RA Wf w1 B v1 [l] → Below B w0 w1 → W.grownBy w1 none → Kc (a.put (some N) v1) w1) : Oper.wp Try.prog o a W Kc Q := by
  have hw : Region.wanted o (yielded #[] a.tmps) = true := by simp [Region.wanted, hg]
  have := Kd.R_lit_step (P := Try.prog) (ops := #[]) (o := o) (a := a) (Q := Q) (Kc := Kc) (kA Wf) (w0 := w0) B 32 hw (N := N) hd (xs := [l]) (inner := [.slice A l.length c]) (ok := fun _ => True) (okp := fun _ => False) (lit1A_run x ho l A _ c hx) (by
      refine ⟨rfl, fun i L' hL' => ?_⟩
      have hi : i = 0 := by have := (List.getElem?_eq_some_iff.1 hL').1; simp at this; omega
      subst hi
      have e : l = L' := by simpa using hL'
      subst e
      exact ⟨A, c, rfl, hlc, hC⟩) (fun _ h => h.elim) trivial HB hb (by simp)
    (fun v1 w1 h1 h2 h3 _ => by rw [hd]; exact h v1 w1 h1 h2 h3)
  rwa [if_pos hw] at this
theorem appsA (N : Tmp) (hd : o.dst = some N) (s x : Operand) (ho : o.op = .call { callee := .builtin .append, args := #[s, x], argTypes := #[43, 43] }) (hg : o.guard = none)
    (v : Value) (l ys : All) (A : Option Addr) (m c : Nat) (hs : a.eval s = v) (hx : a.eval x = .slice A m c) (HO : RA Wf W B v l) (HR : CA Wf W A m ys) (HB : Below B w0 W) (hb : B ≤ W.heap.size) (hl : l.length + m ≤ 1000000)
    (h : ∀ v1 w1, RA Wf w1 B v1 (l ++ ys) → Below B w0 w1 → W.grownBy w1 v.ownBlock → Kc (a.put (some N) v1) w1) : Oper.wp Try.prog o a W Kc Q := by
  have hw : Region.wanted o (yielded #[] a.tmps) = true := by simp [Region.wanted, hg]
  have := Kd.R_append_rows_step (P := Try.prog) (ops := #[]) (o := o) (a := a) (Q := Q) (Kc := Kc) (kA Wf) (w0 := w0) B hw s x 43 32 (.slice none 0 0) 24 ho Try.underlying43 info32 rfl (show 0 < 1 by decide) (by omega) v l ys A m c (fun _ => True) (fun _ => False) hs hx HO HR (fun L cs h => h) (fun _ hk => hk.elim) (fun _ _ => trivial) HB hb (by omega)
    (fun v1 w1 h1 h2 h3 _ => by rw [hd]; exact h v1 w1 h1 h2 h3)
  rwa [if_pos hw] at this
end
theorem results45 (tmps : Array Value) (w : World) (g : Nat) (cs : List Value) (hl : cs.length = 2) (hp : tmps.getD 4 undef = .pointer (some ⟨g, 0, none⟩)) (hb : Blk w g 45 cs) : (results Try.f19 tmps).run Try.prog w = .ok (.agg cs.toArray) w :=
  results_single (fn := Try.f19) (r := .cell 4 45) rfl (Vals.cell g 45 _ (0, 0) _ hp hb Try.underlying45 rfl (by rw [List.size_toArray, hl]; exact size45) Vals.nil)
def DoEnd (W : World) (T : Nat) (w : World) (st : All × Nat) (e : Ending) (w' : World) : Prop := ∃ A c, e = .returned (.agg (docV A st.1.length c st.2).toArray) ∧ DocC W T w' A st.1 ∧ Below w.heap.size w w'
theorem fin_commit {W w w' : World} {T : Nat} {all : All} {gone : Nat} {f : Act} {D : All × Nat} {G : Int} {q ce ge : Nat} (hD : D = if f.kind % 2 = 0 then (all ++ [f.olds], gone) else (all, max gone (min f.n all.length).toNat)) (hk : f.kind % 2 = 0) (hG : G = (gone : Int)) (hq : q = ([] ++ all ++ [f.olds]).length) (hC : CA W w' (some ⟨ge, 0, none⟩) ([] ++ all ++ [f.olds]).length ([] ++ all ++ [f.olds])) (hge : T ≤ ge) (hb : Below w.heap.size w w') :
    DoEnd W T w D (.returned (.agg (docV (some ⟨ge, 0, none⟩) q ce G).toArray)) w' := by
  rw [if_pos hk] at hD
  subst hD
  subst hG
  subst hq
  rw [List.nil_append] at hC
  refine ⟨_, ce, by rw [List.nil_append], ⟨hC, fun ad e _ => ?_⟩, hb⟩
  rw [← Option.some.inj e]
  exact hge
theorem fin_forget {W w w' : World} {T : Nat} {all : All} {gone : Nat} {f : Act} {D : All × Nat} {g : Int} {A : Option Addr} {c : Nat} (hD : D = if f.kind % 2 = 0 then (all ++ [f.olds], gone) else (all, max gone (min f.n all.length).toNat)) (hk : ¬ f.kind % 2 = 0) (h0 : (gone : Int) ≤ g) (hg : g = max (gone : Int) (min f.n all.length)) (hC : DocC W T w' A all) (hb : Below w.heap.size w w') :
    DoEnd W T w D (.returned (.agg (docV A all.length c g).toArray)) w' := by
  rw [if_neg hk] at hD
  subst hD
  refine ⟨A, c, ?_, hC, hb⟩
  rw [show ((max gone (min f.n all.length).toNat : Nat) : Int) = g by omega]
set_option maxRecDepth 10000 in
set_option maxHeartbeats 8000000 in
theorem rdo_calls (W w : World) (HB : Below W.heap.size W w) (T : Nat) (hT : T ≤ w.heap.size) (A : Option Addr) (c : Nat) (all : All) (gone : Nat) (hD : DocC W T w A all) (hl : all.length ≤ 100000) (hgl : gone ≤ all.length) (f : Act) (Ao : Option Addr) (co : Nat) (hlc : f.olds.length ≤ co) (hC : CO W Ao f.olds.length f.olds) (hG : gAct f) :
    Calls Try.prog 19 #[.agg (docV A all.length c gone).toArray, .agg (actC f Ao co).toArray] w (DoEnd W T w (doAct (all, gone) f)) := by
  have HD := Aside0.mk hD
  have HC := Aside0.mk hC
  have HK := Aside0.mk (Keeps.refl w)
  have hkb := bounds_u8 hG.1
  clear hD hC hG HB
  show Calls Try.prog 19 #[.agg #[.slice A all.length c, .int .i64 gone], .agg #[.int .u8 f.kind, .slice Ao f.olds.length co, .int .i64 f.n]] w _
  have HDO := Aside0.mk (show doAct (all, gone) f = if f.kind % 2 = 0 then (all ++ [f.olds], gone) else (all, max gone (min f.n all.length).toNat) from rfl)
  obtain ⟨D, hDe⟩ : ∃ D, D = doAct (all, gone) f := ⟨_, rfl⟩
  rw [← hDe] at HDO ⊢
  clear hDe
  obtain ⟨G, hGe⟩ : ∃ G, G = (gone : Int) := ⟨_, rfl⟩
  rw [← hGe]
  have HGE := Aside0.mk hGe
  clear hGe
  go_enter Try.func19, Try.ntmps19
  go_upto_region 1 with (first | ((with_reducible refine gate_dst (N := 2) rfl ?_); refine box45 rfl (.tmp 0) rfl A all.length c G rfl ?_; intro w1 dg h1 h2 h3; have HK1 := Aside0.mk (HK.out.new h3 h2); clear h2 h3) | ((with_reducible refine gate_dst (N := 3) rfl ?_); refine box48 rfl (.tmp 1) rfl f Ao co rfl ?_; intro w2 ag h4 h5 h6; have HK2 := Aside0.mk (HK1.out.new h6 h5); clear h5 h6) | ((with_reducible refine gate_dst (N := 4) rfl ?_); refine alloc45 rfl rfl ?_; intro w3 rg h7 h8 h9; have HR := Aside0.mk h8; have HK3 := Aside0.mk (HK2.out.fresh h9); have HB3 := Aside0.mk (grown_fresh h9); clear h8 h9))
  have e0 : w3.cell? ⟨ag, 0, none⟩ = some (.int .u8 f.kind) := HK3.out.head.cell rfl
  have hrw := Nat.le_trans HK2.out.size h7
  have hdr : dg ≠ rg := Nat.ne_of_lt (Nat.lt_of_lt_of_le HK2.out.tail.head.lt h7)
  by_cases hk2 : f.kind % 2 = 0
  · have hd : decide (f.kind % 2 = 0) = true := by simp; exact hk2
    go_upto_region 2 with (fail)
    have HCA := Aside0.mk (Kd.C_below HD.out.1 HK2.out.below)
    have HDG := Aside0.mk HK2.out.tail.head
    have HAG := Aside0.mk HK2.out.head
    refine wp_region_held_drew (S := (fun w' => Below w2.heap.size w2 w' ∧ ∃ u1 u2, Blk w' rg 45 [u1, u2])) (by kernel_rfl) (by exact ⟨below_drew HB3.out, _, _, HR.out.drew⟩) (fun hHeld => ?_)
    refine wpAnyH_tk (i := 1) (v := ?vz1) 11 rfl rfl (by kernel_rfl) (by kernel_rfl) (by kernel_rfl) (fun _ _ _ h => h) (Or.inl ⟨by rfl, ?yz1⟩) hHeld ?rz1
    case yz1 => (intro w hSw; go_simp; try with_reducible rfl)
    (try simp only [Act.put, List.setIfInBounds_toArray, List.set_cons_zero, List.set_cons_succ])
    refine wpAnyH_tk (i := 2) (v := _) 12 rfl rfl (by kernel_rfl) (by kernel_rfl) (by kernel_rfl) (fun _ _ _ h => h) (yields_cell (by rfl) 43 (.tmp 11) rfl ⟨dg, 0, none⟩ rfl (v := .slice A all.length c) (fun w h => bel_cell h.1 (HDG.out.cell rfl)) Try.underlying43 rfl) hHeld ?_
    (try simp only [Act.put, List.setIfInBounds_toArray, List.set_cons_zero, List.set_cons_succ])
    refine wpAnyH_tk (i := 4) (v := ?vz2) 14 rfl rfl (by kernel_rfl) (by kernel_rfl) (by kernel_rfl) (fun _ _ _ h => h) (Or.inl ⟨by rfl, ?yz2⟩) hHeld ?rz2
    case yz2 => (intro w hSw; go_simp; try with_reducible rfl)
    (try simp only [Act.put, List.setIfInBounds_toArray, List.set_cons_zero, List.set_cons_succ])
    refine wpAnyH_tk (i := 5) (v := _) 15 rfl rfl (by kernel_rfl) (by kernel_rfl) (by kernel_rfl) (fun _ _ _ h => h) (yields_cell (by rfl) 32 (.tmp 14) rfl ⟨ag, 1, none⟩ rfl (v := .slice Ao f.olds.length co) (fun w h => bel_cell h.1 (HAG.out.cell rfl)) Try.underlying32 rfl) hHeld ?_
    (try simp only [Act.put, List.setIfInBounds_toArray, List.set_cons_zero, List.set_cons_succ])
    refine wpAnyH_tk (i := 8) (v := ?vz3) 18 rfl rfl (by kernel_rfl) (by kernel_rfl) (by kernel_rfl) (fun _ _ _ h => h) (Or.inl ⟨by rfl, ?yz3⟩) hHeld ?rz3
    case yz3 => (intro w hSw; go_simp; try with_reducible rfl)
    (try simp only [Act.put, List.setIfInBounds_toArray, List.set_cons_zero, List.set_cons_succ])
    refine wpAnyH_tk (i := 9) (v := _) 19 rfl rfl (by kernel_rfl) (by kernel_rfl) (by kernel_rfl) (fun _ _ _ h => h) (yields_cell (by rfl) 3 (.tmp 18) rfl ⟨dg, 1, none⟩ rfl (v := .int .i64 G) (fun w h => bel_cell h.1 (HDG.out.cell rfl)) Try.underlying3 rfl) hHeld ?_
    (try simp only [Act.put, List.setIfInBounds_toArray, List.set_cons_zero, List.set_cons_succ])
    refine wpAnyH_ready (rs := [0, 6]) (by kernel_rfl) (by simp) (AllReadyH.cons rfl (fun K hK => ?_) (AllReadyH.cons rfl (fun K hK => ?_) AllReadyH.nil))
    · skip
      rw [if_pos (by rfl)]
      refine lit0A (Wf := W) 10 rfl rfl rfl (Below.refl _ _) (Nat.le_refl _) ?_; intro vA wA hA hAb hAg; (try replace hB := Kd.R_elder hB hA hAb); replace hA := Kd.R_lower hA hHeld.1.size; have hS1 := hHeld.1.trans (hAb.mono hHeld.1.size); obtain ⟨u1, u2, hu⟩ := hHeld.2; have hu1 := hu.grown hAg (by simp)
      refine hK.out _ _ (by exact ⟨hS1, _, _, hu1⟩) (fun hHeld => ?_)
      clear hK K
      (try simp only [Act.put, List.setIfInBounds_toArray, List.set_cons_zero, List.set_cons_succ])
      refine wpAnyH_ready (rs := [3, 6]) (by kernel_rfl) (by simp) (AllReadyH.cons rfl (fun K hK => ?_) (AllReadyH.cons rfl (fun K hK => ?_) AllReadyH.nil))
      · skip
        rw [if_pos (by rfl)]
        obtain ⟨u1, u2, hu⟩ := hHeld.2; have hne := Kd.R_ne hA hu (by decide); refine appsA (Wf := W) 13 rfl (.tmp 10) (.tmp 12) rfl rfl vA [] all _ _ _ rfl rfl hA (Kd.C_below HCA.out hHeld.1) (w0 := w2) (B := w2.heap.size) hHeld.1 hHeld.1.size (by simp; omega) ?_; intro vD wD hD hDb hDg; (try replace hB := Kd.R_grown hB hDg (fun k hk => hk.2)); have hu3 := hu.grown hDg hne
        refine hK.out _ _ (by exact ⟨hDb, _, _, hu3⟩) (fun hHeld => ?_)
        clear hK K
        (try simp only [Act.put, List.setIfInBounds_toArray, List.set_cons_zero, List.set_cons_succ])
        refine wpAnyH_one (i := 6) (by kernel_rfl) rfl (fun K hK => ?_)
        rw [if_pos (by rfl)]
        refine lit1A (Wf := W) 16 rfl (.tmp 15) rfl rfl f.olds Ao co hlc HC.out rfl (Below.refl _ _) (Nat.le_refl _) ?_; intro vB wB hB hBb hBg; (try replace hB := Kd.R_newR hB hA); (try replace hA := Kd.R_below hA hBb); (try replace hD := Kd.R_below hD hBb); have hS2 := hHeld.1.trans (hBb.mono hHeld.1.size); obtain ⟨u1, u2, hu⟩ := hHeld.2; have hu2 := hu.grown hBg (by simp)
        refine hK.out _ _ (by exact ⟨hS2, _, _, hu2⟩) (fun hHeld => ?_)
        clear hK K
        (try simp only [Act.put, List.setIfInBounds_toArray, List.set_cons_zero, List.set_cons_succ])
        refine wpAnyH_one (i := 7) (by kernel_rfl) rfl (fun K hK => ?_)
        rw [if_pos (by rfl)]
        obtain ⟨u1, u2, hu⟩ := hHeld.2; have hne := Kd.R_ne hD hu (by decide); obtain ⟨Ab, cb, rfl, hcb, hCB⟩ := Kd.R_reads hB; refine appsA (Wf := W) 17 rfl (.tmp 13) (.tmp 16) rfl rfl vD ([] ++ all) [f.olds] _ _ _ rfl rfl hD hCB (w0 := w2) (B := w2.heap.size) hHeld.1 hHeld.1.size (by simp; omega) ?_; intro vE wE hE hEb hEg; have hu4 := hu.grown hEg hne; obtain ⟨ge, ce, hve, hge, _, _⟩ := Kd.R_form hE (by simp); subst hve; obtain ⟨_, hce, hCE⟩ := Kd.R_reads' hE; obtain ⟨q2, hq2⟩ : ∃ q2, q2 = ([] ++ all ++ [f.olds]).length := ⟨_, rfl⟩; rw [← hq2] at hE hCE hce ⊢; have HE := Aside0.mk hE; have HCE := Aside0.mk hCE; have HQ2 := Aside0.mk hq2; clear hE hCE hce hCB hcb hq2
        refine hK.out _ _ (by exact ⟨hEb, _, _, hu4⟩) (fun hHeld => ?_)
        clear hK K
        (try simp only [Act.put, List.setIfInBounds_toArray, List.set_cons_zero, List.set_cons_succ])
        refine wpAnyH_tk (i := 10) (v := ?vz4) 20 rfl rfl (by kernel_rfl) (by kernel_rfl) (by kernel_rfl) (fun _ _ _ h => h) (Or.inl ⟨by rfl, ?yz4⟩) hHeld ?rz4
        case yz4 => (intro w hSw; go_simp; try with_reducible rfl)
        (try simp only [Act.put, List.setIfInBounds_toArray, List.set_cons_zero, List.set_cons_succ])
        refine wpAnyH_one (i := 11) (by kernel_rfl) rfl (fun K hK => ?_)
        rw [if_pos (by rfl)]
        obtain ⟨u1, u2, hu⟩ := hHeld.2; refine step_storeAll rfl 45 (.tmp 4) (.tmp 20) rfl rg rfl (docV (some ⟨ge, 0, none⟩) q2 ce G) rfl (by exact size45) (by intro v hv; unfold docV at hv; simp at hv; rcases hv with rfl | rfl <;> rfl) hu rfl ?_; intro w11 hX hXg hXs; have hCF := (Kd.R_reads' (Kd.R_grown (Kd.R_types HE.out hu (by intro z hz; have h32 : z = 32 := (by simpa [kA, Kd.fixed] using hz); omega)) hXg (fun k hk => by simpa using hk.2))).2.2
        refine hK.out _ _ (by exact ⟨below_grown hHeld.1 h7 hHeld.1.size hXg, _, _, hX⟩) (fun hHeld => ?_)
        clear hK K
        (try simp only [Act.put, List.setIfInBounds_toArray, List.set_cons_zero, List.set_cons_succ])
        refine wpAnyH_done (by kernel_rfl) ?_ _
        (have HCF := Aside0.mk hCF; have HX := Aside0.mk hX; have HH := Aside0.mk hHeld.1; have hge2 := hge; clear hCF hX hHeld; go_wp2_with fail; refine bodyPost_ret (results45 _ _ rg _ rfl rfl HX.out) rfl ?_; exact fin_commit HDO.out hk2 HGE.out HQ2.out HCF.out (Nat.le_trans (Nat.le_trans hT HK2.out.size) hge2) (HK2.out.step HH.out).below)
      · skip
        rw [if_pos (by rfl)]
        refine lit1A (Wf := W) 16 rfl (.tmp 15) rfl rfl f.olds Ao co hlc HC.out rfl (Below.refl _ _) (Nat.le_refl _) ?_; intro vB wB hB hBb hBg; (try replace hB := Kd.R_newR hB hA); (try replace hA := Kd.R_below hA hBb); (try replace hD := Kd.R_below hD hBb); have hS2 := hHeld.1.trans (hBb.mono hHeld.1.size); obtain ⟨u1, u2, hu⟩ := hHeld.2; have hu2 := hu.grown hBg (by simp)
        refine hK.out _ _ (by exact ⟨hS2, _, _, hu2⟩) (fun hHeld => ?_)
        clear hK K
        (try simp only [Act.put, List.setIfInBounds_toArray, List.set_cons_zero, List.set_cons_succ])
        refine wpAnyH_one (i := 3) (by kernel_rfl) rfl (fun K hK => ?_)
        rw [if_pos (by rfl)]
        obtain ⟨u1, u2, hu⟩ := hHeld.2; have hne := Kd.R_ne hA hu (by decide); refine appsA (Wf := W) 13 rfl (.tmp 10) (.tmp 12) rfl rfl vA [] all _ _ _ rfl rfl hA (Kd.C_below HCA.out hHeld.1) (w0 := w2) (B := w2.heap.size) hHeld.1 hHeld.1.size (by simp; omega) ?_; intro vD wD hD hDb hDg; (try replace hB := Kd.R_grown hB hDg (fun k hk => hk.2)); have hu3 := hu.grown hDg hne
        refine hK.out _ _ (by exact ⟨hDb, _, _, hu3⟩) (fun hHeld => ?_)
        clear hK K
        (try simp only [Act.put, List.setIfInBounds_toArray, List.set_cons_zero, List.set_cons_succ])
        refine wpAnyH_one (i := 7) (by kernel_rfl) rfl (fun K hK => ?_)
        rw [if_pos (by rfl)]
        obtain ⟨u1, u2, hu⟩ := hHeld.2; have hne := Kd.R_ne hD hu (by decide); obtain ⟨Ab, cb, rfl, hcb, hCB⟩ := Kd.R_reads hB; refine appsA (Wf := W) 17 rfl (.tmp 13) (.tmp 16) rfl rfl vD ([] ++ all) [f.olds] _ _ _ rfl rfl hD hCB (w0 := w2) (B := w2.heap.size) hHeld.1 hHeld.1.size (by simp; omega) ?_; intro vE wE hE hEb hEg; have hu4 := hu.grown hEg hne; obtain ⟨ge, ce, hve, hge, _, _⟩ := Kd.R_form hE (by simp); subst hve; obtain ⟨_, hce, hCE⟩ := Kd.R_reads' hE; obtain ⟨q2, hq2⟩ : ∃ q2, q2 = ([] ++ all ++ [f.olds]).length := ⟨_, rfl⟩; rw [← hq2] at hE hCE hce ⊢; have HE := Aside0.mk hE; have HCE := Aside0.mk hCE; have HQ2 := Aside0.mk hq2; clear hE hCE hce hCB hcb hq2
        refine hK.out _ _ (by exact ⟨hEb, _, _, hu4⟩) (fun hHeld => ?_)
        clear hK K
        (try simp only [Act.put, List.setIfInBounds_toArray, List.set_cons_zero, List.set_cons_succ])
        refine wpAnyH_tk (i := 10) (v := ?vz5) 20 rfl rfl (by kernel_rfl) (by kernel_rfl) (by kernel_rfl) (fun _ _ _ h => h) (Or.inl ⟨by rfl, ?yz5⟩) hHeld ?rz5
        case yz5 => (intro w hSw; go_simp; try with_reducible rfl)
        (try simp only [Act.put, List.setIfInBounds_toArray, List.set_cons_zero, List.set_cons_succ])
        refine wpAnyH_one (i := 11) (by kernel_rfl) rfl (fun K hK => ?_)
        rw [if_pos (by rfl)]
        obtain ⟨u1, u2, hu⟩ := hHeld.2; refine step_storeAll rfl 45 (.tmp 4) (.tmp 20) rfl rg rfl (docV (some ⟨ge, 0, none⟩) q2 ce G) rfl (by exact size45) (by intro v hv; unfold docV at hv; simp at hv; rcases hv with rfl | rfl <;> rfl) hu rfl ?_; intro w11 hX hXg hXs; have hCF := (Kd.R_reads' (Kd.R_grown (Kd.R_types HE.out hu (by intro z hz; have h32 : z = 32 := (by simpa [kA, Kd.fixed] using hz); omega)) hXg (fun k hk => by simpa using hk.2))).2.2
        refine hK.out _ _ (by exact ⟨below_grown hHeld.1 h7 hHeld.1.size hXg, _, _, hX⟩) (fun hHeld => ?_)
        clear hK K
        (try simp only [Act.put, List.setIfInBounds_toArray, List.set_cons_zero, List.set_cons_succ])
        refine wpAnyH_done (by kernel_rfl) ?_ _
        (have HCF := Aside0.mk hCF; have HX := Aside0.mk hX; have HH := Aside0.mk hHeld.1; have hge2 := hge; clear hCF hX hHeld; go_wp2_with fail; refine bodyPost_ret (results45 _ _ rg _ rfl rfl HX.out) rfl ?_; exact fin_commit HDO.out hk2 HGE.out HQ2.out HCF.out (Nat.le_trans (Nat.le_trans hT HK2.out.size) hge2) (HK2.out.step HH.out).below)
    · skip
      rw [if_pos (by rfl)]
      refine lit1A (Wf := W) 16 rfl (.tmp 15) rfl rfl f.olds Ao co hlc HC.out rfl (Below.refl _ _) (Nat.le_refl _) ?_; intro vB wB hB hBb hBg; (try replace hB := Kd.R_newR hB hA); (try replace hA := Kd.R_below hA hBb); (try replace hD := Kd.R_below hD hBb); have hS2 := hHeld.1.trans (hBb.mono hHeld.1.size); obtain ⟨u1, u2, hu⟩ := hHeld.2; have hu2 := hu.grown hBg (by simp)
      refine hK.out _ _ (by exact ⟨hS2, _, _, hu2⟩) (fun hHeld => ?_)
      clear hK K
      (try simp only [Act.put, List.setIfInBounds_toArray, List.set_cons_zero, List.set_cons_succ])
      refine wpAnyH_one (i := 0) (by kernel_rfl) rfl (fun K hK => ?_)
      rw [if_pos (by rfl)]
      refine lit0A (Wf := W) 10 rfl rfl rfl (Below.refl _ _) (Nat.le_refl _) ?_; intro vA wA hA hAb hAg; (try replace hB := Kd.R_elder hB hA hAb); replace hA := Kd.R_lower hA hHeld.1.size; have hS1 := hHeld.1.trans (hAb.mono hHeld.1.size); obtain ⟨u1, u2, hu⟩ := hHeld.2; have hu1 := hu.grown hAg (by simp)
      refine hK.out _ _ (by exact ⟨hS1, _, _, hu1⟩) (fun hHeld => ?_)
      clear hK K
      (try simp only [Act.put, List.setIfInBounds_toArray, List.set_cons_zero, List.set_cons_succ])
      refine wpAnyH_one (i := 3) (by kernel_rfl) rfl (fun K hK => ?_)
      rw [if_pos (by rfl)]
      obtain ⟨u1, u2, hu⟩ := hHeld.2; have hne := Kd.R_ne hA hu (by decide); refine appsA (Wf := W) 13 rfl (.tmp 10) (.tmp 12) rfl rfl vA [] all _ _ _ rfl rfl hA (Kd.C_below HCA.out hHeld.1) (w0 := w2) (B := w2.heap.size) hHeld.1 hHeld.1.size (by simp; omega) ?_; intro vD wD hD hDb hDg; (try replace hB := Kd.R_grown hB hDg (fun k hk => hk.2)); have hu3 := hu.grown hDg hne
      refine hK.out _ _ (by exact ⟨hDb, _, _, hu3⟩) (fun hHeld => ?_)
      clear hK K
      (try simp only [Act.put, List.setIfInBounds_toArray, List.set_cons_zero, List.set_cons_succ])
      refine wpAnyH_one (i := 7) (by kernel_rfl) rfl (fun K hK => ?_)
      rw [if_pos (by rfl)]
      obtain ⟨u1, u2, hu⟩ := hHeld.2; have hne := Kd.R_ne hD hu (by decide); obtain ⟨Ab, cb, rfl, hcb, hCB⟩ := Kd.R_reads hB; refine appsA (Wf := W) 17 rfl (.tmp 13) (.tmp 16) rfl rfl vD ([] ++ all) [f.olds] _ _ _ rfl rfl hD hCB (w0 := w2) (B := w2.heap.size) hHeld.1 hHeld.1.size (by simp; omega) ?_; intro vE wE hE hEb hEg; have hu4 := hu.grown hEg hne; obtain ⟨ge, ce, hve, hge, _, _⟩ := Kd.R_form hE (by simp); subst hve; obtain ⟨_, hce, hCE⟩ := Kd.R_reads' hE; obtain ⟨q2, hq2⟩ : ∃ q2, q2 = ([] ++ all ++ [f.olds]).length := ⟨_, rfl⟩; rw [← hq2] at hE hCE hce ⊢; have HE := Aside0.mk hE; have HCE := Aside0.mk hCE; have HQ2 := Aside0.mk hq2; clear hE hCE hce hCB hcb hq2
      refine hK.out _ _ (by exact ⟨hEb, _, _, hu4⟩) (fun hHeld => ?_)
      clear hK K
      (try simp only [Act.put, List.setIfInBounds_toArray, List.set_cons_zero, List.set_cons_succ])
      refine wpAnyH_tk (i := 10) (v := ?vz6) 20 rfl rfl (by kernel_rfl) (by kernel_rfl) (by kernel_rfl) (fun _ _ _ h => h) (Or.inl ⟨by rfl, ?yz6⟩) hHeld ?rz6
      case yz6 => (intro w hSw; go_simp; try with_reducible rfl)
      (try simp only [Act.put, List.setIfInBounds_toArray, List.set_cons_zero, List.set_cons_succ])
      refine wpAnyH_one (i := 11) (by kernel_rfl) rfl (fun K hK => ?_)
      rw [if_pos (by rfl)]
      obtain ⟨u1, u2, hu⟩ := hHeld.2; refine step_storeAll rfl 45 (.tmp 4) (.tmp 20) rfl rg rfl (docV (some ⟨ge, 0, none⟩) q2 ce G) rfl (by exact size45) (by intro v hv; unfold docV at hv; simp at hv; rcases hv with rfl | rfl <;> rfl) hu rfl ?_; intro w11 hX hXg hXs; have hCF := (Kd.R_reads' (Kd.R_grown (Kd.R_types HE.out hu (by intro z hz; have h32 : z = 32 := (by simpa [kA, Kd.fixed] using hz); omega)) hXg (fun k hk => by simpa using hk.2))).2.2
      refine hK.out _ _ (by exact ⟨below_grown hHeld.1 h7 hHeld.1.size hXg, _, _, hX⟩) (fun hHeld => ?_)
      clear hK K
      (try simp only [Act.put, List.setIfInBounds_toArray, List.set_cons_zero, List.set_cons_succ])
      refine wpAnyH_done (by kernel_rfl) ?_ _
      (have HCF := Aside0.mk hCF; have HX := Aside0.mk hX; have HH := Aside0.mk hHeld.1; have hge2 := hge; clear hCF hX hHeld; go_wp2_with fail; refine bodyPost_ret (results45 _ _ rg _ rfl rfl HX.out) rfl ?_; exact fin_commit HDO.out hk2 HGE.out HQ2.out HCF.out (Nat.le_trans (Nat.le_trans hT HK2.out.size) hge2) (HK2.out.step HH.out).below)
  · have hd : decide (f.kind % 2 = 0) = false := by simp; omega
    have e1 : w3.cell? ⟨ag, 2, none⟩ = some (.int .i64 f.n) := HK3.out.head.cell rfl
    have e2 : w3.cell? ⟨dg, 0, none⟩ = some (.slice A all.length c) := HK3.out.tail.head.cell rfl
    have e3 : w3.cell? ⟨dg, 1, none⟩ = some (.int .i64 G) := HK3.out.tail.head.cell rfl
    have e4 := HK3.out.tail.head.frozen 1
    have hdw : w.heap.size ≤ dg := h1
    by_cases q1 : (all.length : Int) < f.n
    · have d1 : decide ((all.length : Int) < f.n) = true := by simp; omega
      by_cases q2 : G < (all.length : Int)
      · have d2 : decide (G < (all.length : Int)) = true := by simp; omega
        go_upto_region 8 with (fail)
        have HX := Aside0.mk (HK3.out.tail.head.set 1 (.int .i64 (all.length : Int)))
        have HRX := Aside0.mk (HR.out.grown (grown_set w3 dg 1 (.int .i64 (all.length : Int))) (by simp; omega))
        have hgs := grown_set w3 dg 1 (.int .i64 (all.length : Int))
        have HKX := Aside0.mk (below_grown HK3.out.below hdw HK3.out.size hgs)
        clear hgs
        go_wp2_with (first | ((with_reducible refine gate_dst (N := 37) rfl ?_); refine wpl_loadAll rfl 45 (.tmp 2) rfl dg rfl HX.out Try.underlying45 rfl (by exact size45) ?_) | (refine wpl_storeAll rfl rfl 45 (.tmp 4) (.tmp 37) rfl rg rfl (docV A all.length c (all.length : Int)) rfl (by exact size45) (by intro v hv; unfold docV at hv; simp at hv; rcases hv with rfl | rfl <;> rfl) HRX.out rfl ?_; intro w5 h21 h22 h23; have HX5 := Aside0.mk h21; have HK5 := Aside0.mk (below_grown HKX.out hrw (by first | exact HK3.out.size | (simp; exact HK3.out.size)) h22); have HC5 := Aside0.mk (show DocC W T w5 A all from ⟨Kd.C_below HD.out.1 HK5.out, HD.out.2⟩); clear h21 h22 h23))
        refine bodyPost_ret (results45 _ _ rg _ rfl rfl HX5.out) rfl ?_
        exact fin_forget HDO.out hk2 (by have := HGE.out; omega) (by have := HGE.out; omega) HC5.out HK5.out
      · have d2 : decide (G < (all.length : Int)) = false := by simp; omega
        have HX := Aside0.mk HK3.out.tail.head
        go_wp2_with (first | ((with_reducible refine gate_dst (N := 37) rfl ?_); refine wpl_loadAll rfl 45 (.tmp 2) rfl dg rfl HX.out Try.underlying45 rfl (by exact size45) ?_) | (refine wpl_storeAll rfl rfl 45 (.tmp 4) (.tmp 37) rfl rg rfl (docV A all.length c G) rfl (by exact size45) (by intro v hv; unfold docV at hv; simp at hv; rcases hv with rfl | rfl <;> rfl) HR.out rfl ?_; intro w5 h21 h22 h23; have HX5 := Aside0.mk h21; have HK5 := Aside0.mk (below_grown HK3.out.below hrw (by first | exact HK3.out.size | (simp; exact HK3.out.size)) h22); have HC5 := Aside0.mk (show DocC W T w5 A all from ⟨Kd.C_below HD.out.1 HK5.out, HD.out.2⟩); clear h21 h22 h23))
        refine bodyPost_ret (results45 _ _ rg _ rfl rfl HX5.out) rfl ?_
        exact fin_forget HDO.out hk2 (by have := HGE.out; omega) (by have := HGE.out; omega) HC5.out HK5.out
    · have d1 : decide ((all.length : Int) < f.n) = false := by simp; omega
      by_cases q2 : G < f.n
      · have d2 : decide (G < f.n) = true := by simp; omega
        go_upto_region 8 with (fail)
        have HX := Aside0.mk (HK3.out.tail.head.set 1 (.int .i64 f.n))
        have HRX := Aside0.mk (HR.out.grown (grown_set w3 dg 1 (.int .i64 f.n)) (by simp; omega))
        have hgs := grown_set w3 dg 1 (.int .i64 f.n)
        have HKX := Aside0.mk (below_grown HK3.out.below hdw HK3.out.size hgs)
        clear hgs
        go_wp2_with (first | ((with_reducible refine gate_dst (N := 37) rfl ?_); refine wpl_loadAll rfl 45 (.tmp 2) rfl dg rfl HX.out Try.underlying45 rfl (by exact size45) ?_) | (refine wpl_storeAll rfl rfl 45 (.tmp 4) (.tmp 37) rfl rg rfl (docV A all.length c f.n) rfl (by exact size45) (by intro v hv; unfold docV at hv; simp at hv; rcases hv with rfl | rfl <;> rfl) HRX.out rfl ?_; intro w5 h21 h22 h23; have HX5 := Aside0.mk h21; have HK5 := Aside0.mk (below_grown HKX.out hrw (by first | exact HK3.out.size | (simp; exact HK3.out.size)) h22); have HC5 := Aside0.mk (show DocC W T w5 A all from ⟨Kd.C_below HD.out.1 HK5.out, HD.out.2⟩); clear h21 h22 h23))
        refine bodyPost_ret (results45 _ _ rg _ rfl rfl HX5.out) rfl ?_
        exact fin_forget HDO.out hk2 (by have := HGE.out; omega) (by have := HGE.out; omega) HC5.out HK5.out
      · have d2 : decide (G < f.n) = false := by simp; omega
        have HX := Aside0.mk HK3.out.tail.head
        go_wp2_with (first | ((with_reducible refine gate_dst (N := 37) rfl ?_); refine wpl_loadAll rfl 45 (.tmp 2) rfl dg rfl HX.out Try.underlying45 rfl (by exact size45) ?_) | (refine wpl_storeAll rfl rfl 45 (.tmp 4) (.tmp 37) rfl rg rfl (docV A all.length c G) rfl (by exact size45) (by intro v hv; unfold docV at hv; simp at hv; rcases hv with rfl | rfl <;> rfl) HR.out rfl ?_; intro w5 h21 h22 h23; have HX5 := Aside0.mk h21; have HK5 := Aside0.mk (below_grown HK3.out.below hrw (by first | exact HK3.out.size | (simp; exact HK3.out.size)) h22); have HC5 := Aside0.mk (show DocC W T w5 A all from ⟨Kd.C_below HD.out.1 HK5.out, HD.out.2⟩); clear h21 h22 h23))
        refine bodyPost_ret (results45 _ _ rg _ rfl rfl HX5.out) rfl ?_
        exact fin_forget HDO.out hk2 (by have := HGE.out; omega) (by have := HGE.out; omega) HC5.out HK5.out
end Go.Proofs.Ytipbgldfomejpaa.Snap
