/- The walk of layer 15: groups, whole. -/
import Derived.Test.YtkkmmbbnaafhlaaRollGroups
namespace Go.Proofs.Ytkkmmbbnaafhlaa.Roll
set_option linter.unusedSimpArgs false
set_option linter.unusedVariables false
open Go.RowKit Go.Proofs.YtkkmmbbnaafhlaaW.PrintWords Go.Proofs.YtkkmmbbnaafhlaaW.PrintLast Go.Proofs.YtkkmmbbnaafhlaaW.PrintMore Arr PRollJoin

def GEnd (w : World) (l : List Found) (e : Ending) (w' : World) : Prop := ∃ v gs, e = .returned v ∧ gs.map Prod.fst = groups l ∧ RG w' w.heap.size (fun _ => True) v gs ∧ Tags w' gs ∧ Below w.heap.size w w'
/-- What stands at a round's head. -/
structure GInv (w : World) (l : List Found) (wr : World) (k : Nat) (vo vp : Value) (gs : List (S28 × Nat)) (op : List S44) : Prop where
  eq : gst (l.take k) = (gs.map Prod.fst, op)
  out : RG wr w.heap.size (fun j => True ∧ some j ≠ vp.ownBlock) vo gs
  opn : RC wr w.heap.size vp op
  tags : Tags wr gs
  bel : Below w.heap.size w wr
theorem GInv.lens {w : World} {l : List Found} {wr : World} {k : Nat} {vo vp : Value} {gs : List (S28 × Nat)} {op : List S44} (h : GInv w l wr k vo vp gs op) : gs.length ≤ k ∧ op.length ≤ k := by
  have h1 := gst_le l k
  rw [h.eq] at h1
  simpa using h1
theorem GInv.below {w : World} {l : List Found} {wr w1 : World} {k : Nat} {vo vp : Value} {gs : List (S28 × Nat)} {op : List S44} (h : GInv w l wr k vo vp gs op) (hb : Below wr.heap.size wr w1) : GInv w l w1 k vo vp gs op :=
  ⟨h.eq, Kd.R_below h.out hb, Kd.R_below h.opn hb, h.tags.mono hb.size, h.bel.trans (hb.mono h.bel.size)⟩
theorem GInv.app {w : World} {l : List Found} {wr w1 : World} {k : Nat} {vo vp v1 : Value} {gs : List (S28 × Nat)} {op : List S44} (h : GInv w l wr k vo vp gs op) (hk : k < l.length) {c : S44} (hg : gstep (gst (l.take k)) (fd l k) = (gs.map Prod.fst, op ++ [c]))
    (hR : RC w1 w.heap.size v1 (op ++ [c])) (hb : Below w.heap.size w w1) (hgr : wr.grownBy w1 vp.ownBlock) (hat : v1.ownBlock = vp.ownBlock ∨ ∃ b, v1.ownBlock = some b ∧ wr.heap.size ≤ b) : GInv w l w1 (k + 1) vo v1 gs (op ++ [c]) :=
  ⟨by rw [gst_succ l k hk]; exact hg, Kd.R_after h.out hgr hat, hR, h.tags.mono hgr.size, hb⟩
theorem GInv.shut {w : World} {l : List Found} {wr w1 : World} {k : Nat} {vo : Value} {A : Option Addr} {n c : Nat} {gs' : List (S28 × Nat)} {op : List S44} (h : RG wr w.heap.size (fun j => True ∧ some j ≠ (Value.slice A n c).ownBlock) vo gs') (ht : Tags wr gs') (hbw : Below w.heap.size w wr) (hvp : RC wr w.heap.size (.slice A n c) op) (hk : k < l.length) (hg : gstep (gst (l.take k)) (fd l k) = (gs'.map Prod.fst, []))
    (hR : RC w1 w.heap.size (.slice A 0 c) []) (hgr : wr.grownBy w1 (Value.slice A n c).ownBlock) : GInv w l w1 (k + 1) vo (.slice A 0 c) gs' [] :=
  ⟨by rw [gst_succ l k hk]; exact hg, Kd.R_after h hgr (.inl (by cases A <;> rfl)), hR, ht.mono hgr.size, pw_below_grown hbw _ hbw.size hgr (fun j hj => Kd.R_base hvp j hj)⟩
theorem GInv.box {w : World} {l : List Found} {wr w1 : World} {k : Nat} {vo vp : Value} {gs : List (S28 × Nat)} {op : List S44} (h : GInv w l wr k vo vp gs op) {g : Nat} {cs : List Value} (hb : Blk wr g 41 cs) (hg : wr.grownBy w1 (some g)) (hle : w.heap.size ≤ g) : GInv w l w1 k vo vp gs op :=
  ⟨h.eq, Kd.R_mono (Kd.R_grown (Kd.R_types h.out hb (fun q hq => by have : q ∈ [28, 44] := hq; simp at this; omega)) hg (fun j hj e => by injection e with e; exact hj.2 e)) (fun _ hj => hj.1),
    Kd.R_mono (Kd.R_grown (Kd.R_types h.opn hb (fun q hq => by have : q ∈ [44] := hq; simp at this; omega)) hg (fun j hj e => by injection e with e; exact hj.2 e)) (fun _ hj => hj.1),
    h.tags.mono hg.size, below_grown h.bel hle h.bel.size hg⟩
theorem grown_fresh {w w1 : World} (h : w.grownBy w1 none) : Below w.heap.size w w1 := below_new (Below.refl _ _) (Nat.le_refl _) h
theorem cut26 (A : Option Addr) (n c : Nat) (hc : n ≤ c) (W : World) : (Instr.slice 26 (.slice A n c) none (some (.int .i64 0)) none).run Try.prog W = .ok (.slice A 0 c) W := by
  obtain ⟨i44, hi44, _⟩ := Option.map_eq_some_iff.1 info44
  exact cut_to 26 44 .i64 Try.underlying26 hi44 A n c 0 (by omega) (by omega) hc W
theorem GInv.add {w : World} {l : List Found} {w5 wx : World} {k : Nat} {vo vp vc : Value} {gs : List (S28 × Nat)} {op : List S44} (h : GInv w l w5 k vo vp gs op) (hR : RC wx w5.heap.size vc op) (hb : Below w5.heap.size w5 wx) :
    ∃ t, (w5.heap.size ≤ t ∧ (op ≠ [] → t < wx.heap.size)) ∧ (∀ k, vc.ownBlock = some k → k = t) ∧ (∀ k, vc.ownBlock = some k → (True ∧ some k ≠ vp.ownBlock) ∧ some k ≠ vo.ownBlock) ∧ (∀ k, wx.heap.size ≤ k → True ∧ some k ≠ vp.ownBlock) ∧
      RG wx w.heap.size (fun j => True ∧ some j ≠ vp.ownBlock) vo gs ∧ RC wx w.heap.size vc op ∧ RC wx w.heap.size vp op ∧ Below w.heap.size w wx ∧ Tags wx gs := by
  obtain ⟨t, h1, h2, h3⟩ := RC_block hR hb.size
  have hs := hb.size
  refine ⟨t, ⟨h1, h2⟩, h3, fun j hj => ⟨⟨trivial, fun e => ?_⟩, fun e => ?_⟩, fun j hj => ⟨trivial, fun e => ?_⟩, Kd.R_below h.out hb, Kd.R_lower hR h.bel.size, Kd.R_below h.opn hb, h.bel.trans (hb.mono h.bel.size), h.tags.mono hs⟩
  · have := Kd.R_base hR j hj; have := Kd.R_lt h.opn j e.symm; omega
  · have := Kd.R_base hR j hj; have := Kd.R_lt h.out j e.symm; omega
  · have := Kd.R_lt h.opn j e.symm; omega
theorem gstep_add {l : List Found} {k : Nat} {gs : List (S28 × Nat)} {op : List S44} {x : Found} (h : gst (l.take k) = (gs.map Prod.fst, op)) (hx : x = fd l k) (h3 : x.rc.kind = 3) (hc : x.rc.count = (op.length : Int)) (t : Nat) :
    gstep (gst (l.take k)) (fd l k) = ((gs ++ [((⟨x.rc.block == 1, x.rc.seq, op⟩ : S28), t)]).map Prod.fst, []) := by
  rw [h, ← hx]; unfold gstep; rw [if_pos h3, if_pos hc]; simp
theorem gstep_not {l : List Found} {k : Nat} {gs : List (S28 × Nat)} {op : List S44} {x : Found} (h : gst (l.take k) = (gs.map Prod.fst, op)) (hx : x = fd l k) (h3 : x.rc.kind = 3) (hc : x.rc.count ≠ (op.length : Int)) :
    gstep (gst (l.take k)) (fd l k) = (gs.map Prod.fst, []) := by
  rw [h, ← hx]; unfold gstep; rw [if_pos h3, if_neg hc]
theorem gstep_put {l : List Found} {k : Nat} {gs : List (S28 × Nat)} {op : List S44} {x : Found} (h : gst (l.take k) = (gs.map Prod.fst, op)) (hx : x = fd l k) (h3 : x.rc.kind = 1) :
    gstep (gst (l.take k)) (fd l k) = (gs.map Prod.fst, op ++ [⟨x.rc.block, x.place⟩]) := by
  rw [h, ← hx]; unfold gstep; rw [if_neg (by omega), if_pos h3]
theorem gstep_trim {l : List Found} {k : Nat} {gs : List (S28 × Nat)} {op : List S44} {x : Found} (h : gst (l.take k) = (gs.map Prod.fst, op)) (hx : x = fd l k) (h3 : x.rc.kind ≠ 3) (h1 : x.rc.kind ≠ 1) :
    gstep (gst (l.take k)) (fd l k) = (gs.map Prod.fst, op ++ [⟨x.rc.block, 0⟩]) := by
  rw [h, ← hx]; unfold gstep; rw [if_neg h3, if_neg h1]
set_option maxRecDepth 10000 in
set_option maxHeartbeats 4000000 in
theorem groups_calls (w : World) (A : Option Addr) (c : Nat) (l : List Found) (hC : k41.C w A l.length l) (hl : l.length ≤ 1000) : Calls Try.prog 19 #[.slice A l.length c] w (GEnd w l) := by
  have HC := Aside0.mk hC
  have HI0 := Aside0.mk (show GInv w l w 0 (.slice none 0 0) (.slice none 0 0) [] [] from ⟨rfl, Kd.R_nil _ _ _ _ _, Kd.R_nil _ _ _ _ _, ⟨List.Pairwise.nil, fun _ h => by cases h⟩, Below.refl _ _⟩)
  clear hC
  go_enter Try.func19, Try.ntmps19
  go_wp2_with fail
  go_loopw [3, 4, 9] (fun vo vp i wr => ∃ k : Nat, k ≤ l.length ∧ i = .int .i64 k ∧ ∃ gs op, Aside0 (GInv w l wr k vo vp gs op)) (fun _ _ i _ => l.length - (intOf i).toNat)
  case atStart => exact ⟨0, by omega, rfl, _, _, HI0⟩
  case round =>
    clear HI0
    obtain ⟨k, hk, rfl, gs, op, HI⟩ := hrel
    by_cases hlt : k < l.length
    · have hd : decide ((k : Int) < l.length) = true := by simp; omega
      obtain ⟨ad, hA, hcx, hxl⟩ := at41 HC.out k hlt
      subst hA
      have HCX := Aside0.mk (fun j' u (hu : (foundC (fd l k))[j']? = some u) => pw_cell_below HI.out.bel (hcx j' u hu))
      obtain ⟨x, hx⟩ : ∃ x, x = fd l k := ⟨_, rfl⟩
      rw [← hx] at HCX hxl
      have HXE := Aside0.mk hx
      clear hcx hx
      go_upto_region 6 with (first | ((with_reducible refine gate_dst (N := 12) rfl ?_); refine load41 rfl (.tmp 11) rfl (ad.add (k * 38)) rfl x hxl HCX.out ?_) | ((with_reducible refine gate_dst (N := 6) rfl ?_); refine alloc41 rfl rfl ?_; intro w4 xg h6 h7 h8; have H4 := Aside0.mk h7; have HI4 := Aside0.mk (HI.out.below (grown_fresh h8)); clear h7 h8) | (refine store41 rfl rfl (.tmp 6) (.tmp 12) rfl xg rfl x hxl rfl (M := found0) rfl H4.out ?_; intro w5 h9 h10 h11; have H5 := Aside0.mk h9; have HI5 := Aside0.mk (HI4.out.box H4.out h10 (Nat.le_trans HI.out.bel.size h6)); clear h9 h10 h11))
      obtain ⟨xp, xk, xe, xs, xb, xc, xd⟩ := x
      have hc0 : w5.cell? ⟨xg, 0, none⟩ = some (.int .i64 xp) := H5.out.cell rfl
      have hc1 : w5.cell? ⟨xg, 1, none⟩ = some (.int .i64 xk) := H5.out.cell rfl
      have hc3 : w5.cell? ⟨xg, 3, none⟩ = some (.int .i64 xs) := H5.out.cell rfl
      have hc4 : w5.cell? ⟨xg, 4, none⟩ = some (.int .i64 xb) := H5.out.cell rfl
      have hc5 : w5.cell? ⟨xg, 5, none⟩ = some (.int .i64 xc) := H5.out.cell rfl
      obtain ⟨hgl, hol⟩ := HI5.out.lens
      obtain ⟨Ap, cp, hvp⟩ := Kd.R_slice HI5.out.opn
      subst hvp
      have hpc : op.length ≤ cp := (Kd.R_reads' HI5.out.opn).2.1
      have HOP := Aside0.mk (Kd.R_reads' HI5.out.opn).2.2
      have hcut : ∀ W : World, (Instr.slice 26 (.slice Ap op.length cp) none (some (.int .i64 0)) none).run Try.prog W = .ok (.slice Ap 0 cp) W := cut26 Ap op.length cp hpc
      clear HI HI4 H4 HCX
      by_cases h3 : xk = 3
      · have e3 : (xk == 3) = true := by simp; omega
        have H3 := Aside0.mk h3
        clear h3
        by_cases hcnt : xc = (op.length : Int)
        · have ecnt : (xc == (op.length : Int)) = true := by simp; omega
          have HG := Aside0.mk (gstep_add HI5.out.eq HXE.out H3.out hcnt)
          clear hcnt
          go_upto_region 10 with (fail)
          refine wp_region_held_drew (S := (fun w' => Blk w' xg 41 (foundC ⟨xp, ⟨xk, xe, xs, xb, xc, xd⟩⟩))) (by kernel_rfl) (by exact H5.out.drew) (fun hHeld => ?_)
          refine wpAnyH_tk (i := 0) (v := ?vz1) 31 rfl rfl (by kernel_rfl) (by kernel_rfl) (by kernel_rfl) (fun _ _ _ h => h) (Or.inl ⟨by rfl, ?yz1⟩) hHeld ?rz1
          case yz1 => (intro w hSw; go_simp; try with_reducible rfl)
          (try simp only [Act.put, List.setIfInBounds_toArray, List.set_cons_zero, List.set_cons_succ])
          refine wpAnyH_tk (i := 1) (v := ?vz2) 32 rfl rfl (by kernel_rfl) (by kernel_rfl) (by kernel_rfl) (fun _ _ _ h => h) (Or.inl ⟨by rfl, ?yz2⟩) hHeld ?rz2
          case yz2 => (intro w hSw; go_simp; try with_reducible rfl)
          (try simp only [Act.put, List.setIfInBounds_toArray, List.set_cons_zero, List.set_cons_succ])
          refine wpAnyH_tk (i := 2) (v := ?vz3) 33 rfl rfl (by kernel_rfl) (by kernel_rfl) (by kernel_rfl) (fun _ _ _ h => h) (Or.inl ⟨by rfl, ?yz3⟩) hHeld ?rz3
          case yz3 => (intro w hSw; go_simp; try with_reducible rfl)
          (try simp only [Act.put, List.setIfInBounds_toArray, List.set_cons_zero, List.set_cons_succ])
          refine wpAnyH_tk (i := 3) (v := _) 34 rfl rfl (by kernel_rfl) (by kernel_rfl) (by kernel_rfl) (fun _ _ _ h => h) (yields_cell (by rfl) 3 (.tmp 33) rfl ⟨xg, 4, none⟩ rfl (v := .int .i64 xb) (fun w' h => h.cell rfl) Try.underlying3 rfl) hHeld ?_
          (try simp only [Act.put, List.setIfInBounds_toArray, List.set_cons_zero, List.set_cons_succ])
          refine wpAnyH_tk (i := 4) (v := ?vz4) 35 rfl rfl (by kernel_rfl) (by kernel_rfl) (by kernel_rfl) (fun _ _ _ h => h) (Or.inl ⟨by rfl, ?yz4⟩) hHeld ?rz4
          case yz4 => (intro w hSw; go_simp; try with_reducible rfl)
          (try simp only [Act.put, List.setIfInBounds_toArray, List.set_cons_zero, List.set_cons_succ])
          refine wpAnyH_tk (i := 5) (v := ?vz5) 36 rfl rfl (by kernel_rfl) (by kernel_rfl) (by kernel_rfl) (fun _ _ _ h => h) (Or.inl ⟨by rfl, ?yz5⟩) hHeld ?rz5
          case yz5 => (intro w hSw; go_simp; try with_reducible rfl)
          (try simp only [Act.put, List.setIfInBounds_toArray, List.set_cons_zero, List.set_cons_succ])
          refine wpAnyH_tk (i := 6) (v := ?vz6) 37 rfl rfl (by kernel_rfl) (by kernel_rfl) (by kernel_rfl) (fun _ _ _ h => h) (Or.inl ⟨by rfl, ?yz6⟩) hHeld ?rz6
          case yz6 => (intro w hSw; go_simp; try with_reducible rfl)
          (try simp only [Act.put, List.setIfInBounds_toArray, List.set_cons_zero, List.set_cons_succ])
          refine wpAnyH_tk (i := 7) (v := _) 38 rfl rfl (by kernel_rfl) (by kernel_rfl) (by kernel_rfl) (fun _ _ _ h => h) (yields_cell (by rfl) 3 (.tmp 37) rfl ⟨xg, 3, none⟩ rfl (v := .int .i64 xs) (fun w' h => h.cell rfl) Try.underlying3 rfl) hHeld ?_
          (try simp only [Act.put, List.setIfInBounds_toArray, List.set_cons_zero, List.set_cons_succ])
          refine wpAnyH_tk (i := 8) (v := ?vz7) 39 rfl rfl (by kernel_rfl) (by kernel_rfl) (by kernel_rfl) (fun _ _ _ h => h) (Or.inl ⟨by rfl, ?yz7⟩) hHeld ?rz7
          case yz7 => (intro w hSw; go_simp; try with_reducible rfl)
          (try simp only [Act.put, List.setIfInBounds_toArray, List.set_cons_zero, List.set_cons_succ])
          refine wpAnyH_one (i := 9) (by kernel_rfl) rfl (fun K hK => ?_)
          go_simp
          go_wp2_with ((go_at_call 37; refine (clone26_calls _ Ap cp op (Kd.C_drew HOP.out) (by omega)).mono ?_; rintro e wx ⟨vc, rfl, hRc0, hbx0⟩; have hX := hHeld.below' hbx0; have hRc : RC wx w5.heap.size vc op := hRc0; have hbx : Below w5.heap.size w5 wx := (below_drew (Below.refl _ _)).trans hbx0; clear hRc0 hbx0; obtain ⟨Ac, cc, rfl⟩ := Kd.R_slice hRc; obtain ⟨t, ht1, ht2, ht3, ht4, ht5, ht6, ht7, ht8, ht9⟩ := HI5.out.add hRc hbx; have HT10 := hbx.size; have HT1 := Aside0.mk ht1; have HT2 := Aside0.mk ht2; have HT3 := Aside0.mk ht3; have HT4 := Aside0.mk ht4; have HT5 := Aside0.mk ht5; have HT6 := Aside0.mk ht6; have HT7 := Aside0.mk ht7; have HT8 := Aside0.mk ht8; have HT9 := Aside0.mk ht9; clear ht1 ht2 ht3 ht4 ht5 ht6 ht7 ht8 ht9 hRc hbx))
          refine hK.out _ _ (by exact hX) (fun hHeld => ?_)
          clear hK K
          refine wpAnyH_tk (i := 10) (v := ?vz8) 41 rfl rfl (by kernel_rfl) (by kernel_rfl) (by kernel_rfl) (fun _ _ _ h => h) (Or.inl ⟨by rfl, ?yz8⟩) hHeld ?rz8
          case yz8 => (intro w hSw; go_simp; try with_reducible rfl)
          (try simp only [Act.put, List.setIfInBounds_toArray, List.set_cons_zero, List.set_cons_succ])
          refine wpAnyH_one (i := 11) (by kernel_rfl) rfl (fun K hK => ?_)
          rw [if_pos (by rfl)]
          refine step_lit28 42 rfl (.tmp 41) rfl (xb == 1) xs Ac op.length cc rfl ?_
          refine hK.out _ _ (by exact hHeld.alloc _) (fun hHeld => ?_)
          clear hK K
          (try simp only [Act.put, List.setIfInBounds_toArray, List.set_cons_zero, List.set_cons_succ])
          refine wpAnyH_one (i := 12) (by kernel_rfl) rfl (fun K hK => ?_)
          rw [if_pos (by rfl)]
          refine step_app28 43 rfl (.tmp 31) (.tmp 42) rfl rfl _ gs (xb == 1) xs op (.slice Ac op.length cc) t _ rfl rfl HT5.out HT6.out HT2.out HT3.out HT4.out HT8.out HT8.out.size (by omega) ?_; intro v1 w6 hR6 hB6 hg6 hat6; have hX6 := hX.grown hg6 (Kd.R_ne HT5.out hX (by decide))
          refine hK.out _ _ (by exact hX6) (fun hHeld => ?_)
          clear hK K
          (try simp only [Act.put, List.setIfInBounds_toArray, List.set_cons_zero, List.set_cons_succ])
          refine wpAnyH_tk (i := 13) (v := ?vz9) 3 rfl rfl (by kernel_rfl) (by kernel_rfl) (by kernel_rfl) (fun _ _ _ h => h) (Or.inl ⟨by rfl, ?yz9⟩) hHeld ?rz9
          case yz9 => (intro w hSw; go_simp; try with_reducible rfl)
          (try simp only [Act.put, List.setIfInBounds_toArray, List.set_cons_zero, List.set_cons_succ])
          refine wpAnyH_done (by kernel_rfl) ?_ _
          skip
          have HR6 := Aside0.mk hR6
          have HP6 := Aside0.mk (Kd.R_over HT7.out HT5.out (fun q hq => by have : q ∈ [44] := hq; simp at this; omega) hg6)
          have HG6 := Aside0.mk (HI5.out.tags.snoc (Nat.le_trans HT10 hg6.size) (x := (⟨xb == 1, xs, op⟩, t)) HT1.out.1 (fun hn => Nat.lt_of_lt_of_le (HT1.out.2 hn) hg6.size))
          have HB6 := Aside0.mk hB6
          go_wp2_with (first | (refine clear44 rfl rfl (.tmp 44) rfl Ap op.length cp rfl op HP6.out ?_; intro w7 h12 h13; have H7 := Aside0.mk h12; have HG7 := Aside0.mk h13; clear h12 h13))
          go_roundw
          case rel => exact ⟨k + 1, by omega, by go_num, _, _, ⟨GInv.shut HR6.out HG6.out HB6.out HP6.out hlt (HG.out t) H7.out HG7.out⟩⟩
          case measure => simp [intOf]; omega
        · have ecnt : (xc == (op.length : Int)) = false := by simp; omega
          have HG := Aside0.mk (gstep_not HI5.out.eq HXE.out H3.out hcnt)
          clear hcnt
          go_wp2_with (first | (refine clear44 rfl rfl (.tmp 44) rfl Ap op.length cp rfl op HI5.out.opn ?_; intro w7 h12 h13; have H7 := Aside0.mk h12; have HG7 := Aside0.mk h13; clear h12 h13))
          go_roundw
          case rel => exact ⟨k + 1, by omega, by go_num, _, _, ⟨GInv.shut HI5.out.out HI5.out.tags HI5.out.bel HI5.out.opn hlt HG.out H7.out HG7.out⟩⟩
          case measure => simp [intOf]; omega
      · have e3 : (xk == 3) = false := by simp; omega
        by_cases h1 : xk = 1
        · have e1 : (xk == 1) = true := by simp; omega
          have HG := Aside0.mk (gstep_put HI5.out.eq HXE.out h1)
          clear h1 h3
          go_wp2_with (first | ((with_reducible refine gate_dst (N := 57) rfl ?_); refine app44 rfl (.tmp 49) (.tmp 56) rfl _ op xb xp rfl rfl HI5.out.opn (w0 := w) HI5.out.bel HI5.out.bel.size (by omega) ?_; intro v1 w6 h12 h13 h14 h15; have H6 := Aside0.mk h12; have HB6 := Aside0.mk h13; have HG6 := Aside0.mk h14; have HA6 := Aside0.mk h15; clear h12 h13 h14 h15))
          go_roundw
          case rel => exact ⟨k + 1, by omega, by go_num, _, _, ⟨HI5.out.app hlt HG.out H6.out HB6.out HG6.out HA6.out⟩⟩
          case measure => simp [intOf]; omega
        · have e1 : (xk == 1) = false := by simp; omega
          have HG := Aside0.mk (gstep_trim HI5.out.eq HXE.out h3 h1)
          clear h1 h3
          go_wp2_with (first | ((with_reducible refine gate_dst (N := 22) rfl ?_); refine app44 rfl (.tmp 16) (.tmp 21) rfl _ op xb 0 rfl rfl HI5.out.opn (w0 := w) HI5.out.bel HI5.out.bel.size (by omega) ?_; intro v1 w6 h12 h13 h14 h15; have H6 := Aside0.mk h12; have HB6 := Aside0.mk h13; have HG6 := Aside0.mk h14; have HA6 := Aside0.mk h15; clear h12 h13 h14 h15))
          go_roundw
          case rel => exact ⟨k + 1, by omega, by go_num, _, _, ⟨HI5.out.app hlt HG.out H6.out HB6.out HG6.out HA6.out⟩⟩
          case measure => simp [intOf]; omega
    · obtain rfl : k = l.length := by omega
      have hd : decide ((l.length : Int) < l.length) = false := by simp
      go_wp2_with fail
      go_ret
      refine ⟨_, gs, rfl, ?_, Kd.R_mono HI.out.out (fun _ _ => trivial), HI.out.tags, HI.out.bel⟩
      have h := HI.out.eq
      rw [List.take_length] at h
      unfold groups
      rw [h]
end Go.Proofs.Ytkkmmbbnaafhlaa.Roll
