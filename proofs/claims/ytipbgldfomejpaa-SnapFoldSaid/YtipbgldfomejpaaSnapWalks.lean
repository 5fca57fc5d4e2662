/- The walks of layer 17. -/
import Derived.Test.YtipbgldfomejpaaSnapPlain
namespace Go.Proofs.Ytipbgldfomejpaa.Snap
set_option linter.unusedSimpArgs false
set_option linter.unusedVariables false
open Go.RowKit Go.Proofs.YtipbgldfomejpaaW.PrintWords Go.Proofs.YtipbgldfomejpaaW.PrintLast Go.Proofs.YtipbgldfomejpaaW.PrintMore Arr

def snapC (now : Int) (ob lb : Nat) : List Value := [.int .i64 now, .map (some ob), .map (some lb)]
/-- Snapshots stand there: so many commits, what is kept of them (at most m), the last one of each block. -/
structure SnapAt (w : World) (s ob lb : Nat) (now : Int) (L : Cont) (f : Int → Int) (m : Nat) : Prop where
  blk : Blk w s 74 (snapC now ob lb)
  old : OldMap w ob m L
  last : LastMap w lb m f
  ne : ob ≠ lb
section
variable {w w1 : World} {s ob lb m : Nat} {now : Int} {L : Cont} {f : Int → Int}
theorem SnapAt.n1 (h : SnapAt w s ob lb now L f m) : ob ≠ s := h.old.ne_blk h.blk
theorem SnapAt.n2 (h : SnapAt w s ob lb now L f m) : lb ≠ s := h.last.ne_blk h.blk
theorem SnapAt.heap (h : SnapAt w s ob lb now L f m) (h1 : w1.heap[s]? = w.heap[s]?) (h2 : w1.heap[ob]? = w.heap[ob]?) (h3 : w1.heap[lb]? = w.heap[lb]?) : SnapAt w1 s ob lb now L f m :=
  ⟨h1.trans h.blk, h.old.heap h2, h.last.heap h3, h.ne⟩
theorem SnapAt.below {B : Nat} (h : SnapAt w s ob lb now L f m) (hb : Below B w w1) (h1 : s < B) (h2 : ob < B) (h3 : lb < B) : SnapAt w1 s ob lb now L f m := h.heap (hb.block s h1) (hb.block ob h2) (hb.block lb h3)
theorem SnapAt.below' (h : SnapAt w s ob lb now L f m) (hb : Below w.heap.size w w1) : SnapAt w1 s ob lb now L f m := h.below hb h.blk.lt h.old.lt h.last.lt
theorem SnapAt.grown {row : Option Nat} (h : SnapAt w s ob lb now L f m) (hg : w.grownBy w1 row) (h1 : some s ≠ row) (h2 : some ob ≠ row) (h3 : some lb ≠ row) : SnapAt w1 s ob lb now L f m := ⟨h.blk.grown hg h1, h.old.kept hg h2, h.last.kept hg h3, h.ne⟩
theorem SnapAt.fresh (h : SnapAt w s ob lb now L f m) (hg : w.grownBy w1 none) : SnapAt w1 s ob lb now L f m := h.grown hg (by simp) (by simp) (by simp)
theorem SnapAt.drew (h : SnapAt w s ob lb now L f m) : SnapAt w.drew s ob lb now L f m := h.heap rfl rfl rfl
theorem SnapAt.drewN (h : SnapAt w s ob lb now L f m) (n : Nat) : SnapAt (w.drewN n) s ob lb now L f m := h.heap rfl rfl rfl
theorem SnapAt.c0 (h : SnapAt w s ob lb now L f m) : w.cell? ⟨s, 0, none⟩ = some (.int .i64 now) := h.blk.cell rfl
theorem SnapAt.c1 (h : SnapAt w s ob lb now L f m) : w.cell? ⟨s, 1, none⟩ = some (.map (some ob)) := h.blk.cell rfl
theorem SnapAt.c2 (h : SnapAt w s ob lb now L f m) : w.cell? ⟨s, 2, none⟩ = some (.map (some lb)) := h.blk.cell rfl
theorem SnapAt.mono (h : SnapAt w s ob lb now L f m) {m' : Nat} (hm : m ≤ m') : SnapAt w s ob lb now L f m' := ⟨h.blk, h.old.mono hm, h.last.mono hm, h.ne⟩
end
/-- Nothing but these three blocks, and new ones, has turned. -/
structure Moves (w w' : World) (s ob lb : Nat) : Prop where
  size : w.heap.size ≤ w'.heap.size
  heap : ∀ k, k < w.heap.size → k ≠ s → k ≠ ob → k ≠ lb → w'.heap[k]? = w.heap[k]?
  below : ∀ (B : Nat) (w0 : World), Below B w0 w → B ≤ w.heap.size → B ≤ s → B ≤ ob → B ≤ lb → Below B w0 w'
section
variable {w w1 w2 : World} {s ob lb : Nat}
theorem Moves.refl (w : World) (s ob lb : Nat) : Moves w w s ob lb := ⟨Nat.le_refl _, fun _ _ _ _ _ => rfl, fun _ _ h _ _ _ _ => h⟩
theorem Moves.trans (h : Moves w w1 s ob lb) (h' : Moves w1 w2 s ob lb) : Moves w w2 s ob lb :=
  ⟨Nat.le_trans h.size h'.size, fun k hk h1 h2 h3 => (h'.heap k (Nat.lt_of_lt_of_le hk h.size) h1 h2 h3).trans (h.heap k hk h1 h2 h3), fun B w0 hB hs h1 h2 h3 => h'.below B w0 (h.below B w0 hB hs h1 h2 h3) (Nat.le_trans hs h.size) h1 h2 h3⟩
theorem Moves.of_below (h : Below w.heap.size w w1) : Moves w w1 s ob lb := ⟨h.size, fun k hk _ _ _ => h.block k hk, fun B w0 hB hs _ _ _ => hB.trans (h.mono hs)⟩
theorem Moves.of_grown {g : Nat} (h : w.grownBy w1 (some g)) (hg : g = s ∨ g = ob ∨ g = lb ∨ w.heap.size ≤ g) : Moves w w1 s ob lb :=
  ⟨h.size, fun k hk h1 h2 h3 => h.block k hk (by simp; omega), fun B w0 hB hs h1 h2 h3 => below_grown hB (by omega) hs h⟩
theorem Moves.fresh (h : w.grownBy w1 none) : Moves w w1 s ob lb := .of_below (grown_fresh h)
theorem Moves.put (h : Moves w w1 s ob lb) {g : Nat} (hg : w1.grownBy w2 (some g)) (hle : w.heap.size ≤ g ∨ g = s ∨ g = ob ∨ g = lb) : Moves w w2 s ob lb :=
  ⟨Nat.le_trans h.size hg.size, fun k hk h1 h2 h3 => (hg.block k (Nat.lt_of_lt_of_le hk h.size) (by simp; omega)).trans (h.heap k hk h1 h2 h3), fun B w0 hB hs h1 h2 h3 => below_grown (h.below B w0 hB hs h1 h2 h3) (by omega) (Nat.le_trans hs h.size) hg⟩
theorem Moves.drew (w : World) (s ob lb : Nat) : Moves w w.drew s ob lb := .of_below (below_drew (Below.refl _ _))
theorem Moves.blk (h : Moves w w1 s ob lb) {g : Nat} {t : TypeId} {cs : List Value} (hb : Blk w g t cs) (h1 : g ≠ s) (h2 : g ≠ ob) (h3 : g ≠ lb) : Blk w1 g t cs := (h.heap g hb.lt h1 h2 h3).trans hb
end
set_option maxHeartbeats 1000000 in
theorem new_calls (w : World) : Calls Try.prog 13 #[] w fun e w' => ∃ s ob lb, e = .returned (.pointer (some ⟨s, 0, none⟩)) ∧ SnapAt w' s ob lb 0 [] (fun _ => 0) 0 ∧ w.heap.size ≤ s ∧ w.heap.size ≤ ob ∧ w.heap.size ≤ lb ∧ Below w.heap.size w w' := by
  have hmm := @run_makeMap Try.prog
  go_enter Try.func13, Try.ntmps13
  go_wp2_with fail
  go_ret
  refine ⟨w.heap.size + 1 + 1, w.heap.size, w.heap.size + 1, rfl, ?_, by omega, by omega, by omega, ?_⟩
  · have e1 : (w.alloc (.map #[] 0)).heap.size = w.heap.size + 1 := by simp
    have e2 : ((w.alloc (.map #[] 0)).alloc (.map #[] 0)).heap.size = w.heap.size + 1 + 1 := by simp
    have h1 := (OldMap.made w).kept (World.grownBy_alloc _ (.map #[] 0) none) (by simp)
    have h2 := LastMap.made (w.alloc (.map #[] 0))
    rw [e1] at h2
    have h3 := Blk.new ((w.alloc (.map #[] 0)).alloc (.map #[] 0)) 74 (snapC 0 w.heap.size (w.heap.size + 1))
    rw [e2] at h3
    exact ⟨h3, h1.kept (World.grownBy_alloc _ _ none) (by simp), h2.kept (World.grownBy_alloc _ _ none) (by simp), by omega⟩
  · exact ((((Below.refl _ _).alloc (Nat.le_refl _) _).alloc (by simp) _).alloc (by simp; omega) _)
theorem info76 : (Try.prog.info? 76).map (·.zero) = some (some (.agg #[.int .i64 0, .int .i64 0])) := by kernel_rfl
theorem size76 : (Try.prog.info? 76).map (·.size) = some 2 := by kernel_rfl
def keyC (b n : Int) : List Value := [.int .i64 b, .int .i64 n]
set_option maxRecDepth 10000 in
set_option maxHeartbeats 4000000 in
theorem commit_calls (w : World) (s ob lb m : Nat) (now : Int) (L : Cont) (f : Int → Int) (hS : SnapAt w s ob lb now L f m) (A : Option Addr) (c : Nat) (l : List Old) (hCO : ∀ w1, Moves w w1 s ob lb → CO w1 A l.length l) (hG : ∀ o ∈ l, gOld o)
    (hn0 : 0 ≤ now) (hn1 : now ≤ 100000) (hm : m + l.length ≤ 100000) :
    Calls Try.prog 14 #[.pointer (some ⟨s, 0, none⟩), .slice A l.length c] w fun e w' => e = .returned (.tuple #[]) ∧ SnapAt w' s ob lb (now + 1) (cTo (now + 1) (L, f) l).1 (cTo (now + 1) (L, f) l).2 (m + l.length) ∧ Moves w w' s ob lb := by
  have HC := Aside0.mk hCO
  have HG := Aside0.mk hG
  have h0 := hS.c0
  have hf0 := hS.blk.frozen 0
  have HS0 := Aside0.mk hS
  have hnw : (Lit.int .i64 (now + 1)).wf = true := wf_i64 (by omega)
  have HNW := Aside0.mk hnw
  clear hCO hG hS hnw
  go_enter Try.func14, Try.ntmps14
  go_wp2_with fail
  have HS := Aside0.mk (show SnapAt (w.setCell ⟨s, 0, none⟩ (.int .i64 (now + 1))) s ob lb (now + 1) (cTo (now + 1) (L, f) (l.take 0)).1 (cTo (now + 1) (L, f) (l.take 0)).2 (m + 0) from
    ⟨HS0.out.blk.set 0 _, HS0.out.old.kept (grown_set w s 0 _) (by have := HS0.out.n1; simpa using this), HS0.out.last.kept (grown_set w s 0 _) (by have := HS0.out.n2; simpa using this), HS0.out.ne⟩)
  have HM := Aside0.mk (show Moves w (w.setCell ⟨s, 0, none⟩ (.int .i64 (now + 1))) s ob lb from .of_grown (grown_set w s 0 _) (.inl rfl))
  clear h0 hf0 HS0
  go_loopw [18] (fun i wr => ∃ k : Nat, k ≤ l.length ∧ i = .int .i64 k ∧ Aside0 (SnapAt wr s ob lb (now + 1) (cTo (now + 1) (L, f) (l.take k)).1 (cTo (now + 1) (L, f) (l.take k)).2 (m + k)) ∧ Aside0 (Moves w wr s ob lb)) (fun i _ => l.length - (intOf i).toNat)
  case atStart => exact ⟨0, by omega, rfl, HS, HM⟩
  case round =>
    clear HS HM
    obtain ⟨k, hk, rfl, HS, HM⟩ := hrel
    have hlm := Kd.C_max (HC.out wr HM.out)
    by_cases hlt : k < l.length
    · have hd : decide ((k : Int) < l.length) = true := by simp; omega
      obtain ⟨ad, hA, hcx, hxl⟩ := at29 (HC.out wr HM.out) k hlt
      subst hA
      have HNX := Aside0.mk (cTo_succ (now + 1) (L, f) l k hlt)
      have HXW := Aside0.mk (HG.out _ (og_mem l k hlt)).1
      obtain ⟨x, hx⟩ : ∃ x, x = og l k := ⟨_, rfl⟩
      rw [← hx] at hcx hxl HNX HXW
      have HCX := Aside0.mk hcx
      obtain ⟨st, hst⟩ : ∃ st, st = cTo (now + 1) (L, f) (l.take k) := ⟨_, rfl⟩
      rw [← hst] at HS HNX
      clear hcx hx hst
      go_upto_region 4 with (first | ((with_reducible refine gate_dst (N := 21) rfl ?_); refine load29 rfl (.tmp 20) rfl (ad.add (k * 34)) rfl x hxl HCX.out ?_) | ((with_reducible refine gate_dst (N := 5) rfl ?_); refine alloc29 rfl rfl ?_; intro w4 xg h6 h7 h8; have H4 := Aside0.mk h7; have HS4 := Aside0.mk (HS.out.fresh h8); have HM4 := Aside0.mk (HM.out.trans (.fresh h8)); clear h7 h8) | (refine store29 rfl rfl (.tmp 5) (.tmp 21) rfl xg rfl x hxl rfl (M := old0) rfl H4.out ?_; intro w5 h9 h10 h11; have H5 := Aside0.mk h9; have HS5 := Aside0.mk (HS4.out.grown h10 (by simpa using HS4.out.blk.ne H4.out (by decide)) (by simpa using HS4.out.old.ne_blk H4.out) (by simpa using HS4.out.last.ne_blk H4.out)); have HM5 := Aside0.mk (HM4.out.put h10 (.inl (Nat.le_trans HM.out.size h6))); clear h9 h10 h11))
      have hxw := Nat.le_trans HM.out.size h6
      obtain ⟨xb, xh, xd⟩ := x
      clear HS HM HS4 HM4 H4 HCX
      refine wp_region_held_drew (S := (fun w' => OB w' xg ⟨xb, xh, xd⟩ ∧ SnapAt w' s ob lb (now + 1) st.1 st.2 (m + k))) (by kernel_rfl) (by exact ⟨H5.out.drew, HS5.out.drew⟩) (fun hHeld => ?_)
      refine wpAnyH_tk (i := 0) (v := ?vz1) 22 rfl rfl (by kernel_rfl) (by kernel_rfl) (by kernel_rfl) (fun _ _ _ h => h) (Or.inl ⟨by rfl, ?yz1⟩) hHeld ?rz1
      case yz1 => (intro w hSw; go_simp; try with_reducible rfl)
      (try simp only [Act.put, List.setIfInBounds_toArray, List.set_cons_zero, List.set_cons_succ])
      refine wpAnyH_tk (i := 1) (v := _) 23 rfl rfl (by kernel_rfl) (by kernel_rfl) (by kernel_rfl) (fun _ _ _ h => h) (yields_cell (by rfl) 3 (.tmp 22) rfl ⟨xg, 0, none⟩ rfl (v := .int .i64 xb) (fun w h => h.1.cell rfl) Try.underlying3 rfl) hHeld ?_
      (try simp only [Act.put, List.setIfInBounds_toArray, List.set_cons_zero, List.set_cons_succ])
      refine wpAnyH_tk (i := 2) (v := ?vz2) 24 rfl rfl (by kernel_rfl) (by kernel_rfl) (by kernel_rfl) (fun _ _ _ h => h) (Or.inl ⟨by rfl, ?yz2⟩) hHeld ?rz2
      case yz2 => (intro w hSw; go_simp; try with_reducible rfl)
      (try simp only [Act.put, List.setIfInBounds_toArray, List.set_cons_zero, List.set_cons_succ])
      refine wpAnyH_tk (i := 3) (v := ?vz3) 25 rfl rfl (by kernel_rfl) (by kernel_rfl) (by kernel_rfl) (fun _ _ _ h => h) (Or.inl ⟨by rfl, ?yz3⟩) hHeld ?rz3
      case yz3 => (intro w hSw; go_simp; try with_reducible rfl)
      (try simp only [Act.put, List.setIfInBounds_toArray, List.set_cons_zero, List.set_cons_succ])
      refine wpAnyH_tk (i := 4) (v := ?vz4) 26 rfl rfl (by kernel_rfl) (by kernel_rfl) (by kernel_rfl) (fun _ _ _ h => h) (Or.inl ⟨by rfl, ?yz4⟩) hHeld ?rz4
      case yz4 => (intro w hSw; go_simp; try with_reducible rfl)
      (try simp only [Act.put, List.setIfInBounds_toArray, List.set_cons_zero, List.set_cons_succ])
      refine wpAnyH_tk (i := 5) (v := _) 27 rfl rfl (by kernel_rfl) (by kernel_rfl) (by kernel_rfl) (fun _ _ _ h => h) (yields_cell (by rfl) 3 (.tmp 26) rfl ⟨s, 0, none⟩ rfl (v := .int .i64 (now + 1)) (fun w h => h.2.c0) Try.underlying3 rfl) hHeld ?_
      (try simp only [Act.put, List.setIfInBounds_toArray, List.set_cons_zero, List.set_cons_succ])
      refine wpAnyH_tk (i := 6) (v := ?vz5) 28 rfl rfl (by kernel_rfl) (by kernel_rfl) (by kernel_rfl) (fun _ _ _ h => h) (Or.inl ⟨by rfl, ?yz5⟩) hHeld ?rz5
      case yz5 => (intro w hSw; go_simp; try with_reducible rfl)
      (try simp only [Act.put, List.setIfInBounds_toArray, List.set_cons_zero, List.set_cons_succ])
      refine wpAnyH_one (i := 7) (by kernel_rfl) rfl (fun K hK => ?_)
      rw [if_pos (by rfl)]
      refine step_alloc 6 rfl 76 rfl _ info76 [.int .i64 0, .int .i64 0] rfl ?_; intro w6 kg h12 h13 h14; have hX6 := hHeld.1.grown h14 (by simp); have hS6 := hHeld.2.fresh h14; have hM6 := (HM5.out.trans (.drew _ s ob lb)).trans (.fresh h14); have hkw := Nat.le_trans HM5.out.size h12
      refine hK.out _ _ (by exact ⟨hX6, hS6⟩) (fun hHeld => ?_)
      clear hK K
      (try simp only [Act.put, List.setIfInBounds_toArray, List.set_cons_zero, List.set_cons_succ])
      refine wpAnyH_one (i := 8) (by kernel_rfl) rfl (fun K hK => ?_)
      rw [if_pos (by rfl)]
      refine step_storeAll rfl 76 (.tmp 6) (.tmp 28) rfl kg rfl (keyC xb (now + 1)) rfl (by exact size76) (by intro v hv; unfold keyC at hv; simp at hv; rcases hv with rfl | rfl <;> rfl) h13 rfl ?_; intro w7 h15 h16 h17; have hX7 := hX6.grown h16 (by simpa using hX6.ne h13 (by decide)); have hS7 := hS6.grown h16 (by simpa using hS6.blk.ne h13 (by decide)) (by simpa using hS6.old.ne_blk h13) (by simpa using hS6.last.ne_blk h13); have hM7 := hM6.put h16 (.inl hkw)
      refine hK.out _ _ (by exact ⟨hX7, hS7⟩) (fun hHeld => ?_)
      clear hK K
      (try simp only [Act.put, List.setIfInBounds_toArray, List.set_cons_zero, List.set_cons_succ])
      refine wpAnyH_done (by kernel_rfl) ?_ _
      skip
      have HK7 := Aside0.mk h15
      have HX7 := Aside0.mk hX7
      have HS7 := Aside0.mk hS7
      have HM7 := Aside0.mk hM7
      clear h12 h13 h14 h15 h16 h17 hX6 hS6 hM6 hX7 hS7 hM7 H5 HS5 HM5 hHeld
      rcases hfk : fnd st.1 (xb, now + 1) with _ | ov
      · have HNO := Aside0.mk hfk
        have HEQ := Aside0.mk (show cstep (now + 1) st ⟨xb, xh, xd⟩ = (st.1 ++ [((xb, now + 1), ⟨xb, xh, xd⟩)], fun x => if x = xb then now + 1 else st.2 x) by unfold cstep; rw [hfk]; rfl)
        clear hfk
        go_upto_region 5 with (fail)
        refine wp_region_held_drew (S := (fun w' => (OB w' xg ⟨xb, xh, xd⟩ ∧ Blk w' kg 76 (keyC xb (now + 1))) ∧ SnapAt w' s ob lb (now + 1) st.1 st.2 (m + k))) (by kernel_rfl) (by exact ⟨⟨HX7.out.drew, HK7.out.drew⟩, HS7.out.drew⟩) (fun hHeld => ?_)
        refine wpAnyH_tk (i := 0) (v := ?vz6) 30 rfl rfl (by kernel_rfl) (by kernel_rfl) (by kernel_rfl) (fun _ _ _ h => h) (Or.inl ⟨by rfl, ?yz6⟩) hHeld ?rz6
        case yz6 => (intro w hSw; go_simp; try with_reducible rfl)
        (try simp only [Act.put, List.setIfInBounds_toArray, List.set_cons_zero, List.set_cons_succ])
        refine wpAnyH_tk (i := 1) (v := ?vz7) 31 rfl rfl (by kernel_rfl) (by kernel_rfl) (by kernel_rfl) (fun _ _ _ h => h) (Or.inl ⟨by rfl, ?yz7⟩) hHeld ?rz7
        case yz7 => (intro w hSw; go_simp; try with_reducible rfl)
        (try simp only [Act.put, List.setIfInBounds_toArray, List.set_cons_zero, List.set_cons_succ])
        refine wpAnyH_tk (i := 2) (v := ?vz8) 32 rfl rfl (by kernel_rfl) (by kernel_rfl) (by kernel_rfl) (fun _ _ _ h => h) (Or.inl ⟨by rfl, ?yz8⟩) hHeld ?rz8
        case yz8 => (intro w hSw; go_simp; try with_reducible rfl)
        (try simp only [Act.put, List.setIfInBounds_toArray, List.set_cons_zero, List.set_cons_succ])
        refine wpAnyH_tk (i := 3) (v := _) 33 rfl rfl (by kernel_rfl) (by kernel_rfl) (by kernel_rfl) (fun _ _ _ h => h) (yields_cell (by rfl) 71 (.tmp 32) rfl ⟨s, 1, none⟩ rfl (v := .map (some ob)) (fun w h => h.2.c1) Try.underlying71 rfl) hHeld ?_
        (try simp only [Act.put, List.setIfInBounds_toArray, List.set_cons_zero, List.set_cons_succ])
        refine wpAnyH_tk (i := 4) (v := _) 34 rfl rfl (by kernel_rfl) (by kernel_rfl) (by kernel_rfl) (fun _ _ _ h => h) (yields_load (by rfl) 76 (.tmp 6) rfl kg rfl (fun w h => h.1.2) Try.underlying76 rfl (by exact size76)) hHeld ?_
        (try simp only [Act.put, List.setIfInBounds_toArray, List.set_cons_zero, List.set_cons_succ])
        refine wpAnyH_tk (i := 5) (v := _) 35 rfl rfl (by kernel_rfl) (by kernel_rfl) (by kernel_rfl) (fun _ _ _ h => h) (yields_look71 (by rfl) (.tmp 33) (.tmp 34) rfl xb (now + 1) rfl rfl HXW.out HNW.out (fun w h => h.2.old) old0 false (by rw [HNO.out]; rfl) (by rw [HNO.out]; rfl)) hHeld ?_
        (try simp only [Act.put, List.setIfInBounds_toArray, List.set_cons_zero, List.set_cons_succ])
        refine wpAnyH_tk (i := 6) (v := ?vz9) 29 rfl rfl (by kernel_rfl) (by kernel_rfl) (by kernel_rfl) (fun _ _ _ h => h) (Or.inl ⟨by rfl, ?yz9⟩) hHeld ?rz9
        case yz9 => (intro w hSw; go_simp; try with_reducible rfl)
        (try simp only [Act.put, List.setIfInBounds_toArray, List.set_cons_zero, List.set_cons_succ])
        refine wpAnyH_tk (i := 7) (v := ?vz10) 36 rfl rfl (by kernel_rfl) (by kernel_rfl) (by kernel_rfl) (fun _ _ _ h => h) (Or.inl ⟨by rfl, ?yz10⟩) hHeld ?rz10
        case yz10 => (intro w hSw; go_simp; try with_reducible rfl)
        (try simp only [Act.put, List.setIfInBounds_toArray, List.set_cons_zero, List.set_cons_succ])
        refine wpAnyH_tk (i := 8) (v := ?vz11) 37 rfl rfl (by kernel_rfl) (by kernel_rfl) (by kernel_rfl) (fun _ _ _ h => h) (Or.inl ⟨by rfl, ?yz11⟩) hHeld ?rz11
        case yz11 => (intro w hSw; go_simp; try with_reducible rfl)
        (try simp only [Act.put, List.setIfInBounds_toArray, List.set_cons_zero, List.set_cons_succ])
        refine wpAnyH_one (i := 9) (by kernel_rfl) rfl (fun K hK => ?_)
        rw [if_pos (by rfl)]
        refine step_alloc29 7 rfl rfl ?_; intro w8 yg h21 h22 h23; have hX8 := hHeld.1.1.grown h23 (by simp); have hK8 := hHeld.1.2.grown h23 (by simp); have hS8 := hHeld.2.fresh h23; have hM8 := (HM7.out.trans (.drew _ s ob lb)).trans (.fresh h23); have hyw := Nat.le_trans HM7.out.size h21; have hyx : yg ≠ xg := (by have := HX7.out.lt; have : w7.heap.size ≤ yg := h21; omega)
        refine hK.out _ _ (by exact ⟨⟨hX8, hK8⟩, hS8⟩) (fun hHeld => ?_)
        clear hK K
        (try simp only [Act.put, List.setIfInBounds_toArray, List.set_cons_zero, List.set_cons_succ])
        refine wpAnyH_one (i := 10) (by kernel_rfl) rfl (fun K hK => ?_)
        rw [if_pos (by rfl)]
        refine step_store29 rfl (.tmp 7) (.tmp 36) rfl yg rfl old0 rfl rfl (M := old0) rfl h22 ?_; intro w9 h24 h25 h26; have hX9 := hX8.grown h25 (by simpa using hyx.symm); have hK9 := hK8.grown h25 (by simpa using hK8.ne h22 (by decide)); have hS9 := hS8.grown h25 (by simpa using hS8.blk.ne h22 (by decide)) (by simpa using hS8.old.ne_blk h22) (by simpa using hS8.last.ne_blk h22); have hM9 := hM8.put h25 (.inl hyw)
        refine hK.out _ _ (by exact ⟨⟨hX9, hK9⟩, hS9⟩) (fun hHeld => ?_)
        clear hK K
        (try simp only [Act.put, List.setIfInBounds_toArray, List.set_cons_zero, List.set_cons_succ])
        refine wpAnyH_tk (i := 11) (v := ?vz12) 8 rfl rfl (by kernel_rfl) (by kernel_rfl) (by kernel_rfl) (fun _ _ _ h => h) (Or.inl ⟨by rfl, ?yz12⟩) hHeld ?rz12
        case yz12 => (intro w hSw; go_simp; try with_reducible rfl)
        (try simp only [Act.put, List.setIfInBounds_toArray, List.set_cons_zero, List.set_cons_succ])
        refine wpAnyH_done (by kernel_rfl) ?_ _
        skip
        have HX9 := Aside0.mk hX9
        have HK9 := Aside0.mk hK9
        have HS9 := Aside0.mk hS9
        have HM9 := Aside0.mk hM9
        clear h21 h22 h23 h24 h25 h26 hX8 hK8 hS8 hM8 hX9 hK9 hS9 hM9 hHeld hyx HX7 HK7 HS7 HM7
        go_upto_region 7 with (fail)
        refine wp_region_held_drew (S := (fun w' => (OB w' xg ⟨xb, xh, xd⟩ ∧ Blk w' kg 76 (keyC xb (now + 1))) ∧ Blk w' s 74 (snapC (now + 1) ob lb))) (by kernel_rfl) (by exact ⟨⟨HX9.out.drew, HK9.out.drew⟩, HS9.out.blk.drew⟩) (fun hHeld => ?_)
        refine wpAnyH_tk (i := 0) (v := ?vz13) 39 rfl rfl (by kernel_rfl) (by kernel_rfl) (by kernel_rfl) (fun _ _ _ h => h) (Or.inl ⟨by rfl, ?yz13⟩) hHeld ?rz13
        case yz13 => (intro w hSw; go_simp; try with_reducible rfl)
        (try simp only [Act.put, List.setIfInBounds_toArray, List.set_cons_zero, List.set_cons_succ])
        refine wpAnyH_tk (i := 1) (v := ?vz14) 40 rfl rfl (by kernel_rfl) (by kernel_rfl) (by kernel_rfl) (fun _ _ _ h => h) (Or.inl ⟨by rfl, ?yz14⟩) hHeld ?rz14
        case yz14 => (intro w hSw; go_simp; try with_reducible rfl)
        (try simp only [Act.put, List.setIfInBounds_toArray, List.set_cons_zero, List.set_cons_succ])
        refine wpAnyH_tk (i := 2) (v := ?vz15) 41 rfl rfl (by kernel_rfl) (by kernel_rfl) (by kernel_rfl) (fun _ _ _ h => h) (Or.inl ⟨by rfl, ?yz15⟩) hHeld ?rz15
        case yz15 => (intro w hSw; go_simp; try with_reducible rfl)
        (try simp only [Act.put, List.setIfInBounds_toArray, List.set_cons_zero, List.set_cons_succ])
        refine wpAnyH_tk (i := 3) (v := _) 42 rfl rfl (by kernel_rfl) (by kernel_rfl) (by kernel_rfl) (fun _ _ _ h => h) (yields_cell (by rfl) 71 (.tmp 41) rfl ⟨s, 1, none⟩ rfl (v := .map (some ob)) (fun w h => h.2.cell rfl) Try.underlying71 rfl) hHeld ?_
        (try simp only [Act.put, List.setIfInBounds_toArray, List.set_cons_zero, List.set_cons_succ])
        refine wpAnyH_tk (i := 4) (v := _) 43 rfl rfl (by kernel_rfl) (by kernel_rfl) (by kernel_rfl) (fun _ _ _ h => h) (yields_load (by rfl) 76 (.tmp 6) rfl kg rfl (fun w h => h.1.2) Try.underlying76 rfl (by exact size76)) hHeld ?_
        (try simp only [Act.put, List.setIfInBounds_toArray, List.set_cons_zero, List.set_cons_succ])
        refine wpAnyH_tk (i := 5) (v := _) 44 rfl rfl (by kernel_rfl) (by kernel_rfl) (by kernel_rfl) (fun _ _ _ h => h) (yields_load (by rfl) 29 (.tmp 5) rfl xg rfl (fun w h => h.1.1) Try.underlying29 rfl (by rw [oldC_len _ hxl]; exact size29)) hHeld ?_
        (try simp only [Act.put, List.setIfInBounds_toArray, List.set_cons_zero, List.set_cons_succ])
        refine wpAnyH_one (i := 6) (by kernel_rfl) rfl (fun K hK => ?_)
        rw [if_pos (by rfl)]
        refine step_upd71 rfl (.tmp 42) (.tmp 43) (.tmp 44) rfl xb (now + 1) ⟨xb, xh, xd⟩ rfl rfl rfl HXW.out HNW.out hxl HNO.out (by unfold maxLen; omega) HS9.out.drew.old ?_; intro w10 h31 h32; have hX10 := hHeld.1.1.grown h32 (by simpa using fun e => HS9.out.old.ne_blk HX9.out e.symm); have hB10 := hHeld.2.grown h32 (by simpa using fun e => HS9.out.n1 e.symm); have hL10 := HS9.out.drew.last.kept h32 (by simpa using HS9.out.ne.symm); have hM10 := (HM9.out.trans (.drew _ s ob lb)).put h32 (.inr (.inr (.inl rfl)))
        refine hK.out _ _ (by exact ⟨⟨hX10, hHeld.1.2.grown h32 (by simpa using fun e => HS9.out.old.ne_blk HK9.out e.symm)⟩, hB10⟩) (fun hHeld => ?_)
        clear hK K
        (try simp only [Act.put, List.setIfInBounds_toArray, List.set_cons_zero, List.set_cons_succ])
        refine wpAnyH_done (by kernel_rfl) ?_ _
        skip
        have HX10 := Aside0.mk hX10
        have HB10 := Aside0.mk hB10
        have HL10 := Aside0.mk hL10
        have HM10 := Aside0.mk hM10
        have HO10 := Aside0.mk h31
        have HNE := Aside0.mk HS9.out.ne
        clear h31 h32 hX10 hB10 hL10 hM10 hHeld HX9 HK9 HS9 HM9
        go_upto_region 8 with (fail)
        refine wp_region_held_drew (S := (fun w' => OB w' xg ⟨xb, xh, xd⟩ ∧ Blk w' s 74 (snapC (now + 1) ob lb))) (by kernel_rfl) (by exact ⟨HX10.out.drew, HB10.out.drew⟩) (fun hHeld => ?_)
        refine wpAnyH_tk (i := 0) (v := ?vz16) 45 rfl rfl (by kernel_rfl) (by kernel_rfl) (by kernel_rfl) (fun _ _ _ h => h) (Or.inl ⟨by rfl, ?yz16⟩) hHeld ?rz16
        case yz16 => (intro w hSw; go_simp; try with_reducible rfl)
        (try simp only [Act.put, List.setIfInBounds_toArray, List.set_cons_zero, List.set_cons_succ])
        refine wpAnyH_tk (i := 1) (v := ?vz17) 46 rfl rfl (by kernel_rfl) (by kernel_rfl) (by kernel_rfl) (fun _ _ _ h => h) (Or.inl ⟨by rfl, ?yz17⟩) hHeld ?rz17
        case yz17 => (intro w hSw; go_simp; try with_reducible rfl)
        (try simp only [Act.put, List.setIfInBounds_toArray, List.set_cons_zero, List.set_cons_succ])
        refine wpAnyH_tk (i := 2) (v := ?vz18) 47 rfl rfl (by kernel_rfl) (by kernel_rfl) (by kernel_rfl) (fun _ _ _ h => h) (Or.inl ⟨by rfl, ?yz18⟩) hHeld ?rz18
        case yz18 => (intro w hSw; go_simp; try with_reducible rfl)
        (try simp only [Act.put, List.setIfInBounds_toArray, List.set_cons_zero, List.set_cons_succ])
        refine wpAnyH_tk (i := 3) (v := _) 48 rfl rfl (by kernel_rfl) (by kernel_rfl) (by kernel_rfl) (fun _ _ _ h => h) (yields_cell (by rfl) 72 (.tmp 47) rfl ⟨s, 2, none⟩ rfl (v := .map (some lb)) (fun w h => h.2.cell rfl) Try.underlying72 rfl) hHeld ?_
        (try simp only [Act.put, List.setIfInBounds_toArray, List.set_cons_zero, List.set_cons_succ])
        refine wpAnyH_tk (i := 4) (v := ?vz19) 49 rfl rfl (by kernel_rfl) (by kernel_rfl) (by kernel_rfl) (fun _ _ _ h => h) (Or.inl ⟨by rfl, ?yz19⟩) hHeld ?rz19
        case yz19 => (intro w hSw; go_simp; try with_reducible rfl)
        (try simp only [Act.put, List.setIfInBounds_toArray, List.set_cons_zero, List.set_cons_succ])
        refine wpAnyH_tk (i := 5) (v := _) 50 rfl rfl (by kernel_rfl) (by kernel_rfl) (by kernel_rfl) (fun _ _ _ h => h) (yields_cell (by rfl) 3 (.tmp 49) rfl ⟨xg, 0, none⟩ rfl (v := .int .i64 xb) (fun w h => h.1.cell rfl) Try.underlying3 rfl) hHeld ?_
        (try simp only [Act.put, List.setIfInBounds_toArray, List.set_cons_zero, List.set_cons_succ])
        refine wpAnyH_tk (i := 6) (v := ?vz20) 51 rfl rfl (by kernel_rfl) (by kernel_rfl) (by kernel_rfl) (fun _ _ _ h => h) (Or.inl ⟨by rfl, ?yz20⟩) hHeld ?rz20
        case yz20 => (intro w hSw; go_simp; try with_reducible rfl)
        (try simp only [Act.put, List.setIfInBounds_toArray, List.set_cons_zero, List.set_cons_succ])
        refine wpAnyH_tk (i := 7) (v := ?vz21) 52 rfl rfl (by kernel_rfl) (by kernel_rfl) (by kernel_rfl) (fun _ _ _ h => h) (Or.inl ⟨by rfl, ?yz21⟩) hHeld ?rz21
        case yz21 => (intro w hSw; go_simp; try with_reducible rfl)
        (try simp only [Act.put, List.setIfInBounds_toArray, List.set_cons_zero, List.set_cons_succ])
        refine wpAnyH_tk (i := 8) (v := ?vz22) 53 rfl rfl (by kernel_rfl) (by kernel_rfl) (by kernel_rfl) (fun _ _ _ h => h) (Or.inl ⟨by rfl, ?yz22⟩) hHeld ?rz22
        case yz22 => (intro w hSw; go_simp; try with_reducible rfl)
        (try simp only [Act.put, List.setIfInBounds_toArray, List.set_cons_zero, List.set_cons_succ])
        refine wpAnyH_tk (i := 9) (v := _) 54 rfl rfl (by kernel_rfl) (by kernel_rfl) (by kernel_rfl) (fun _ _ _ h => h) (yields_cell (by rfl) 3 (.tmp 53) rfl ⟨s, 0, none⟩ rfl (v := .int .i64 (now + 1)) (fun w h => h.2.cell rfl) Try.underlying3 rfl) hHeld ?_
        (try simp only [Act.put, List.setIfInBounds_toArray, List.set_cons_zero, List.set_cons_succ])
        refine wpAnyH_one (i := 10) (by kernel_rfl) rfl (fun K hK => ?_)
        rw [if_pos (by rfl)]
        refine step_upd72 rfl (.tmp 48) (.tmp 50) (.tmp 54) rfl xb (now + 1) rfl rfl rfl HXW.out HNW.out (by unfold maxLen; omega) HL10.out ?_; intro w11 h41 h42; have hB11 := hHeld.2.grown h42 (by simpa using fun e => (HL10.out.ne_blk HB10.out) e.symm); have hO11 := (OldMap.heap (w1 := w10.drew) HO10.out rfl).kept (w1 := w11) (row := some lb) h42 (by simpa using HNE.out); have hM11 := (HM10.out.trans (.drew _ s ob lb)).put h42 (.inr (.inr (.inr rfl)))
        refine hK.out _ _ (by exact ⟨hHeld.1.grown h42 (by simpa using fun e => (HL10.out.ne_blk HX10.out) e.symm), hB11⟩) (fun hHeld => ?_)
        clear hK K
        (try simp only [Act.put, List.setIfInBounds_toArray, List.set_cons_zero, List.set_cons_succ])
        refine wpAnyH_done (by kernel_rfl) ?_ _
        skip
        have HR := Aside0.mk (show SnapAt w11 s ob lb (now + 1) (cTo (now + 1) (L, f) (l.take (k + 1))).1 (cTo (now + 1) (L, f) (l.take (k + 1))).2 (m + (k + 1)) by
          rw [HNX.out, HEQ.out]
          exact ⟨hB11, hO11, h41, HNE.out⟩)
        have HMR := Aside0.mk hM11
        clear h41 h42 hB11 hO11 hM11 hHeld
        go_wp2_with fail
        go_roundw
        case rel => exact ⟨k + 1, by omega, by go_num, HR, HMR⟩
        case measure => simp [intOf]; omega
      · have HNO := Aside0.mk hfk
        have HOV := Aside0.mk (HS7.out.old.good hfk)
        have HEQ := Aside0.mk (show cstep (now + 1) st ⟨xb, xh, xd⟩ = st by unfold cstep; rw [hfk]; rfl)
        clear hfk
        go_upto_region 5 with (fail)
        refine wp_region_held_drew (S := (fun w' => (OB w' xg ⟨xb, xh, xd⟩ ∧ Blk w' kg 76 (keyC xb (now + 1))) ∧ SnapAt w' s ob lb (now + 1) st.1 st.2 (m + k))) (by kernel_rfl) (by exact ⟨⟨HX7.out.drew, HK7.out.drew⟩, HS7.out.drew⟩) (fun hHeld => ?_)
        refine wpAnyH_tk (i := 0) (v := ?vz23) 30 rfl rfl (by kernel_rfl) (by kernel_rfl) (by kernel_rfl) (fun _ _ _ h => h) (Or.inl ⟨by rfl, ?yz23⟩) hHeld ?rz23
        case yz23 => (intro w hSw; go_simp; try with_reducible rfl)
        (try simp only [Act.put, List.setIfInBounds_toArray, List.set_cons_zero, List.set_cons_succ])
        refine wpAnyH_tk (i := 1) (v := ?vz24) 31 rfl rfl (by kernel_rfl) (by kernel_rfl) (by kernel_rfl) (fun _ _ _ h => h) (Or.inl ⟨by rfl, ?yz24⟩) hHeld ?rz24
        case yz24 => (intro w hSw; go_simp; try with_reducible rfl)
        (try simp only [Act.put, List.setIfInBounds_toArray, List.set_cons_zero, List.set_cons_succ])
        refine wpAnyH_tk (i := 2) (v := ?vz25) 32 rfl rfl (by kernel_rfl) (by kernel_rfl) (by kernel_rfl) (fun _ _ _ h => h) (Or.inl ⟨by rfl, ?yz25⟩) hHeld ?rz25
        case yz25 => (intro w hSw; go_simp; try with_reducible rfl)
        (try simp only [Act.put, List.setIfInBounds_toArray, List.set_cons_zero, List.set_cons_succ])
        refine wpAnyH_tk (i := 3) (v := _) 33 rfl rfl (by kernel_rfl) (by kernel_rfl) (by kernel_rfl) (fun _ _ _ h => h) (yields_cell (by rfl) 71 (.tmp 32) rfl ⟨s, 1, none⟩ rfl (v := .map (some ob)) (fun w h => h.2.c1) Try.underlying71 rfl) hHeld ?_
        (try simp only [Act.put, List.setIfInBounds_toArray, List.set_cons_zero, List.set_cons_succ])
        refine wpAnyH_tk (i := 4) (v := _) 34 rfl rfl (by kernel_rfl) (by kernel_rfl) (by kernel_rfl) (fun _ _ _ h => h) (yields_load (by rfl) 76 (.tmp 6) rfl kg rfl (fun w h => h.1.2) Try.underlying76 rfl (by exact size76)) hHeld ?_
        (try simp only [Act.put, List.setIfInBounds_toArray, List.set_cons_zero, List.set_cons_succ])
        refine wpAnyH_tk (i := 5) (v := _) 35 rfl rfl (by kernel_rfl) (by kernel_rfl) (by kernel_rfl) (fun _ _ _ h => h) (yields_look71 (by rfl) (.tmp 33) (.tmp 34) rfl xb (now + 1) rfl rfl HXW.out HNW.out (fun w h => h.2.old) ov true (by rw [HNO.out]; rfl) (by rw [HNO.out]; rfl)) hHeld ?_
        (try simp only [Act.put, List.setIfInBounds_toArray, List.set_cons_zero, List.set_cons_succ])
        refine wpAnyH_tk (i := 6) (v := ?vz26) 29 rfl rfl (by kernel_rfl) (by kernel_rfl) (by kernel_rfl) (fun _ _ _ h => h) (Or.inl ⟨by rfl, ?yz26⟩) hHeld ?rz26
        case yz26 => (intro w hSw; go_simp; try with_reducible rfl)
        (try simp only [Act.put, List.setIfInBounds_toArray, List.set_cons_zero, List.set_cons_succ])
        refine wpAnyH_tk (i := 7) (v := ?vz27) 36 rfl rfl (by kernel_rfl) (by kernel_rfl) (by kernel_rfl) (fun _ _ _ h => h) (Or.inl ⟨by rfl, ?yz27⟩) hHeld ?rz27
        case yz27 => (intro w hSw; go_simp; try with_reducible rfl)
        (try simp only [Act.put, List.setIfInBounds_toArray, List.set_cons_zero, List.set_cons_succ])
        refine wpAnyH_tk (i := 8) (v := ?vz28) 37 rfl rfl (by kernel_rfl) (by kernel_rfl) (by kernel_rfl) (fun _ _ _ h => h) (Or.inl ⟨by rfl, ?yz28⟩) hHeld ?rz28
        case yz28 => (intro w hSw; go_simp; try with_reducible rfl)
        (try simp only [Act.put, List.setIfInBounds_toArray, List.set_cons_zero, List.set_cons_succ])
        refine wpAnyH_one (i := 9) (by kernel_rfl) rfl (fun K hK => ?_)
        rw [if_pos (by rfl)]
        refine step_alloc29 7 rfl rfl ?_; intro w8 yg h21 h22 h23; have hX8 := hHeld.1.1.grown h23 (by simp); have hK8 := hHeld.1.2.grown h23 (by simp); have hS8 := hHeld.2.fresh h23; have hM8 := (HM7.out.trans (.drew _ s ob lb)).trans (.fresh h23); have hyw := Nat.le_trans HM7.out.size h21; have hyx : yg ≠ xg := (by have := HX7.out.lt; have : w7.heap.size ≤ yg := h21; omega)
        refine hK.out _ _ (by exact ⟨⟨hX8, hK8⟩, hS8⟩) (fun hHeld => ?_)
        clear hK K
        (try simp only [Act.put, List.setIfInBounds_toArray, List.set_cons_zero, List.set_cons_succ])
        refine wpAnyH_one (i := 10) (by kernel_rfl) rfl (fun K hK => ?_)
        rw [if_pos (by rfl)]
        refine step_store29 rfl (.tmp 7) (.tmp 36) rfl yg rfl ov HOV.out rfl (M := old0) rfl h22 ?_; intro w9 h24 h25 h26; have hX9 := hX8.grown h25 (by simpa using hyx.symm); have hK9 := hK8.grown h25 (by simpa using hK8.ne h22 (by decide)); have hS9 := hS8.grown h25 (by simpa using hS8.blk.ne h22 (by decide)) (by simpa using hS8.old.ne_blk h22) (by simpa using hS8.last.ne_blk h22); have hM9 := hM8.put h25 (.inl hyw)
        refine hK.out _ _ (by exact ⟨⟨hX9, hK9⟩, hS9⟩) (fun hHeld => ?_)
        clear hK K
        (try simp only [Act.put, List.setIfInBounds_toArray, List.set_cons_zero, List.set_cons_succ])
        refine wpAnyH_tk (i := 11) (v := ?vz29) 8 rfl rfl (by kernel_rfl) (by kernel_rfl) (by kernel_rfl) (fun _ _ _ h => h) (Or.inl ⟨by rfl, ?yz29⟩) hHeld ?rz29
        case yz29 => (intro w hSw; go_simp; try with_reducible rfl)
        (try simp only [Act.put, List.setIfInBounds_toArray, List.set_cons_zero, List.set_cons_succ])
        refine wpAnyH_done (by kernel_rfl) ?_ _
        skip
        have HX9 := Aside0.mk hX9
        have HK9 := Aside0.mk hK9
        have HS9 := Aside0.mk hS9
        have HM9 := Aside0.mk hM9
        clear h21 h22 h23 h24 h25 h26 hX8 hK8 hS8 hM8 hX9 hK9 hS9 hM9 hHeld hyx HX7 HK7 HS7 HM7
        have HR := Aside0.mk (show SnapAt w9 s ob lb (now + 1) (cTo (now + 1) (L, f) (l.take (k + 1))).1 (cTo (now + 1) (L, f) (l.take (k + 1))).2 (m + (k + 1)) by
          rw [HNX.out, HEQ.out]
          exact HS9.out.mono (by omega))
        go_wp2_with fail
        go_roundw
        case rel => exact ⟨k + 1, by omega, by go_num, HR, HM9⟩
        case measure => simp [intOf]; omega
    · obtain rfl : k = l.length := by omega
      have hd : decide ((l.length : Int) < l.length) = false := by simp
      have HF := Aside0.mk (show SnapAt wr s ob lb (now + 1) (cTo (now + 1) (L, f) l).1 (cTo (now + 1) (L, f) l).2 (m + l.length) by have := HS.out; rwa [List.take_length] at this)
      go_wp2_with fail
      go_end0
      exact ⟨rfl, HF.out, HM.out⟩
end Go.Proofs.Ytipbgldfomejpaa.Snap
