/- Layer 9's statements: the answers that the document fixes. -/
import Derived.Test.YtkkmmbbnaafhlaaTabLeaf
namespace Go.Proofs.Ytkkmmbbnaafhlaa.Tab
set_option linter.unusedSimpArgs false
set_option linter.unusedVariables false
open Go.RowKit Go.Proofs.YtkkmmbbnaafhlaaW.PrintWords Go.Proofs.YtkkmmbbnaafhlaaW.PrintLast Go.Proofs.YtkkmmbbnaafhlaaW.PrintMore Arr

/-- A leaf of a row, in memory. -/
theorem RL.at {w : World} {B g cap n : Nat} {l : List Leaf} (h : RL w B (.slice (some ⟨g, 0, none⟩) n cap) l) (i : Nat) (hi : i < n) (j : Nat) (v : Value) (hv : (leafC (l.getD i leaf0))[j]? = some v) : w.cell? ⟨g, i * 12 + j, none⟩ = some v ∧ w.frozen? ⟨g, i * 12 + j, none⟩ = false := by
  obtain ⟨c, hc, hM, hcell, hfr⟩ := Kd.R_elem h leaf0 (i : Int) (by omega) (by omega)
  rw [Int.toNat_natCast] at hM hcell hfr
  obtain ⟨rfl, _⟩ := k58_openM hM
  exact ⟨hcell j v hv, hfr j⟩
theorem RI.slice {w : World} {B : Nat} {v : Value} {l : List Int} (h : RI w B v l) : ∃ A c, v = .slice A l.length c ∧ CI w A l.length l := by
  obtain ⟨A, c, e, _, h2⟩ := RI.reads h
  exact ⟨A, c, e, h2⟩
set_option maxRecDepth 10000 in
set_option maxHeartbeats 4000000 in
theorem awake_calls (w : World) : Calls Try.prog 21 #[] w fun e w' => e = .returned (.bool true) ∧ Below w.heap.size w w' := by
  have HW := Aside0.mk (Keeps.refl w)
  go_enter Try.func21, Try.ntmps21
  go_wp2_with fail
  refine (new_calls _ 12 (by decide)).mono ?_
  rintro e w1 ⟨t, lb, db, rfl, hT, ht, hlb, hdb, hb⟩
  have H1 := Aside0.mk (HW.out.step hb)
  have g0 : getP (zeros (10 * pg 12)) 12 11 = 0 := by decide +kernel
  obtain ⟨ps0, hp0⟩ : ∃ ps0, ps0 = zeros (10 * pg 12) := ⟨_, rfl⟩
  obtain ⟨ds0, hd0⟩ : ∃ ds0, ds0 = List.replicate (pg 12) false := ⟨_, rfl⟩
  have f1 : getP (setP ps0 12 11 5) 12 11 = 5 := by rw [hp0]; decide +kernel
  have f2 : some0 ((setP ps0 12 11 5).take 12) = 1 := by rw [hp0]; decide +kernel
  have f3 : trues (setD ps0 ds0 12 11 5) = [1] := by rw [hp0, hd0]; decide +kernel
  have f4 : (leafC ((leavesTo 3 (setP ps0 12 11 5) (pg 12)).getD 1 leaf0))[0]? = some (.int .i64 3) := rfl
  have f5 : (leafC ((leavesTo 3 (setP ps0 12 11 5) (pg 12)).getD 1 leaf0))[3]? = some (.int .i64 5) := by rw [hp0]; rfl
  rw [← hp0, ← hd0] at hT
  rw [← hp0] at g0
  have HT := Aside0.mk hT
  have G0 := Aside0.mk g0
  have F1 := Aside0.mk f1
  have F2 := Aside0.mk f2
  have F3 := Aside0.mk f3
  have F4 := Aside0.mk f4
  have F5 := Aside0.mk f5
  clear hT hp0 hd0 g0 f1 f2 f3 f4 f5 hb
  go_wp2_with fail
  refine (set_calls _ t lb db 12 ps0 ds0 HT.out 11 5 (by decide)).mono ?_
  rintro e w2 ⟨rfl, hT2, hM⟩
  rw [G0.out]
  have HT2 := Aside0.mk hT2
  have H2 := Aside0.mk (show Keeps w [] w2 from ⟨hM.below _ _ H1.out.below hlb hdb H1.out.size, fun _ h => by cases h⟩)
  obtain ⟨ps1, hp1⟩ : ∃ ps1, ps1 = setP ps0 12 11 5 := ⟨_, rfl⟩
  obtain ⟨ds1, hd1⟩ : ∃ ds1, ds1 = setD ps0 ds0 12 11 5 := ⟨_, rfl⟩
  rw [← hp1, ← hd1] at HT2
  rw [← hp1] at F1 F2 F4 F5
  rw [← hd1] at F3
  clear hT2 hM hp1 hd1 HT H1 G0
  go_wp2_with fail
  refine (leaves_calls _ t lb db 12 ps1 ds1 HT2.out 3).mono ?_
  rintro e w3 ⟨v, rfl, hR, hb⟩
  obtain ⟨ls, hls⟩ : ∃ ls, ls = leavesTo 3 ps1 (pg 12) := ⟨_, rfl⟩
  have hl2 : ls.length = 2 := by rw [hls, leavesTo_length]; rfl
  rw [← hls] at hR F4 F5
  obtain ⟨g, cap, rfl, hbg, hlg, _⟩ := Kd.R_form hR (by omega)
  rw [hl2] at hR
  rw [hl2]
  have HR := Aside0.mk hR
  have HT3 := Aside0.mk (HT2.out.below' hb)
  have H3 := Aside0.mk (H2.out.step hb)
  clear hR hls hb HT2 H2
  go_wp2_with fail
  refine (get_calls _ t lb db 12 ps1 ds1 HT3.out 11 (by decide)).mono ?_
  rintro e w4 ⟨rfl, rfl⟩
  rw [F1.out]
  go_wp2_with fail
  refine (count_calls _ t lb db 12 ps1 ds1 HT3.out).mono ?_
  rintro e w4 ⟨rfl, hb⟩
  rw [F2.out]
  have HR4 := Aside0.mk (Kd.R_below HR.out hb)
  have HT4 := Aside0.mk (HT3.out.below' hb)
  have H4 := Aside0.mk (H3.out.step hb)
  have c1 : w4.cell? ⟨g, 15, none⟩ = some (.int .i64 5) := (RL.at HR4.out 1 (by decide) 3 _ F5.out).1
  have c2 : w4.cell? ⟨g, 12, none⟩ = some (.int .i64 3) := (RL.at HR4.out 1 (by decide) 0 _ F4.out).1
  clear hb HR HT3 H3
  go_wp2_with fail
  refine (dirty_calls _ t lb db 12 ps1 ds1 HT4.out).mono ?_
  rintro e w5 ⟨v5, rfl, hR5, hb⟩
  rw [F3.out] at hR5
  obtain ⟨A, c, rfl, hC5⟩ := RI.slice hR5
  have HC5 := Aside0.mk hC5
  have H5 := Aside0.mk (H4.out.step hb)
  clear hR5 hC5 hb c1 c2
  go_wp2_with fail
  refine (same_calls _ A 1 c [1] (Kd.C_below HC5.out ((Below.refl _ _).alloc (Nat.le_refl _) _)) (some ⟨w5.heap.size, 0, none⟩) 1 1 [1] (blk_reads (T := 3) (Blk.new w5 3 [.int .i64 1]) (by decide)) (by decide) (by decide)).mono ?_
  rintro e w6 ⟨rfl, hb⟩
  have H6 := Aside0.mk ((H5.out.fresh (World.grownBy_alloc w5 _ none)).step hb)
  clear hb
  go_wp2_with fail
  go_ret
  exact ⟨rfl, H6.out.below⟩
end Go.Proofs.Ytkkmmbbnaafhlaa.Tab
