/- The walk of layer 17's law's waking. -/
import Derived.Test.YtipbgldfomejpaaSnapDoc
namespace Go.Proofs.Ytipbgldfomejpaa.Snap
set_option linter.unusedSimpArgs false
set_option linter.unusedVariables false
open Go.RowKit Go.Proofs.YtipbgldfomejpaaW.PrintWords Go.Proofs.YtipbgldfomejpaaW.PrintLast Go.Proofs.YtipbgldfomejpaaW.PrintMore Arr

theorem gold1 : gOld aw1 := by refine ⟨by decide, trivial, fun x hx => ?_⟩; rw [List.eq_of_mem_replicate hx]; decide
theorem gold2 : gOld aw2 := by
  refine ⟨by decide, trivial, fun x hx => ?_⟩
  rcases List.mem_cons.1 hx with rfl | hx
  · decide
  · rw [List.eq_of_mem_replicate hx]; decide
theorem ref1 : RefIs [[aw1], [aw2]] 0 3 0 aw1 true := .inl ⟨rfl, 0, by decide, by decide, by decide, rfl, fun j hj => absurd hj (Nat.not_lt_zero _)⟩
theorem ref2 : RefIs [[aw1], [aw2]] 0 3 1 aw2 true := .inl ⟨rfl, 1, by decide, by decide, by decide, rfl, fun j hj h => by have h1 := h.2.1; omega⟩
theorem ref3 : RefIs [[aw1], [aw2]] 0 3 2 old0 false := .inr ⟨rfl, rfl, fun j hj h => by have h1 := h.2.1; have : j < 2 := hj; omega⟩
theorem OB.below {w w1 : World} {g : Nat} {o : Old} (h : OB w g o) (hb : Below w.heap.size w w1) : OB w1 g o := (hb.block g (Blk.lt h)).trans h
theorem commitLit (w : World) (s ob lb m : Nat) (st : All × Nat) (hS : DocAt w s ob lb st m) (o : Old) (ho : o.data.length = 32) (hG : gOld o) (hn : st.1.length ≤ 100000) (hm : m + 1 ≤ 100000) :
    Calls Try.prog 14 #[.pointer (some ⟨s, 0, none⟩), .slice (some ⟨w.heap.size, 0, none⟩) 1 1] (w.alloc (.cells (oldC o).toArray 29)) fun e w' => e = .returned (.tuple #[]) ∧ DocAt w' s ob lb (st.1 ++ [[o]], st.2) (m + 1) ∧ Moves w w' s ob lb := by
  have hg := World.grownBy_alloc w (.cells (oldC o).toArray 29) none
  have hN : OB (w.alloc (.cells (oldC o).toArray 29)) w.heap.size o := Blk.new w 29 (oldC o)
  have hS1 := hS.fresh hg
  refine (commitDoc _ s ob lb m st hS1 (some ⟨w.heap.size, 0, none⟩) 1 [o] (fun w1 h1 => CO_one (h1.blk hN (by have := hS.1.blk.lt; omega) (by have := hS.1.old.lt; omega) (by have := hS.1.last.lt; omega)) ho) (fun x hx => by rw [List.mem_singleton.1 hx]; exact hG) hn hm).mono ?_
  rintro e w1 ⟨he, hD, hM⟩
  exact ⟨he, hD, (Moves.fresh hg).trans hM⟩
set_option maxRecDepth 10000 in
set_option maxHeartbeats 4000000 in
theorem awake_calls (w : World) : Calls Try.prog 12 #[] w fun e w' => e = .returned (.bool true) ∧ Below w.heap.size w w' := by
  go_enter Try.func12, Try.ntmps12
  go_upto_region 2 with (first | (go_at_call 13; refine (newDoc _).mono ?_; rintro e w1 ⟨s, ob, lb, rfl, hD, hs1, hs2, hs3, hB1⟩; have HD := Aside0.mk hD; have HB1 := Aside0.mk hB1; clear hD hB1))
  go_upto_region 3 with (first | (go_at_call 14; refine (commitLit w1 s ob lb 0 _ HD.out aw1 rfl gold1 (by decide) (by decide)).mono ?_; rintro e w2 ⟨rfl, hD2, hM2⟩; have HD2 : Aside0 (DocAt w2 s ob lb ([[aw1]], 0) 1) := Aside0.mk hD2; have HB2 := Aside0.mk (hM2.below _ w HB1.out HB1.out.size hs1 hs2 hs3); clear hD2 hM2 HD HB1))
  go_upto_region 4 with (first | (go_at_call 14; refine (commitLit w2 s ob lb 1 _ HD2.out aw2 rfl gold2 (by decide) (by decide)).mono ?_; rintro e w3 ⟨rfl, hD3, hM3⟩; have HD3 : Aside0 (DocAt w3 s ob lb ([[aw1], [aw2]], 0) 2) := Aside0.mk hD3; have HB3 := Aside0.mk (hM3.below _ w HB2.out HB2.out.size hs1 hs2 hs3); clear hD3 hM3 HD2 HB2))
  obtain ⟨o1, ho1⟩ : ∃ o, o = aw1 := ⟨_, rfl⟩
  obtain ⟨o2, ho2⟩ : ∃ o, o = aw2 := ⟨_, rfl⟩
  have HR1 := Aside0.mk ref1
  have HR2 := Aside0.mk ref2
  have HL1 := Aside0.mk (show o1.has = false by rw [ho1]; rfl)
  have HL2 := Aside0.mk (show o2.has = true ∧ ∀ w g, OB w g o2 → w.cell? ⟨g, 2, none⟩ = some (.int .u8 7) by rw [ho2]; exact ⟨rfl, fun w g h => Blk.cell h rfl⟩)
  have HN := Aside0.mk (show (List.length [[aw1], [aw2]] = 2) ∧ lastOf [[aw1], [aw2]] 3 = 2 ∧ (canon [[aw1], [aw2]] 0).length = 2 by decide)
  have HR3 := Aside0.mk ref3
  obtain ⟨all, hall⟩ : ∃ o, o = [[aw1], [aw2]] := ⟨_, rfl⟩
  rw [← hall] at HD3 HR1 HR2 HR3 HN
  rw [← ho1] at HR1
  rw [← ho2] at HR2
  clear ho1 ho2 hall
  go_upto_region 5 with (first | (go_at_call 15; refine (readDoc _ s ob lb 2 _ HD3.out 3 0 (by decide) (by decide) (by show all.length ≤ 100000; have := HN.out.1; omega) HR1.out).mono ?_; rintro e w3a ⟨rfl, hd, hB⟩; have HD3a := Aside0.mk (HD3.out.below' hB); have HB3a := Aside0.mk (step_bel HB3.out hB); clear hB HD3 HB3 ) | ((with_reducible refine gate_dst (N := 2) rfl ?_); refine alloc29 rfl rfl ?_; intro w3b x2 h6 h7 h8; have H5 := Aside0.mk h7; have HD3b := Aside0.mk (HD3a.out.fresh h8); have HB3b := Aside0.mk (step_bel HB3a.out (grown_fresh h8)); have h9 := Nat.le_trans HB3a.out.size h6; clear h7 h8 HD3a HB3a) | (refine store29 rfl rfl (.tmp 2) (.tmp 21) rfl x2 rfl o1 hd rfl (M := old0) rfl H5.out ?_; intro w3c h12 h10 h11; have HX2 := Aside0.mk h12; have HD3n := Aside0.mk (HD3b.out.store H5.out h10 rfl); have HB3n := Aside0.mk (below_grown HB3b.out h9 HB3b.out.size h10); clear h12 h10 h11 HD3b HB3b H5  ))
  try clear h6
  try clear h9
  try clear hd
  go_upto_region 6 with (first | (go_at_call 15; refine (readDoc _ s ob lb 2 _ HD3n.out 3 1 (by decide) (by decide) (by show all.length ≤ 100000; have := HN.out.1; omega) HR2.out).mono ?_; rintro e w3na ⟨rfl, hd, hB⟩; have HD3na := Aside0.mk (HD3n.out.below' hB); have HB3na := Aside0.mk (step_bel HB3n.out hB); have HX2a := Aside0.mk (OB.below HX2.out hB); clear hB HD3n HB3n HX2) | ((with_reducible refine gate_dst (N := 4) rfl ?_); refine alloc29 rfl rfl ?_; intro w3nb x4 h6 h7 h8; have H5 := Aside0.mk h7; have HD3nb := Aside0.mk (HD3na.out.fresh h8); have HB3nb := Aside0.mk (step_bel HB3na.out (grown_fresh h8)); have h9 := Nat.le_trans HB3na.out.size h6; have HX2b := Aside0.mk (HX2a.out.grown h8 (by simp)); clear h7 h8 HD3na HB3na) | (refine store29 rfl rfl (.tmp 4) (.tmp 26) rfl x4 rfl o2 hd rfl (M := old0) rfl H5.out ?_; intro w3nc h12 h10 h11; have HX4 := Aside0.mk h12; have HD3nn := Aside0.mk (HD3nb.out.store H5.out h10 rfl); have HB3nn := Aside0.mk (below_grown HB3nb.out h9 HB3nb.out.size h10); have HX2c := Aside0.mk (HX2b.out.grown h10 (by have := Blk.lt HX2a.out; simp; omega)); clear h12 h10 h11 HD3nb HB3nb H5 HX2a HX2b))
  try clear h6
  try clear h9
  try clear hd
  go_upto_region 7 with (first | (go_at_call 15; refine (readDoc _ s ob lb 2 _ HD3nn.out 3 2 (by decide) (by decide) (by show all.length ≤ 100000; have := HN.out.1; omega) HR3.out).mono ?_; rintro e w3nna ⟨rfl, hd, hB⟩; have HD3nna := Aside0.mk (HD3nn.out.below' hB); have HB3nna := Aside0.mk (step_bel HB3nn.out hB); have HX2ca := Aside0.mk (OB.below HX2c.out hB); have HX4a := Aside0.mk (OB.below HX4.out hB); clear hB HD3nn HB3nn HX2c HX4) | ((with_reducible refine gate_dst (N := 6) rfl ?_); refine alloc29 rfl rfl ?_; intro w3nnb x6 h6 h7 h8; have H5 := Aside0.mk h7; have HD3nnb := Aside0.mk (HD3nna.out.fresh h8); have HB3nnb := Aside0.mk (step_bel HB3nna.out (grown_fresh h8)); have h9 := Nat.le_trans HB3nna.out.size h6; have HX2cb := Aside0.mk (HX2ca.out.grown h8 (by simp)); have HX4b := Aside0.mk (HX4a.out.grown h8 (by simp)); clear h7 h8 HD3nna HB3nna) | (refine store29 rfl rfl (.tmp 6) (.tmp 31) rfl x6 rfl old0 hd rfl (M := old0) rfl H5.out ?_; intro w3nnc h12 h10 h11; have HX6 := Aside0.mk h12; have HD3nnn := Aside0.mk (HD3nnb.out.store H5.out h10 rfl); have HB3nnn := Aside0.mk (below_grown HB3nnb.out h9 HB3nnb.out.size h10); have HX2cc := Aside0.mk (HX2cb.out.grown h10 (by have := Blk.lt HX2ca.out; simp; omega)); have HX4c := Aside0.mk (HX4b.out.grown h10 (by have := Blk.lt HX4a.out; simp; omega)); clear h12 h10 h11 HD3nnb HB3nnb H5 HX2ca HX4a HX2cb HX4b))
  try clear h6
  try clear h9
  try clear hd
  have e1 := Blk.cell HX2cc.out (i := 1) (v := .bool false) (by have := HL1.out; show some (Value.bool o1.has) = _; rw [this])
  have e2 := Blk.cell HX4c.out (i := 1) (v := .bool true) (by have := HL2.out.1; show some (Value.bool o2.has) = _; rw [this])
  have e3 := HL2.out.2 _ _ HX4c.out
  have n1 := HN.out.1
  have n2 := HN.out.2.1
  have n3 := HN.out.2.2
  go_wp2_with (first | (go_at_call 16; refine (nowDoc _ s ob lb 2 _ HD3nnn.out).mono ?_; rintro e w' ⟨rfl, rfl⟩) | (go_at_call 21; refine (lastDoc _ s ob lb 2 _ HD3nnn.out 3 (by decide)).mono ?_; rintro e w' ⟨rfl, rfl⟩) | (go_at_call 23; refine (sizeDoc _ s ob lb 2 _ HD3nnn.out).mono ?_; rintro e w' ⟨rfl, rfl⟩))
  go_ret
  exact ⟨rfl, HB3nnn.out⟩
end Go.Proofs.Ytipbgldfomejpaa.Snap
