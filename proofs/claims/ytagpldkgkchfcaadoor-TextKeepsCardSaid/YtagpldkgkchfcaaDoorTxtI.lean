/- Layer 25: walks of Same and awake. -/
import Derived.Test.YtagpldkgkchfcaaDoorTxtH
namespace Go.Proofs.YtagpldkgkchfcaaDoor.Txt
section
set_option linter.unusedSimpArgs false
set_option linter.unusedVariables false
open Go.RowKit Go.Proofs.YtagpldkgkchfcaaDoorW.PrintWords Go.Proofs.YtagpldkgkchfcaaDoorW.PrintLast Go.Proofs.YtagpldkgkchfcaaDoorW.PrintMore Arr PTextPrints

theorem gate_op {P : Program} {ops : Array Oper} {rest : List Oper} {o : Oper} {a : Act} {Q : Exit → Act → World → Prop} {W : World} (op : Go.Op) (_h : o.op = op) (h : wpList P ops Q (o :: rest) a W) : wpList P ops Q (o :: rest) a W := h
theorem take_ne {l m : List Step} {k : Nat} (h1 : k < l.length) (h2 : k < m.length) (h : sg l k ≠ sg m k) : decide (l = m) = false := decide_eq_false (fun e => h (by rw [e]))
theorem take_rd (l : List Int) (k : Nat) (h : k < l.length) : l.take (k + 1) = l.take k ++ [rd l k] := by
  unfold rd; rw [List.take_add_one, Int.toNat_natCast, List.getD_eq_getElem?_getD, List.getElem?_eq_getElem h]; rfl
set_option maxRecDepth 10000 in
set_option maxHeartbeats 2000000 in
theorem rsame_calls (w : World) (A B : Option Addr) (c c' : Nat) (l m : List Step) (hS : RSteps w A l) (hT : RSteps w B m) : Calls Tryd.prog 14 #[.slice A l.length c, .slice B m.length c'] w fun e w' => e = .returned (.bool (decide (l = m))) ∧ Below w.heap.size w w' := by
  have HK := Aside0.mk (Keeps.refl w)
  have HS := Aside0.mk hS
  have HT := Aside0.mk hT
  have hf1 := hS.few
  have hf2 := hT.few
  clear hS hT
  by_cases hlen : l.length = m.length
  · have hq : ((l.length : Int) == m.length) = true := by rw [beq_iff_eq]; omega
    have hq2 : (l.length : Int) = m.length := by omega
    have HLEN := Aside0.mk hlen
    obtain ⟨N, hN⟩ : ∃ N, N = l.length := ⟨_, rfl⟩
    have hM : m.length = N := by omega
    have HN := Aside0.mk hN
    have HM := Aside0.mk hM
    rw [← hN, hM]
    rw [← hN] at hf1
    clear hq hq2 hlen hN hM hf2
    go_enter Tryd.func14, Tryd.ntmps14
    go_wp2_with fail
    go_loopw [5, 6, 7, 8] (fun i _ _ _ wr => ∃ k : Nat, k ≤ N ∧ i = .int .i64 k ∧ Aside0 (l.take k = m.take k) ∧ Aside0 (Keeps w [] wr)) (fun i _ _ _ _ => N - (intOf i).toNat)
    case atStart => exact ⟨0, by omega, rfl, ⟨rfl⟩, HK⟩
    case round =>
      obtain ⟨k, hk, rfl, HTK, HB⟩ := hrel
      rename World => wr
      by_cases hlt : k < N
      · have hd : decide ((k : Int) < N) = true := by simp; omega
        have hkl : k < l.length := by rw [← HN.out]; exact hlt
        have hkm : k < m.length := by rw [HM.out]; exact hlt
        obtain ⟨ad, Ax, cx, hA, hcx, hxl, hxc, hxC⟩ := at41 HS.out.cells k hkl
        obtain ⟨bd, Ay, cy, hBB, hcy, hyl, hyc, hyC⟩ := at41 HT.out.cells k hkm
        subst hA hBB
        have HGX := Aside0.mk (HS.out.good _ (sg_mem l k hkl))
        have HGY := Aside0.mk (HT.out.good _ (sg_mem m k hkm))
        have hxk := HS.out.keep _ (sg_mem l k hkl)
        have HNE := Aside0.mk (take_ne hkl hkm)
        have HTX := Aside0.mk (take_sg l k hkl)
        have HTY := Aside0.mk (take_sg m k hkm)
        obtain ⟨x, hx⟩ : ∃ x, x = sg l k := ⟨_, rfl⟩
        obtain ⟨y, hy⟩ : ∃ y, y = sg m k := ⟨_, rfl⟩
        rw [← hx] at hcx hxl hxc hxC HGX hxk HNE HTX
        rw [← hy] at hcy hyl hyc hyC HGY HNE HTY
        have HCX := Aside0.mk (fun (W : World) (hW : Below w.heap.size w W) j' u (hu : (stepC x (.slice Ax x.keep.length cx))[j']? = some u) => pw_cell_below hW (hcx j' u hu))
        have HCY := Aside0.mk (fun (W : World) (hW : Below w.heap.size w W) j' u (hu : (stepC y (.slice Ay y.keep.length cy))[j']? = some u) => pw_cell_below hW (hcy j' u hu))
        have HXC := Aside0.mk hxC
        have HYC := Aside0.mk hyC
        have HXL := Aside0.mk hxl
        have HYL := Aside0.mk hyl
        clear hcx hcy hxC hyC hxl hyl hx hy hkl hkm
        by_cases h0 : x.op = y.op
        · skip
          by_cases h1 : x.arm = y.arm
          · skip
            by_cases h2 : x.crash = y.crash
            · skip
              by_cases h3 : x.soft = y.soft
              · skip
                by_cases h4 : x.tear = y.tear
                · skip
                  by_cases h5 : x.keep.length = y.keep.length
                  · skip
                    have HB0 := Aside0.mk (show decide (x.op = y.op) = true from decide_eq_true h0)
                    have e1 : (x.arm == y.arm) = true := by rw [beq_iff_eq]; exact h1
                    have e1p : x.arm = y.arm := by exact h1
                    have e1n : (x.arm != y.arm) = false := by rw [bne_eq_false_iff_eq]; exact h1
                    have e2 : (x.crash == y.crash) = true := by rw [beq_iff_eq]; exact h2
                    have e2p : x.crash = y.crash := by exact h2
                    have e2n : (x.crash != y.crash) = false := by rw [bne_eq_false_iff_eq]; exact h2
                    have e3 : (x.soft == y.soft) = true := by rw [beq_iff_eq]; exact h3
                    have e3p : x.soft = y.soft := by exact h3
                    have e3n : (x.soft != y.soft) = false := by rw [bne_eq_false_iff_eq]; exact h3
                    have e4 : (x.tear == y.tear) = true := by rw [beq_iff_eq]; exact h4
                    have e4p : x.tear = y.tear := by exact h4
                    have e4n : (x.tear != y.tear) = false := by rw [bne_eq_false_iff_eq]; exact h4
                    have e5 : ((x.keep.length : Int) == (y.keep.length : Int)) = true := by rw [beq_iff_eq]; omega
                    have e5p : (x.keep.length : Int) = (y.keep.length : Int) := by omega
                    have e5n : ((x.keep.length : Int) != (y.keep.length : Int)) = false := by rw [bne_eq_false_iff_eq]; omega
                    have HEQ := Aside0.mk (fun hk : x.keep = y.keep => step_ext h0 h1 h2 h3 h4 hk)
                    have HKL := Aside0.mk h5
                    have hyk : y.keep.length ≤ 1000000 := by omega
                    clear h0 h1 h2 h3 h4 h5
                    go_wp2_with (first | ((with_reducible refine gate_dst (N := 23) rfl ?_); refine load41 rfl (.tmp 22) rfl (ad.add (k * 42)) rfl x _ HXL.out (HCX.out _ HB.out.below) ?_) | ((with_reducible refine gate_dst (N := 6) rfl ?_); refine alloc41 rfl rfl ?_; intro w1 xg h1 h2 h3; have HK1 := Aside0.mk (HB.out.new h3 h2); have HXG := Aside0.mk (show w.heap.size ≤ xg from Nat.le_trans HB.out.size h1); clear h1 h2 h3) | ((with_reducible refine gate_op (.store 41 (.tmp 6) (.tmp 23)) rfl ?_); refine store41 rfl rfl (.tmp 6) (.tmp 23) rfl xg rfl x Ax x.keep.length cx HXL.out rfl (m := step0) rfl HK1.out.head ?_; intro w2 h1 h2 h3; have HK2 := Aside0.mk (HK1.out.put h2 HXG.out (by simp) h1); clear h1 h2 h3) | ((with_reducible refine gate_dst (N := 27) rfl ?_); refine load41 rfl (.tmp 26) rfl (bd.add (k * 42)) rfl y _ HYL.out (HCY.out _ HK2.out.below) ?_) | ((with_reducible refine gate_dst (N := 7) rfl ?_); refine alloc41 rfl rfl ?_; intro w3 yg h1 h2 h3; have HK3 := Aside0.mk (HK2.out.new h3 h2); have HYG := Aside0.mk (show w.heap.size ≤ yg from Nat.le_trans HK2.out.size h1); have HXY := Aside0.mk (show xg ≠ yg by have a1 := HK2.out.head.lt; have a2 := h1; omega); clear h1 h2 h3) | ((with_reducible refine gate_op (.store 41 (.tmp 7) (.tmp 27)) rfl ?_); refine store41 rfl rfl (.tmp 7) (.tmp 27) rfl yg rfl y Ay y.keep.length cy HYL.out rfl (m := step0) rfl HK3.out.head ?_; intro w4 h1 h2 h3; have HK4 := Aside0.mk (HK3.out.put h2 HYG.out (by simpa using HXY.out) h1); have q7 := (step_at x (.slice Ax x.keep.length cx) HXL.out); have q8 := (step_at y (.slice Ay y.keep.length cy) HYL.out); have a1 := HK4.out.tail.head.cell q7.1; have a2 := HK4.out.tail.head.cell q7.2.1; have a3 := HK4.out.tail.head.cell q7.2.2.1; have a4 := HK4.out.tail.head.cell q7.2.2.2.1; have a5 := HK4.out.tail.head.cell q7.2.2.2.2; have b1 := HK4.out.head.cell q8.1; have b2 := HK4.out.head.cell q8.2.1; have b3 := HK4.out.head.cell q8.2.2.1; have b4 := HK4.out.head.cell q8.2.2.2.1; have b5 := HK4.out.head.cell q8.2.2.2.2; clear h1 h2 h3 q7 q8) | ((with_reducible refine gate_dst (N := 29) rfl ?_); refine loadOp rfl (.tmp 28) rfl xg rfl x _ HXL.out HK4.out.tail.head ?_) | ((with_reducible refine gate_dst (N := 31) rfl ?_); refine loadOp rfl (.tmp 30) rfl yg rfl y _ HYL.out HK4.out.head ?_) | ((with_reducible refine gate_dst (N := 32) rfl ?_); refine neq35 rfl (.tmp 29) (.tmp 31) rfl x.op y.op rfl rfl HGX.out.op HGY.out.op _ HB0.out ?_))
                    clear a1 a2 a3 a4 a5 b1 b2 b3 b4 b5
                    have C39x := Aside0.mk (step_at x (.slice Ax x.keep.length cx) HXL.out).2.2.1
                    have C39y := Aside0.mk (step_at y (.slice Ay y.keep.length cy) HYL.out).2.2.1
                    go_loopw [8] (fun i wr => ∃ j : Nat, j ≤ x.keep.length ∧ i = .int .i64 j ∧ Aside0 (x.keep.take j = y.keep.take j) ∧ Aside0 (Keeps w [(yg, 41, stepC y (.slice Ay y.keep.length cy)), (xg, 41, stepC x (.slice Ax x.keep.length cx))] wr)) (fun i _ => x.keep.length - (intOf i).toNat)
                    case atStart => exact ⟨0, by omega, rfl, ⟨rfl⟩, HK4⟩
                    case round =>
                      obtain ⟨j, hj, rfl, HTJ, HB2⟩ := hrel
                      rename World => wq
                      have px := HB2.out.tail.head.cell C39x.out
                      have py := HB2.out.head.cell C39y.out
                      by_cases hjt : j < x.keep.length
                      · have hd2 : decide ((j : Int) < x.keep.length) = true := by simp; omega
                        have hjy : j < y.keep.length := by rw [← HKL.out]; exact hjt
                        obtain ⟨axd, hAx, hux⟩ := Kd.at_int (Kd.C_below HXC.out HB2.out.below) (j : Int) (by omega) (by omega)
                        obtain ⟨ayd, hAy, huy⟩ := Kd.at_int (Kd.C_below HYC.out HB2.out.below) (j : Int) (by omega) (by omega)
                        subst hAx hAy
                        rw [Int.toNat_natCast] at hux huy
                        have HRX := Aside0.mk (take_rd x.keep j hjt)
                        have HRY := Aside0.mk (take_rd y.keep j hjy)
                        have HRN := Aside0.mk (fun (h : rd x.keep j ≠ rd y.keep j) => (HNE.out (fun e => h (by rw [e])) : decide (l = m) = false))
                        obtain ⟨u, hu⟩ : ∃ u, u = rd x.keep j := ⟨_, rfl⟩
                        obtain ⟨v, hv⟩ : ∃ v, v = rd y.keep j := ⟨_, rfl⟩
                        rw [← hu] at hux HRX HRN
                        rw [← hv] at huy HRY HRN
                        clear hu hv
                        go_upto_region 13 with fail
                        obtain ⟨b, hb⟩ : ∃ b, b = !(u == v) := ⟨_, rfl⟩
                        have HBB := Aside0.mk hb
                        refine wp_region_held_drew (S := (fun w' => (w'.cell? ⟨xg, 39, none⟩ = some (.slice (some axd) x.keep.length cx) ∧ w'.cell? ⟨yg, 39, none⟩ = some (.slice (some ayd) y.keep.length cy)) ∧ w'.cell? (axd.add j) = some (.int .i64 u) ∧ w'.cell? (ayd.add j) = some (.int .i64 v))) (by kernel_rfl) (by exact ⟨⟨px, py⟩, hux, huy⟩) (fun hHeld => ?_)
                        refine wpAnyH_tk (i := 0) (v := ?vz1) 84 rfl rfl (by kernel_rfl) (by kernel_rfl) (by kernel_rfl) (fun _ _ _ h => h) (Or.inl ⟨by rfl, ?yz1⟩) hHeld ?rz1
                        case yz1 => (intro w hSw; go_simp; try (first | with_reducible rfl | (rw [if_neg (by omega)]; try with_reducible rfl)))
                        (try simp only [Act.put, List.setIfInBounds_toArray, List.set_cons_zero, List.set_cons_succ])
                        refine wpAnyH_tk (i := 1) (v := ?vz2) 85 rfl rfl (by kernel_rfl) (by kernel_rfl) (by kernel_rfl) (fun _ _ _ h => h) (Or.inl ⟨by rfl, ?yz2⟩) hHeld ?rz2
                        case yz2 => (intro w hSw; go_simp; try (first | with_reducible rfl | (rw [if_neg (by omega)]; try with_reducible rfl)))
                        (try simp only [Act.put, List.setIfInBounds_toArray, List.set_cons_zero, List.set_cons_succ])
                        refine wpAnyH_tk (i := 2) (v := _) 86 rfl rfl (by kernel_rfl) (by kernel_rfl) (by kernel_rfl) (fun _ _ _ h => h) (yields_cell (by rfl) 36 (.tmp 85) rfl ⟨xg, 39, none⟩ rfl (v := .slice (some axd) x.keep.length cx) (fun w h => h.1.1) Tryd.underlying36 rfl) hHeld ?_
                        (try simp only [Act.put, List.setIfInBounds_toArray, List.set_cons_zero, List.set_cons_succ])
                        refine wpAnyH_tk (i := 3) (v := ?vz3) 87 rfl rfl (by kernel_rfl) (by kernel_rfl) (by kernel_rfl) (fun _ _ _ h => h) (Or.inl ⟨by rfl, ?yz3⟩) hHeld ?rz3
                        case yz3 => (intro w hSw; go_simp; try (first | with_reducible rfl | (rw [if_neg (by omega)]; try with_reducible rfl)))
                        (try simp only [Act.put, List.setIfInBounds_toArray, List.set_cons_zero, List.set_cons_succ])
                        refine wpAnyH_tk (i := 4) (v := _) 88 rfl rfl (by kernel_rfl) (by kernel_rfl) (by kernel_rfl) (fun _ _ _ h => h) (show YieldsIf Tryd.prog _ _ _ (.pointer (some (axd.add j))) _ from Or.inl ⟨(by rfl), fun w hSw => by go_simp; try omega⟩) hHeld ?_
                        (try simp only [Act.put, List.setIfInBounds_toArray, List.set_cons_zero, List.set_cons_succ])
                        refine wpAnyH_tk (i := 5) (v := _) 89 rfl rfl (by kernel_rfl) (by kernel_rfl) (by kernel_rfl) (fun _ _ _ h => h) (yields_cell (by rfl) 3 (.tmp 88) rfl (axd.add j) rfl (v := .int .i64 u) (fun w h => h.2.1) Tryd.underlying3 rfl) hHeld ?_
                        (try simp only [Act.put, List.setIfInBounds_toArray, List.set_cons_zero, List.set_cons_succ])
                        refine wpAnyH_tk (i := 6) (v := ?vz4) 90 rfl rfl (by kernel_rfl) (by kernel_rfl) (by kernel_rfl) (fun _ _ _ h => h) (Or.inl ⟨by rfl, ?yz4⟩) hHeld ?rz4
                        case yz4 => (intro w hSw; go_simp; try (first | with_reducible rfl | (rw [if_neg (by omega)]; try with_reducible rfl)))
                        (try simp only [Act.put, List.setIfInBounds_toArray, List.set_cons_zero, List.set_cons_succ])
                        refine wpAnyH_tk (i := 7) (v := ?vz5) 91 rfl rfl (by kernel_rfl) (by kernel_rfl) (by kernel_rfl) (fun _ _ _ h => h) (Or.inl ⟨by rfl, ?yz5⟩) hHeld ?rz5
                        case yz5 => (intro w hSw; go_simp; try (first | with_reducible rfl | (rw [if_neg (by omega)]; try with_reducible rfl)))
                        (try simp only [Act.put, List.setIfInBounds_toArray, List.set_cons_zero, List.set_cons_succ])
                        refine wpAnyH_tk (i := 8) (v := _) 92 rfl rfl (by kernel_rfl) (by kernel_rfl) (by kernel_rfl) (fun _ _ _ h => h) (yields_cell (by rfl) 36 (.tmp 91) rfl ⟨yg, 39, none⟩ rfl (v := .slice (some ayd) y.keep.length cy) (fun w h => h.1.2) Tryd.underlying36 rfl) hHeld ?_
                        (try simp only [Act.put, List.setIfInBounds_toArray, List.set_cons_zero, List.set_cons_succ])
                        refine wpAnyH_tk (i := 9) (v := ?vz6) 93 rfl rfl (by kernel_rfl) (by kernel_rfl) (by kernel_rfl) (fun _ _ _ h => h) (Or.inl ⟨by rfl, ?yz6⟩) hHeld ?rz6
                        case yz6 => (intro w hSw; go_simp; try (first | with_reducible rfl | (rw [if_neg (by omega)]; try with_reducible rfl)))
                        (try simp only [Act.put, List.setIfInBounds_toArray, List.set_cons_zero, List.set_cons_succ])
                        refine wpAnyH_tk (i := 10) (v := _) 94 rfl rfl (by kernel_rfl) (by kernel_rfl) (by kernel_rfl) (fun _ _ _ h => h) (show YieldsIf Tryd.prog _ _ _ (.pointer (some (ayd.add j))) _ from Or.inl ⟨(by rfl), fun w hSw => by go_simp; try omega⟩) hHeld ?_
                        (try simp only [Act.put, List.setIfInBounds_toArray, List.set_cons_zero, List.set_cons_succ])
                        refine wpAnyH_tk (i := 11) (v := _) 95 rfl rfl (by kernel_rfl) (by kernel_rfl) (by kernel_rfl) (fun _ _ _ h => h) (yields_cell (by rfl) 3 (.tmp 94) rfl (ayd.add j) rfl (v := .int .i64 v) (fun w h => h.2.2) Tryd.underlying3 rfl) hHeld ?_
                        (try simp only [Act.put, List.setIfInBounds_toArray, List.set_cons_zero, List.set_cons_succ])
                        refine wpAnyH_tk (i := 12) (v := _) 96 rfl rfl (by kernel_rfl) (by kernel_rfl) (by kernel_rfl) (fun _ _ _ h => h) (show YieldsIf Tryd.prog _ _ _ (.bool b) _ from Or.inl ⟨(by rfl), fun w hSw => by go_simp; first | rfl | (rw [HBB.out]; rfl)⟩) hHeld ?_
                        (try simp only [Act.put, List.setIfInBounds_toArray, List.set_cons_zero, List.set_cons_succ])
                        refine wpAnyH_done (by kernel_rfl) ?_ _
                        skip
                        clear hHeld
                        have HBD := Aside0.mk HB2.out.drew
                        by_cases huv : u = v
                        · obtain rfl : b = false := by rw [hb, huv]; simp
                          have HT2 := Aside0.mk (show x.keep.take (j + 1) = y.keep.take (j + 1) by rw [HRX.out, HRY.out, HTJ.out, huv])
                          clear hb huv HBB
                          go_wp2_with fail
                          go_roundw
                          case rel => exact ⟨j + 1, by omega, by go_num, HT2, HBD⟩
                          case measure => simp [intOf]; omega
                        · obtain rfl : b = true := by rw [hb]; simpa using huv
                          have HF := Aside0.mk (HRN.out huv)
                          clear hb huv HBB
                          go_wp2_with fail
                          go_ret
                          rw [HF.out]
                          exact ⟨rfl, HBD.out.below⟩
                      · obtain rfl : j = x.keep.length := by omega
                        have hd2 : decide ((x.keep.length : Int) < x.keep.length) = false := by simp
                        have HXY2 := Aside0.mk (show x = y from HEQ.out (by have := HTJ.out; rw [List.take_length, HKL.out, List.take_length] at this; exact this))
                        have HT2 := Aside0.mk (show l.take (k + 1) = m.take (k + 1) by rw [HTX.out, HTY.out, HTK.out, HXY2.out])
                        have HB3 := Aside0.mk (show Keeps w [] wq from ⟨HB2.out.below, fun _ h => by cases h⟩)
                        go_wp2_with fail
                        go_roundw
                        case rel => exact ⟨k + 1, by omega, by go_num, HT2, HB3⟩
                        case measure => simp [intOf]; omega
                  · have HF := Aside0.mk (HNE.out (fun e => h5 (by rw [e])))
                    have HB0 := Aside0.mk (show decide (x.op = y.op) = true from decide_eq_true h0)
                    have e1 : (x.arm == y.arm) = true := by rw [beq_iff_eq]; exact h1
                    have e1p : x.arm = y.arm := by exact h1
                    have e1n : (x.arm != y.arm) = false := by rw [bne_eq_false_iff_eq]; exact h1
                    have e2 : (x.crash == y.crash) = true := by rw [beq_iff_eq]; exact h2
                    have e2p : x.crash = y.crash := by exact h2
                    have e2n : (x.crash != y.crash) = false := by rw [bne_eq_false_iff_eq]; exact h2
                    have e3 : (x.soft == y.soft) = true := by rw [beq_iff_eq]; exact h3
                    have e3p : x.soft = y.soft := by exact h3
                    have e3n : (x.soft != y.soft) = false := by rw [bne_eq_false_iff_eq]; exact h3
                    have e4 : (x.tear == y.tear) = true := by rw [beq_iff_eq]; exact h4
                    have e4p : x.tear = y.tear := by exact h4
                    have e4n : (x.tear != y.tear) = false := by rw [bne_eq_false_iff_eq]; exact h4
                    have e5 : ((x.keep.length : Int) == (y.keep.length : Int)) = false := by rw [beq_eq_false_iff_ne]; omega
                    have e5p : ¬ (x.keep.length : Int) = (y.keep.length : Int) := by omega
                    have e5n : ((x.keep.length : Int) != (y.keep.length : Int)) = true := by rw [bne_iff_ne]; omega
                    clear h0 h1 h2 h3 h4 h5
                    go_wp2_with (first | ((with_reducible refine gate_dst (N := 23) rfl ?_); refine load41 rfl (.tmp 22) rfl (ad.add (k * 42)) rfl x _ HXL.out (HCX.out _ HB.out.below) ?_) | ((with_reducible refine gate_dst (N := 6) rfl ?_); refine alloc41 rfl rfl ?_; intro w1 xg h1 h2 h3; have HK1 := Aside0.mk (HB.out.new h3 h2); have HXG := Aside0.mk (show w.heap.size ≤ xg from Nat.le_trans HB.out.size h1); clear h1 h2 h3) | ((with_reducible refine gate_op (.store 41 (.tmp 6) (.tmp 23)) rfl ?_); refine store41 rfl rfl (.tmp 6) (.tmp 23) rfl xg rfl x Ax x.keep.length cx HXL.out rfl (m := step0) rfl HK1.out.head ?_; intro w2 h1 h2 h3; have HK2 := Aside0.mk (HK1.out.put h2 HXG.out (by simp) h1); clear h1 h2 h3) | ((with_reducible refine gate_dst (N := 27) rfl ?_); refine load41 rfl (.tmp 26) rfl (bd.add (k * 42)) rfl y _ HYL.out (HCY.out _ HK2.out.below) ?_) | ((with_reducible refine gate_dst (N := 7) rfl ?_); refine alloc41 rfl rfl ?_; intro w3 yg h1 h2 h3; have HK3 := Aside0.mk (HK2.out.new h3 h2); have HYG := Aside0.mk (show w.heap.size ≤ yg from Nat.le_trans HK2.out.size h1); have HXY := Aside0.mk (show xg ≠ yg by have a1 := HK2.out.head.lt; have a2 := h1; omega); clear h1 h2 h3) | ((with_reducible refine gate_op (.store 41 (.tmp 7) (.tmp 27)) rfl ?_); refine store41 rfl rfl (.tmp 7) (.tmp 27) rfl yg rfl y Ay y.keep.length cy HYL.out rfl (m := step0) rfl HK3.out.head ?_; intro w4 h1 h2 h3; have HK4 := Aside0.mk (HK3.out.put h2 HYG.out (by simpa using HXY.out) h1); have q7 := (step_at x (.slice Ax x.keep.length cx) HXL.out); have q8 := (step_at y (.slice Ay y.keep.length cy) HYL.out); have a1 := HK4.out.tail.head.cell q7.1; have a2 := HK4.out.tail.head.cell q7.2.1; have a3 := HK4.out.tail.head.cell q7.2.2.1; have a4 := HK4.out.tail.head.cell q7.2.2.2.1; have a5 := HK4.out.tail.head.cell q7.2.2.2.2; have b1 := HK4.out.head.cell q8.1; have b2 := HK4.out.head.cell q8.2.1; have b3 := HK4.out.head.cell q8.2.2.1; have b4 := HK4.out.head.cell q8.2.2.2.1; have b5 := HK4.out.head.cell q8.2.2.2.2; clear h1 h2 h3 q7 q8) | ((with_reducible refine gate_dst (N := 29) rfl ?_); refine loadOp rfl (.tmp 28) rfl xg rfl x _ HXL.out HK4.out.tail.head ?_) | ((with_reducible refine gate_dst (N := 31) rfl ?_); refine loadOp rfl (.tmp 30) rfl yg rfl y _ HYL.out HK4.out.head ?_) | ((with_reducible refine gate_dst (N := 32) rfl ?_); refine neq35 rfl (.tmp 29) (.tmp 31) rfl x.op y.op rfl rfl HGX.out.op HGY.out.op _ HB0.out ?_))
                    go_ret
                    rw [HF.out]
                    exact ⟨rfl, HK4.out.below⟩
                · have HF := Aside0.mk (HNE.out (fun e => h4 (by rw [e])))
                  have HB0 := Aside0.mk (show decide (x.op = y.op) = true from decide_eq_true h0)
                  have e1 : (x.arm == y.arm) = true := by rw [beq_iff_eq]; exact h1
                  have e1p : x.arm = y.arm := by exact h1
                  have e1n : (x.arm != y.arm) = false := by rw [bne_eq_false_iff_eq]; exact h1
                  have e2 : (x.crash == y.crash) = true := by rw [beq_iff_eq]; exact h2
                  have e2p : x.crash = y.crash := by exact h2
                  have e2n : (x.crash != y.crash) = false := by rw [bne_eq_false_iff_eq]; exact h2
                  have e3 : (x.soft == y.soft) = true := by rw [beq_iff_eq]; exact h3
                  have e3p : x.soft = y.soft := by exact h3
                  have e3n : (x.soft != y.soft) = false := by rw [bne_eq_false_iff_eq]; exact h3
                  have e4 : (x.tear == y.tear) = false := by rw [beq_eq_false_iff_ne]; exact h4
                  have e4p : ¬ x.tear = y.tear := by exact h4
                  have e4n : (x.tear != y.tear) = true := by rw [bne_iff_ne]; exact h4
                  clear h0 h1 h2 h3 h4
                  go_wp2_with (first | ((with_reducible refine gate_dst (N := 23) rfl ?_); refine load41 rfl (.tmp 22) rfl (ad.add (k * 42)) rfl x _ HXL.out (HCX.out _ HB.out.below) ?_) | ((with_reducible refine gate_dst (N := 6) rfl ?_); refine alloc41 rfl rfl ?_; intro w1 xg h1 h2 h3; have HK1 := Aside0.mk (HB.out.new h3 h2); have HXG := Aside0.mk (show w.heap.size ≤ xg from Nat.le_trans HB.out.size h1); clear h1 h2 h3) | ((with_reducible refine gate_op (.store 41 (.tmp 6) (.tmp 23)) rfl ?_); refine store41 rfl rfl (.tmp 6) (.tmp 23) rfl xg rfl x Ax x.keep.length cx HXL.out rfl (m := step0) rfl HK1.out.head ?_; intro w2 h1 h2 h3; have HK2 := Aside0.mk (HK1.out.put h2 HXG.out (by simp) h1); clear h1 h2 h3) | ((with_reducible refine gate_dst (N := 27) rfl ?_); refine load41 rfl (.tmp 26) rfl (bd.add (k * 42)) rfl y _ HYL.out (HCY.out _ HK2.out.below) ?_) | ((with_reducible refine gate_dst (N := 7) rfl ?_); refine alloc41 rfl rfl ?_; intro w3 yg h1 h2 h3; have HK3 := Aside0.mk (HK2.out.new h3 h2); have HYG := Aside0.mk (show w.heap.size ≤ yg from Nat.le_trans HK2.out.size h1); have HXY := Aside0.mk (show xg ≠ yg by have a1 := HK2.out.head.lt; have a2 := h1; omega); clear h1 h2 h3) | ((with_reducible refine gate_op (.store 41 (.tmp 7) (.tmp 27)) rfl ?_); refine store41 rfl rfl (.tmp 7) (.tmp 27) rfl yg rfl y Ay y.keep.length cy HYL.out rfl (m := step0) rfl HK3.out.head ?_; intro w4 h1 h2 h3; have HK4 := Aside0.mk (HK3.out.put h2 HYG.out (by simpa using HXY.out) h1); have q7 := (step_at x (.slice Ax x.keep.length cx) HXL.out); have q8 := (step_at y (.slice Ay y.keep.length cy) HYL.out); have a1 := HK4.out.tail.head.cell q7.1; have a2 := HK4.out.tail.head.cell q7.2.1; have a3 := HK4.out.tail.head.cell q7.2.2.1; have a4 := HK4.out.tail.head.cell q7.2.2.2.1; have a5 := HK4.out.tail.head.cell q7.2.2.2.2; have b1 := HK4.out.head.cell q8.1; have b2 := HK4.out.head.cell q8.2.1; have b3 := HK4.out.head.cell q8.2.2.1; have b4 := HK4.out.head.cell q8.2.2.2.1; have b5 := HK4.out.head.cell q8.2.2.2.2; clear h1 h2 h3 q7 q8) | ((with_reducible refine gate_dst (N := 29) rfl ?_); refine loadOp rfl (.tmp 28) rfl xg rfl x _ HXL.out HK4.out.tail.head ?_) | ((with_reducible refine gate_dst (N := 31) rfl ?_); refine loadOp rfl (.tmp 30) rfl yg rfl y _ HYL.out HK4.out.head ?_) | ((with_reducible refine gate_dst (N := 32) rfl ?_); refine neq35 rfl (.tmp 29) (.tmp 31) rfl x.op y.op rfl rfl HGX.out.op HGY.out.op _ HB0.out ?_))
                  go_ret
                  rw [HF.out]
                  exact ⟨rfl, HK4.out.below⟩
              · have HF := Aside0.mk (HNE.out (fun e => h3 (by rw [e])))
                have HB0 := Aside0.mk (show decide (x.op = y.op) = true from decide_eq_true h0)
                have e1 : (x.arm == y.arm) = true := by rw [beq_iff_eq]; exact h1
                have e1p : x.arm = y.arm := by exact h1
                have e1n : (x.arm != y.arm) = false := by rw [bne_eq_false_iff_eq]; exact h1
                have e2 : (x.crash == y.crash) = true := by rw [beq_iff_eq]; exact h2
                have e2p : x.crash = y.crash := by exact h2
                have e2n : (x.crash != y.crash) = false := by rw [bne_eq_false_iff_eq]; exact h2
                have e3 : (x.soft == y.soft) = false := by rw [beq_eq_false_iff_ne]; exact h3
                have e3p : ¬ x.soft = y.soft := by exact h3
                have e3n : (x.soft != y.soft) = true := by rw [bne_iff_ne]; exact h3
                clear h0 h1 h2 h3
                go_wp2_with (first | ((with_reducible refine gate_dst (N := 23) rfl ?_); refine load41 rfl (.tmp 22) rfl (ad.add (k * 42)) rfl x _ HXL.out (HCX.out _ HB.out.below) ?_) | ((with_reducible refine gate_dst (N := 6) rfl ?_); refine alloc41 rfl rfl ?_; intro w1 xg h1 h2 h3; have HK1 := Aside0.mk (HB.out.new h3 h2); have HXG := Aside0.mk (show w.heap.size ≤ xg from Nat.le_trans HB.out.size h1); clear h1 h2 h3) | ((with_reducible refine gate_op (.store 41 (.tmp 6) (.tmp 23)) rfl ?_); refine store41 rfl rfl (.tmp 6) (.tmp 23) rfl xg rfl x Ax x.keep.length cx HXL.out rfl (m := step0) rfl HK1.out.head ?_; intro w2 h1 h2 h3; have HK2 := Aside0.mk (HK1.out.put h2 HXG.out (by simp) h1); clear h1 h2 h3) | ((with_reducible refine gate_dst (N := 27) rfl ?_); refine load41 rfl (.tmp 26) rfl (bd.add (k * 42)) rfl y _ HYL.out (HCY.out _ HK2.out.below) ?_) | ((with_reducible refine gate_dst (N := 7) rfl ?_); refine alloc41 rfl rfl ?_; intro w3 yg h1 h2 h3; have HK3 := Aside0.mk (HK2.out.new h3 h2); have HYG := Aside0.mk (show w.heap.size ≤ yg from Nat.le_trans HK2.out.size h1); have HXY := Aside0.mk (show xg ≠ yg by have a1 := HK2.out.head.lt; have a2 := h1; omega); clear h1 h2 h3) | ((with_reducible refine gate_op (.store 41 (.tmp 7) (.tmp 27)) rfl ?_); refine store41 rfl rfl (.tmp 7) (.tmp 27) rfl yg rfl y Ay y.keep.length cy HYL.out rfl (m := step0) rfl HK3.out.head ?_; intro w4 h1 h2 h3; have HK4 := Aside0.mk (HK3.out.put h2 HYG.out (by simpa using HXY.out) h1); have q7 := (step_at x (.slice Ax x.keep.length cx) HXL.out); have q8 := (step_at y (.slice Ay y.keep.length cy) HYL.out); have a1 := HK4.out.tail.head.cell q7.1; have a2 := HK4.out.tail.head.cell q7.2.1; have a3 := HK4.out.tail.head.cell q7.2.2.1; have a4 := HK4.out.tail.head.cell q7.2.2.2.1; have a5 := HK4.out.tail.head.cell q7.2.2.2.2; have b1 := HK4.out.head.cell q8.1; have b2 := HK4.out.head.cell q8.2.1; have b3 := HK4.out.head.cell q8.2.2.1; have b4 := HK4.out.head.cell q8.2.2.2.1; have b5 := HK4.out.head.cell q8.2.2.2.2; clear h1 h2 h3 q7 q8) | ((with_reducible refine gate_dst (N := 29) rfl ?_); refine loadOp rfl (.tmp 28) rfl xg rfl x _ HXL.out HK4.out.tail.head ?_) | ((with_reducible refine gate_dst (N := 31) rfl ?_); refine loadOp rfl (.tmp 30) rfl yg rfl y _ HYL.out HK4.out.head ?_) | ((with_reducible refine gate_dst (N := 32) rfl ?_); refine neq35 rfl (.tmp 29) (.tmp 31) rfl x.op y.op rfl rfl HGX.out.op HGY.out.op _ HB0.out ?_))
                go_ret
                rw [HF.out]
                exact ⟨rfl, HK4.out.below⟩
            · have HF := Aside0.mk (HNE.out (fun e => h2 (by rw [e])))
              have HB0 := Aside0.mk (show decide (x.op = y.op) = true from decide_eq_true h0)
              have e1 : (x.arm == y.arm) = true := by rw [beq_iff_eq]; exact h1
              have e1p : x.arm = y.arm := by exact h1
              have e1n : (x.arm != y.arm) = false := by rw [bne_eq_false_iff_eq]; exact h1
              have e2 : (x.crash == y.crash) = false := by rw [beq_eq_false_iff_ne]; exact h2
              have e2p : ¬ x.crash = y.crash := by exact h2
              have e2n : (x.crash != y.crash) = true := by rw [bne_iff_ne]; exact h2
              clear h0 h1 h2
              go_wp2_with (first | ((with_reducible refine gate_dst (N := 23) rfl ?_); refine load41 rfl (.tmp 22) rfl (ad.add (k * 42)) rfl x _ HXL.out (HCX.out _ HB.out.below) ?_) | ((with_reducible refine gate_dst (N := 6) rfl ?_); refine alloc41 rfl rfl ?_; intro w1 xg h1 h2 h3; have HK1 := Aside0.mk (HB.out.new h3 h2); have HXG := Aside0.mk (show w.heap.size ≤ xg from Nat.le_trans HB.out.size h1); clear h1 h2 h3) | ((with_reducible refine gate_op (.store 41 (.tmp 6) (.tmp 23)) rfl ?_); refine store41 rfl rfl (.tmp 6) (.tmp 23) rfl xg rfl x Ax x.keep.length cx HXL.out rfl (m := step0) rfl HK1.out.head ?_; intro w2 h1 h2 h3; have HK2 := Aside0.mk (HK1.out.put h2 HXG.out (by simp) h1); clear h1 h2 h3) | ((with_reducible refine gate_dst (N := 27) rfl ?_); refine load41 rfl (.tmp 26) rfl (bd.add (k * 42)) rfl y _ HYL.out (HCY.out _ HK2.out.below) ?_) | ((with_reducible refine gate_dst (N := 7) rfl ?_); refine alloc41 rfl rfl ?_; intro w3 yg h1 h2 h3; have HK3 := Aside0.mk (HK2.out.new h3 h2); have HYG := Aside0.mk (show w.heap.size ≤ yg from Nat.le_trans HK2.out.size h1); have HXY := Aside0.mk (show xg ≠ yg by have a1 := HK2.out.head.lt; have a2 := h1; omega); clear h1 h2 h3) | ((with_reducible refine gate_op (.store 41 (.tmp 7) (.tmp 27)) rfl ?_); refine store41 rfl rfl (.tmp 7) (.tmp 27) rfl yg rfl y Ay y.keep.length cy HYL.out rfl (m := step0) rfl HK3.out.head ?_; intro w4 h1 h2 h3; have HK4 := Aside0.mk (HK3.out.put h2 HYG.out (by simpa using HXY.out) h1); have q7 := (step_at x (.slice Ax x.keep.length cx) HXL.out); have q8 := (step_at y (.slice Ay y.keep.length cy) HYL.out); have a1 := HK4.out.tail.head.cell q7.1; have a2 := HK4.out.tail.head.cell q7.2.1; have a3 := HK4.out.tail.head.cell q7.2.2.1; have a4 := HK4.out.tail.head.cell q7.2.2.2.1; have a5 := HK4.out.tail.head.cell q7.2.2.2.2; have b1 := HK4.out.head.cell q8.1; have b2 := HK4.out.head.cell q8.2.1; have b3 := HK4.out.head.cell q8.2.2.1; have b4 := HK4.out.head.cell q8.2.2.2.1; have b5 := HK4.out.head.cell q8.2.2.2.2; clear h1 h2 h3 q7 q8) | ((with_reducible refine gate_dst (N := 29) rfl ?_); refine loadOp rfl (.tmp 28) rfl xg rfl x _ HXL.out HK4.out.tail.head ?_) | ((with_reducible refine gate_dst (N := 31) rfl ?_); refine loadOp rfl (.tmp 30) rfl yg rfl y _ HYL.out HK4.out.head ?_) | ((with_reducible refine gate_dst (N := 32) rfl ?_); refine neq35 rfl (.tmp 29) (.tmp 31) rfl x.op y.op rfl rfl HGX.out.op HGY.out.op _ HB0.out ?_))
              go_ret
              rw [HF.out]
              exact ⟨rfl, HK4.out.below⟩
          · have HF := Aside0.mk (HNE.out (fun e => h1 (by rw [e])))
            have HB0 := Aside0.mk (show decide (x.op = y.op) = true from decide_eq_true h0)
            have e1 : (x.arm == y.arm) = false := by rw [beq_eq_false_iff_ne]; exact h1
            have e1p : ¬ x.arm = y.arm := by exact h1
            have e1n : (x.arm != y.arm) = true := by rw [bne_iff_ne]; exact h1
            clear h0 h1
            go_wp2_with (first | ((with_reducible refine gate_dst (N := 23) rfl ?_); refine load41 rfl (.tmp 22) rfl (ad.add (k * 42)) rfl x _ HXL.out (HCX.out _ HB.out.below) ?_) | ((with_reducible refine gate_dst (N := 6) rfl ?_); refine alloc41 rfl rfl ?_; intro w1 xg h1 h2 h3; have HK1 := Aside0.mk (HB.out.new h3 h2); have HXG := Aside0.mk (show w.heap.size ≤ xg from Nat.le_trans HB.out.size h1); clear h1 h2 h3) | ((with_reducible refine gate_op (.store 41 (.tmp 6) (.tmp 23)) rfl ?_); refine store41 rfl rfl (.tmp 6) (.tmp 23) rfl xg rfl x Ax x.keep.length cx HXL.out rfl (m := step0) rfl HK1.out.head ?_; intro w2 h1 h2 h3; have HK2 := Aside0.mk (HK1.out.put h2 HXG.out (by simp) h1); clear h1 h2 h3) | ((with_reducible refine gate_dst (N := 27) rfl ?_); refine load41 rfl (.tmp 26) rfl (bd.add (k * 42)) rfl y _ HYL.out (HCY.out _ HK2.out.below) ?_) | ((with_reducible refine gate_dst (N := 7) rfl ?_); refine alloc41 rfl rfl ?_; intro w3 yg h1 h2 h3; have HK3 := Aside0.mk (HK2.out.new h3 h2); have HYG := Aside0.mk (show w.heap.size ≤ yg from Nat.le_trans HK2.out.size h1); have HXY := Aside0.mk (show xg ≠ yg by have a1 := HK2.out.head.lt; have a2 := h1; omega); clear h1 h2 h3) | ((with_reducible refine gate_op (.store 41 (.tmp 7) (.tmp 27)) rfl ?_); refine store41 rfl rfl (.tmp 7) (.tmp 27) rfl yg rfl y Ay y.keep.length cy HYL.out rfl (m := step0) rfl HK3.out.head ?_; intro w4 h1 h2 h3; have HK4 := Aside0.mk (HK3.out.put h2 HYG.out (by simpa using HXY.out) h1); have q7 := (step_at x (.slice Ax x.keep.length cx) HXL.out); have q8 := (step_at y (.slice Ay y.keep.length cy) HYL.out); have a1 := HK4.out.tail.head.cell q7.1; have a2 := HK4.out.tail.head.cell q7.2.1; have a3 := HK4.out.tail.head.cell q7.2.2.1; have a4 := HK4.out.tail.head.cell q7.2.2.2.1; have a5 := HK4.out.tail.head.cell q7.2.2.2.2; have b1 := HK4.out.head.cell q8.1; have b2 := HK4.out.head.cell q8.2.1; have b3 := HK4.out.head.cell q8.2.2.1; have b4 := HK4.out.head.cell q8.2.2.2.1; have b5 := HK4.out.head.cell q8.2.2.2.2; clear h1 h2 h3 q7 q8) | ((with_reducible refine gate_dst (N := 29) rfl ?_); refine loadOp rfl (.tmp 28) rfl xg rfl x _ HXL.out HK4.out.tail.head ?_) | ((with_reducible refine gate_dst (N := 31) rfl ?_); refine loadOp rfl (.tmp 30) rfl yg rfl y _ HYL.out HK4.out.head ?_) | ((with_reducible refine gate_dst (N := 32) rfl ?_); refine neq35 rfl (.tmp 29) (.tmp 31) rfl x.op y.op rfl rfl HGX.out.op HGY.out.op _ HB0.out ?_))
            go_ret
            rw [HF.out]
            exact ⟨rfl, HK4.out.below⟩
        · have HF := Aside0.mk (HNE.out (fun e => h0 (by rw [e])))
          have HB0 := Aside0.mk (show decide (x.op = y.op) = false from decide_eq_false h0)
          clear h0
          go_wp2_with (first | ((with_reducible refine gate_dst (N := 23) rfl ?_); refine load41 rfl (.tmp 22) rfl (ad.add (k * 42)) rfl x _ HXL.out (HCX.out _ HB.out.below) ?_) | ((with_reducible refine gate_dst (N := 6) rfl ?_); refine alloc41 rfl rfl ?_; intro w1 xg h1 h2 h3; have HK1 := Aside0.mk (HB.out.new h3 h2); have HXG := Aside0.mk (show w.heap.size ≤ xg from Nat.le_trans HB.out.size h1); clear h1 h2 h3) | ((with_reducible refine gate_op (.store 41 (.tmp 6) (.tmp 23)) rfl ?_); refine store41 rfl rfl (.tmp 6) (.tmp 23) rfl xg rfl x Ax x.keep.length cx HXL.out rfl (m := step0) rfl HK1.out.head ?_; intro w2 h1 h2 h3; have HK2 := Aside0.mk (HK1.out.put h2 HXG.out (by simp) h1); clear h1 h2 h3) | ((with_reducible refine gate_dst (N := 27) rfl ?_); refine load41 rfl (.tmp 26) rfl (bd.add (k * 42)) rfl y _ HYL.out (HCY.out _ HK2.out.below) ?_) | ((with_reducible refine gate_dst (N := 7) rfl ?_); refine alloc41 rfl rfl ?_; intro w3 yg h1 h2 h3; have HK3 := Aside0.mk (HK2.out.new h3 h2); have HYG := Aside0.mk (show w.heap.size ≤ yg from Nat.le_trans HK2.out.size h1); have HXY := Aside0.mk (show xg ≠ yg by have a1 := HK2.out.head.lt; have a2 := h1; omega); clear h1 h2 h3) | ((with_reducible refine gate_op (.store 41 (.tmp 7) (.tmp 27)) rfl ?_); refine store41 rfl rfl (.tmp 7) (.tmp 27) rfl yg rfl y Ay y.keep.length cy HYL.out rfl (m := step0) rfl HK3.out.head ?_; intro w4 h1 h2 h3; have HK4 := Aside0.mk (HK3.out.put h2 HYG.out (by simpa using HXY.out) h1); have q7 := (step_at x (.slice Ax x.keep.length cx) HXL.out); have q8 := (step_at y (.slice Ay y.keep.length cy) HYL.out); have a1 := HK4.out.tail.head.cell q7.1; have a2 := HK4.out.tail.head.cell q7.2.1; have a3 := HK4.out.tail.head.cell q7.2.2.1; have a4 := HK4.out.tail.head.cell q7.2.2.2.1; have a5 := HK4.out.tail.head.cell q7.2.2.2.2; have b1 := HK4.out.head.cell q8.1; have b2 := HK4.out.head.cell q8.2.1; have b3 := HK4.out.head.cell q8.2.2.1; have b4 := HK4.out.head.cell q8.2.2.2.1; have b5 := HK4.out.head.cell q8.2.2.2.2; clear h1 h2 h3 q7 q8) | ((with_reducible refine gate_dst (N := 29) rfl ?_); refine loadOp rfl (.tmp 28) rfl xg rfl x _ HXL.out HK4.out.tail.head ?_) | ((with_reducible refine gate_dst (N := 31) rfl ?_); refine loadOp rfl (.tmp 30) rfl yg rfl y _ HYL.out HK4.out.head ?_) | ((with_reducible refine gate_dst (N := 32) rfl ?_); refine neq35 rfl (.tmp 29) (.tmp 31) rfl x.op y.op rfl rfl HGX.out.op HGY.out.op _ HB0.out ?_))
          go_ret
          rw [HF.out]
          exact ⟨rfl, HK4.out.below⟩
      · obtain rfl : k = N := by omega
        have hd : decide ((k : Int) < k) = false := by simp
        have HF := Aside0.mk (show decide (l = m) = true from decide_eq_true (by have := HTK.out; rw [HN.out, List.take_length, ← HN.out, ← HM.out, List.take_length] at this; exact this))
        go_wp2_with fail
        go_ret
        rw [HF.out]
        exact ⟨rfl, HB.out.below⟩
  · have hq : ((l.length : Int) == m.length) = false := by rw [beq_eq_false_iff_ne]; omega
    have hq2 : ¬ (l.length : Int) = m.length := by omega
    have HF := Aside0.mk (show decide (l = m) = false from decide_eq_false (fun e => hlen (by rw [e])))
    clear hlen
    go_enter Tryd.func14, Tryd.ntmps14
    go_wp2_with fail
    go_ret
    rw [HF.out]
    exact ⟨rfl, HK.out.below⟩
end
section
set_option linter.unusedSimpArgs false
set_option linter.unusedVariables false
open Go.RowKit Go.Proofs.YtagpldkgkchfcaaDoorW.PrintWords Go.Proofs.YtagpldkgkchfcaaDoorW.PrintLast Go.Proofs.YtagpldkgkchfcaaDoorW.PrintMore Arr PTextPrints

def aw0 : Step := stepOp { op0 with kind := 7, id := 3 }
def aw1 : Step := stepOp { op0 with kind := 7, id := 4, sync := true }
def aw2 : Step := stepArm 2
def aw3 : Step := stepCrash [1, 2] 5 0
def awS : Bs := [99, 111, 109, 109, 105, 116, 32, 51, 10, 115, 121, 110, 99, 32, 52, 10, 97, 114, 109, 32, 50, 10, 99, 114, 97, 115, 104, 32, 53, 32, 48, 32, 49, 32, 50, 10]
def awT : Bs := [109, 111, 117, 110, 116, 10, 99, 111, 109, 109, 105, 116, 32, 48, 51, 10]
theorem d0 : dec 0 = [48] := dec_small 0 (by decide)
theorem d1 : dec 1 = [49] := dec_small 1 (by decide)
theorem d2 : dec 2 = [50] := dec_small 2 (by decide)
theorem d3 : dec 3 = [51] := dec_small 3 (by decide)
theorem d4 : dec 4 = [52] := dec_small 4 (by decide)
theorem d5 : dec 5 = [53] := dec_small 5 (by decide)
theorem awl0 : refLine aw0 = some [99, 111, 109, 109, 105, 116, 32, 51, 10] := by
  show some (([99, 111, 109, 109, 105, 116] ++ 32 :: dec 3 : Bs) ++ [10]) = _
  rw [d3]; rfl
theorem awl1 : refLine aw1 = some [115, 121, 110, 99, 32, 52, 10] := by
  show some (([115, 121, 110, 99] ++ 32 :: dec 4 : Bs) ++ [10]) = _
  rw [d4]; rfl
theorem awl2 : refLine aw2 = some [97, 114, 109, 32, 50, 10] := by
  show some (sArm ++ [32] ++ dec 2 ++ [10]) = _
  rw [d2]; rfl
theorem awl3 : refLine aw3 = some [99, 114, 97, 115, 104, 32, 53, 32, 48, 32, 49, 32, 50, 10] := by
  show some ((((sCrash ++ [32] ++ dec 5 ++ [32] ++ dec 0) ++ 32 :: dec 1) ++ 32 :: dec 2 : Bs) ++ [10]) = _
  rw [d5, d0, d1, d2]; rfl
theorem awp : refPrint [aw0, aw1, aw2, aw3] = some awS := by
  simp only [refPrint, awl0, awl1, awl2, awl3]
  rfl
theorem okop0 : okOp op0 := ⟨rfl, fun y hy => by rw [List.eq_of_mem_replicate hy]; omega⟩
theorem aw_good : ∀ x ∈ [aw0, aw1, aw2, aw3], good x := by
  intro x hx
  simp only [List.mem_cons, List.not_mem_nil, or_false] at hx
  rcases hx with rfl | rfl | rfl | rfl
  · exact ⟨okop0, by decide, by decide⟩
  · exact ⟨okop0, by decide, by decide⟩
  · exact ⟨okop0, by decide, by decide⟩
  · exact ⟨okop0, by decide, by decide⟩
theorem aw_parse : parseOf awS = .ok [aw0, aw1, aw2, aw3] := parse_iff.2 ⟨awp, aw_good⟩
theorem num03 : numOf [48, 51] = none := by
  rcases h : numOf [48, 51] with _ | n
  · rfl
  · obtain ⟨h1, h2⟩ := (numOf_iff _ _).1 h
    have h3 := atoi_dec n (by omega)
    rw [← h2] at h3
    have h4 : Lib.atoiAll [48, 51] = .ok (3 : Int) := by rfl
    rw [h4] at h3
    injection h3 with h3
    obtain rfl : n = 3 := by omega
    rw [d3] at h2
    cases h2
theorem aw_bad : parseOf awT = .err 2 := by
  have e1 : awT = [109, 111, 117, 110, 116] ++ 10 :: ([99, 111, 109, 109, 105, 116, 32, 48, 51] ++ 10 :: []) := rfl
  have s1 : stepOf [109, 111, 117, 110, 116] = some (stepOp { op0 with kind := 2 }) := rfl
  have s2 : stepOf [99, 111, 109, 109, 105, 116, 32, 48, 51] = none := by
    have h1 : ∀ o, setTell o 105 [48, 51] = none := fun o => by
      show (numOf [48, 51]).map _ = none
      rw [num03]; rfl
    have h2 : opOf [[99, 111, 109, 109, 105, 116], [48, 51]] = none := by
      show (match setTell _ 105 [48, 51] with | none => none | some o' => setTells [] [] o') = none
      rw [h1]
    show (opOf [[99, 111, 109, 109, 105, 116], [48, 51]]).map _ = none
    rw [h2]; rfl
  unfold parseOf
  rw [e1, parseAt_some 1 (by decide), s1]
  simp only
  rw [parseAt_some 2 (by decide), s2]
  rfl
theorem aw_plain : plainB aw3 = true := by
  rw [plain_iff aw3 (aw_good _ (by simp)), awl3]; rfl
section
variable {ops : Array Oper} {rest : List Oper} {o : Oper} {a : Act} {Q : Exit → Act → World → Prop} {W w1 : World} {v : Value}
theorem event_runW (hw : Region.wanted o (yielded ops a.tmps) = true) (hrun : (execOp a.eval o).run Tryd.prog W = .ok (.value v) w1) (h : wpList Tryd.prog ops Q rest (a.put o.dst v) w1) : wpList Tryd.prog ops Q (o :: rest) a W := by
  unfold wpList
  rw [if_pos hw]
  left
  unfold Oper.wp
  rw [hrun]
  exact h
end
set_option maxRecDepth 10000 in
set_option maxHeartbeats 2000000 in
theorem awake_calls (w : World) (hE : Env w) : Calls Tryd.prog 10 #[] w fun e w' => e = .returned (.bool true) ∧ Below w.heap.size w w' := by
  have HK := Aside0.mk (Keeps.refl w)
  have HE := Aside0.mk hE
  have HP1 := Aside0.mk (fun W hW => by
    have := parse_calls W (hE.below hW) ⟨#[99, 111, 109, 109, 105, 116, 32, 51, 10, 115, 121, 110, 99, 32, 52, 10, 97, 114, 109, 32, 50, 10, 99, 114, 97, 115, 104, 32, 53, 32, 48, 32, 49, 32, 50, 10]⟩ (by decide)
    rw [show parseOf (⟨#[99, 111, 109, 109, 105, 116, 32, 51, 10, 115, 121, 110, 99, 32, 52, 10, 97, 114, 109, 32, 50, 10, 99, 114, 97, 115, 104, 32, 53, 32, 48, 32, 49, 32, 50, 10]⟩ : ByteArray).data.toList = .ok [aw0, aw1, aw2, aw3] from aw_parse] at this
    exact this)
  have HP2 := Aside0.mk (fun W hW => by
    have := parse_calls W (hE.below hW) ⟨#[109, 111, 117, 110, 116, 10, 99, 111, 109, 109, 105, 116, 32, 48, 51, 10]⟩ (by decide)
    rw [show parseOf (⟨#[109, 111, 117, 110, 116, 10, 99, 111, 109, 109, 105, 116, 32, 48, 51, 10]⟩ : ByteArray).data.toList = .err 2 from aw_bad] at this
    exact this)
  clear hE
  go_enter Tryd.func10, Tryd.ntmps10
  go_upto_region 3 with (first | (go_at_call 11; first | ((with_reducible refine (HP1.out _ HK.out.below).mono ?_); unfold ParseEnd; rintro e w1 ⟨v, rfl, hv, hg, hbb⟩; obtain ⟨A, c, rfl, hc, hC⟩ := Kd.R_reads hv; have HK1 := Aside0.mk (HK.out.step hbb); have HC := Aside0.mk hC; have HG := Aside0.mk hg; clear hbb hg hv) | ((with_reducible refine (HP2.out _ HK1.out.below).mono ?_); unfold ParseEnd; rintro e w2 ⟨rfl, hbb⟩; have HK2 := Aside0.mk (HK1.out.step hbb); have HC2 := Aside0.mk (Kd.C_below HC.out hbb); clear hbb)))
  obtain ⟨ad, A0, c0, hA, hx0, _⟩ := at41 HC2.out 0 (by decide)
  subst hA
  obtain ⟨ad1, A1, c1, hA1, hx1, _⟩ := at41 HC2.out 1 (by decide)
  obtain rfl := Option.some.inj hA1
  obtain ⟨ad2, A2, c2, hA2, hx2, _⟩ := at41 HC2.out 2 (by decide)
  obtain rfl := Option.some.inj hA2
  obtain ⟨ad3, A3, c3, hA3, hx3, _, hk3, hC3⟩ := at41 HC2.out 3 (by decide)
  obtain rfl := Option.some.inj hA3
  have y1 : w2.cell? ⟨(ad.add 42).block, (ad.add 42).off + 35, none⟩ = some (.bool true) := by have := hx1 35 (.bool true) rfl; rwa [add_j _ _ _ (by decide)] at this
  have y2 : w2.cell? ⟨(ad.add 84).block, (ad.add 84).off + 37, none⟩ = some (.int .i64 2) := by have := hx2 37 (.int .i64 2) rfl; rwa [add_j _ _ _ (by decide)] at this
  have y3 : w2.cell? ⟨(ad.add 126).block, (ad.add 126).off + 38, none⟩ = some (.bool true) := by have := hx3 38 (.bool true) rfl; rwa [add_j _ _ _ (by decide)] at this
  have y4 : w2.cell? ⟨(ad.add 126).block, (ad.add 126).off + 39 + 1, none⟩ = some (.int .u64 5) := by have := hx3 40 (.int .u64 5) rfl; rwa [add_j _ _ _ (by decide)] at this
  have y4' : w2.cell? ⟨(ad.add 126).block, (ad.add 126).off + 40, none⟩ = some (.int .u64 5) := y4
  have y5 : w2.cell? ⟨(ad.add 126).block, (ad.add 126).off + 39, none⟩ = some (.slice A3 2 c3) := by have := hx3 39 (.slice A3 2 c3) rfl; rwa [add_j _ _ _ (by decide)] at this
  have y1b : w2.cell? ⟨ad.block, ad.off + 42 + 35, none⟩ = some (.bool true) := y1
  have y1c : w2.cell? ⟨ad.block, ad.off + 77, none⟩ = some (.bool true) := y1
  have y2b : w2.cell? ⟨ad.block, ad.off + 84 + 37, none⟩ = some (.int .i64 2) := y2
  have y2c : w2.cell? ⟨ad.block, ad.off + 121, none⟩ = some (.int .i64 2) := y2
  have y3b : w2.cell? ⟨ad.block, ad.off + 126 + 38, none⟩ = some (.bool true) := y3
  have y3c : w2.cell? ⟨ad.block, ad.off + 164, none⟩ = some (.bool true) := y3
  have y4b : w2.cell? ⟨ad.block, ad.off + 126 + 39 + 1, none⟩ = some (.int .u64 5) := y4
  have y4c : w2.cell? ⟨ad.block, ad.off + 166, none⟩ = some (.int .u64 5) := y4
  have y4d : w2.cell? ⟨ad.block, ad.off + 126 + 40, none⟩ = some (.int .u64 5) := y4
  have y5b : w2.cell? ⟨ad.block, ad.off + 126 + 39, none⟩ = some (.slice A3 2 c3) := y5
  have y5c : w2.cell? ⟨ad.block, ad.off + 165, none⟩ = some (.slice A3 2 c3) := y5
  have HX0 := Aside0.mk (show ∀ j u, (opC aw0.op)[j]? = some u → w2.cell? (ad.add j) = some u from fun j u hu => hx0 j u (step_op_at aw0 _ hu))
  have HX3 := Aside0.mk (show ∀ j u, (stepC aw3 (.slice A3 aw3.keep.length c3))[j]? = some u → w2.cell? ((⟨ad.block, ad.off + 126, none⟩ : Addr).add j) = some u from hx3)
  have HK3 := Aside0.mk hk3
  have HC3 := Aside0.mk hC3
  have HG3 := Aside0.mk (HG.out aw3 (by simp))
  have HG0 := Aside0.mk (HG.out aw0 (by simp))
  clear hx0 hx1 hx2 hx3 hk3 hC3
  simp only [List.append]
  go_wp2_with (first | ((with_reducible refine gate_dst (N := 32) rfl ?_); refine event_runW (by rfl) (run_loadC 35 (.tmp 31) rfl _ rfl (opC aw0.op) Tryd.underlying35 rfl (by rw [opC_len aw0.op rfl]; exact size35) HX0.out) ?_) | ((with_reducible refine gate_dst (N := 34) rfl ?_); refine event_runW (v := .bool true) (by rfl) (run_eql35 (.tmp 32) (.tmp 33) rfl aw0.op aw0.op rfl rfl HG0.out.op HG0.out.op true (by simp)) ?_) | ((with_reducible refine gate_dst (N := 84) rfl ?_); refine event_runW (by rfl) (run_loadC 41 (.tmp 83) rfl ⟨ad.block, ad.off + 126, none⟩ rfl (stepC aw3 (.slice A3 aw3.keep.length c3)) Tryd.underlying41 rfl (by rw [stepC_len aw3 _ rfl]; exact size41) HX3.out) ?_) | (go_at_call 17; refine (plain_calls _ (HE.out.below HK2.out.below) aw3 HG3.out A3 c3 HC3.out HK3.out (by decide)).mono ?_; unfold PlainEnd; rw [aw_plain]; rintro e w8 ⟨rfl, hbb⟩; have HK8 := Aside0.mk (HK2.out.step hbb); clear hbb))
  go_ret
  exact ⟨rfl, HK8.out.below⟩
end
end Go.Proofs.YtagpldkgkchfcaaDoor.Txt
