/- Leaves compared, and laid out by the document's answer. -/
import Derived.Test.YtkkmmbbnaafhlaaTabRefOf
namespace Go.Proofs.Ytkkmmbbnaafhlaa.Tab
set_option linter.unusedSimpArgs false
set_option linter.unusedVariables false
open Go.RowKit Go.Proofs.YtkkmmbbnaafhlaaW.PrintWords Go.Proofs.YtkkmmbbnaafhlaaW.PrintLast Go.Proofs.YtkkmmbbnaafhlaaW.PrintMore Arr

def gLeaf (L : Leaf) : Prop := (Lit.int .i64 L.gen).wf = true ∧ (Lit.int .i64 L.idx).wf = true ∧ ∀ x ∈ L.ps, (Lit.int .i64 x).wf = true
section
attribute [local irreducible] Dec.Dec Dec.DecF
theorem dec58 : Dec.Dec Try.prog 58 k58 gLeaf :=
  Dec.dec_struct (k := Kd.pair (Kd.int .i64) (Kd.pair (Kd.int .i64) (Dec.ints .i64 10))) (G := fun x => (Lit.int .i64 x.1).wf = true ∧ (Lit.int .i64 x.2.1).wf = true ∧ ∀ y ∈ x.2.2, (Lit.int .i64 y).wf = true) (pr := fun L : Leaf => (L.gen, L.idx, L.ps)) Try.underlying58 (by kernel_rfl)
    (Dec.decf_cons (Dec.dec_int Try.underlying3) rfl (by kernel_rfl) (Dec.decf_cons (Dec.dec_int Try.underlying3) rfl (by kernel_rfl) (Dec.decf_one (Dec.dec_ints Try.underlying56 Try.underlying3 (by kernel_rfl) (by kernel_rfl)) rfl (by kernel_rfl)))) (fun ⟨a, b, c⟩ => ⟨⟨a, b, c⟩, rfl⟩)
theorem dec54 : Dec.Dec Try.prog 54 (Kd.slice 58 k58) (fun l => ∀ x ∈ l, gLeaf x) := Dec.dec_slice Try.underlying54 dec58 (by kernel_rfl)
end
theorem eqg58 : Try.prog.eqGuardType Try.prog.depth 58 = false := by kernel_rfl
theorem lits58 (L : Leaf) (hl : L.ps.length = 10) (hw : gLeaf L) : Try.prog.keyLits 4 58 (leafC L) = some ([Lit.int .i64 L.gen, Lit.int .i64 L.idx] ++ L.ps.map (Lit.int .i64)) := by
  obtain ⟨hg, hi, hp⟩ := hw
  have h1 := lits_int (P := Try.prog) (D := 2) (e := 3) (k := .i64) Try.underlying3 hg
  have h2 := lits_int (P := Try.prog) (D := 2) (e := 3) (k := .i64) Try.underlying3 hi
  have h3 := lits_ints (P := Try.prog) (D := 1) (T := 56) (e := 3) (n := 10) (k := .i64) Try.underlying56 Try.underlying3 (by kernel_rfl) (by kernel_rfl) hl hp
  have hlen : (leafC L).length = Try.prog.cellsOf 58 := by rw [leafC_len L hl]; kernel_rfl
  have c3 : Try.prog.cellsOf 3 = 1 := by kernel_rfl
  have c56 : Try.prog.cellsOf 56 = 10 := by kernel_rfl
  have e1 : ((leafC L).drop 0).take 1 = [Value.int .i64 L.gen] := rfl
  have e2 : ((leafC L).drop 1).take 1 = [Value.int .i64 L.idx] := rfl
  have e3 : ((leafC L).drop 2).take 10 = encs (Value.int .i64) L.ps := by
    show (encs (Value.int .i64) L.ps).take 10 = _
    rw [List.take_of_length_le (by simp [encs, hl])]
  unfold Program.keyLits
  rw [Try.underlying58]
  show (if _ then _ else _) = _
  rw [if_pos ⟨hlen, by decide +kernel⟩]
  simp only [List.mapM_cons, List.mapM_nil, c3, c56]
  rw [e1, e2, e3, h1, h2, h3]
  simp
theorem eq58 {L : Leaf} (hl : L.ps.length = 10) (wl : gLeaf L) (w : World) : (Op.equal 58 (.agg (leafC L).toArray) (.agg (leafC L).toArray)).run Try.prog w = .ok true w :=
  run_equal_cells (P := Try.prog) (T := 58) (m := 5) (by decide) (by kernel_rfl) Try.underlying58 rfl (by rw [leafC_len L hl]; kernel_rfl) (by rw [leafC_len L hl]; kernel_rfl) (lits58 L hl wl) (lits58 L hl wl) (by simp) w
theorem yields_load58 {ops : Array Oper} {S : World → Prop} {o : Oper} {a : Act} (hw : Region.wanted o (yielded ops a.tmps) = true) (p : Operand) (ho : o.op = .load 58 p) (ad : Addr) (hp : a.eval p = .pointer (some ad)) (L : Leaf) (hl : L.ps.length = 10)
    (hc : ∀ w, S w → ∀ j u, (leafC L)[j]? = some u → w.cell? (ad.add j) = some u) : YieldsIf Try.prog ops S o (.agg (leafC L).toArray) a := Or.inl ⟨hw, fun w hS => by
  obtain ⟨i, hii, his⟩ := Option.map_eq_some_iff.1 size58
  have hcl := run_loadCells_list (P := Try.prog) w ad (leafC L) (hc w hS)
  have hagg : (isAgg 58).run Try.prog w = .ok true w := by rw [run_isAgg Try.underlying58 w]; rfl
  rw [leafC_len L hl] at hcl
  unfold execOp
  simp [ho, hp, Instr.loadAt, Instr.sureAddr, loadVar, Sem.run_bind, hagg, sizeOf, typeInfo, hii, his, hcl]⟩
set_option maxRecDepth 10000 in
set_option maxHeartbeats 4000000 in
theorem sameleaves_calls (w : World) (A1 : Option Addr) (c1 : Nat) (A2 : Option Addr) (c2 : Nat) (n : Nat) (ls : List Leaf) (hn : n = ls.length) (h1 : CL w A1 n ls) (h2 : CL w A2 n ls) (hl : n ≤ 1000000) (hG : ∀ i, i < n → gLeaf (lf ls i)) : Calls Try.prog 33 #[.slice A1 n c1, .slice A2 n c2] w fun e w' => e = .returned (.bool true) ∧ Below w.heap.size w w' := by
  have HR1 := Aside0.mk h1
  have HR2 := Aside0.mk h2
  have HG := Aside0.mk hG
  have HW := Aside0.mk (Below.refl w.heap.size w)
  clear h1 h2 hG hn
  go_enter Try.func33, Try.ntmps33
  have hd : ((n : Int) != (n : Int)) = false := by simp
  go_wp2_with fail
  go_loopw [5] (fun i wr => ∃ k : Nat, k ≤ n ∧ i = .int .i64 k ∧ Aside0 (Below w.heap.size w wr)) (fun i _ => n - (intOf i).toNat)
  case atStart => exact ⟨0, by omega, rfl, HW⟩
  case round =>
    obtain ⟨k, hk, rfl, HX⟩ := hrel
    by_cases hlt : k < n
    · have hd2 : decide ((k : Int) < n) = true := by simp; omega
      obtain ⟨ad, hA, hx, hxl⟩ := CL.at HR1.out k hlt
      obtain ⟨ad2, hA2, hy, _⟩ := CL.at HR2.out k hlt
      subst hA
      subst hA2
      have HE := Aside0.mk (fun w => eq58 hxl (HG.out k hlt) w)
      obtain ⟨L, hL⟩ : ∃ L, L = lf ls k := ⟨_, rfl⟩
      rw [← hL] at hx hy hxl HE
      have HC1 := Aside0.mk (fun w' (hb : Below w.heap.size w w') j u (hu : (leafC L)[j]? = some u) => pw_cell_below hb (hx j u hu))
      have HC2 := Aside0.mk (fun w' (hb : Below w.heap.size w w') j u (hu : (leafC L)[j]? = some u) => pw_cell_below hb (hy j u hu))
      clear hx hy hL
      go_upto_region 6 with (fail)
      refine wp_region_held_drew (S := (fun w' => Below w.heap.size w w')) (by kernel_rfl) (by exact pw_below_drewN HX.out 1) (fun hHeld => ?_)
      refine wpAnyH_tk (i := 0) (v := ?vz1) 17 rfl rfl (by kernel_rfl) (by kernel_rfl) (by kernel_rfl) (fun _ _ _ h => h) (Or.inl ⟨by rfl, ?yz1⟩) hHeld ?rz1
      case yz1 => (intro w hSw; go_simp; try with_reducible rfl)
      (try simp only [Act.put, List.setIfInBounds_toArray, List.set_cons_zero, List.set_cons_succ])
      refine wpAnyH_tk (i := 1) (v := ?vz2) 18 rfl rfl (by kernel_rfl) (by kernel_rfl) (by kernel_rfl) (fun _ _ _ h => h) (Or.inl ⟨by rfl, ?yz2⟩) hHeld ?rz2
      case yz2 => (intro w hSw; go_simp; try with_reducible rfl)
      (try simp only [Act.put, List.setIfInBounds_toArray, List.set_cons_zero, List.set_cons_succ])
      refine wpAnyH_tk (i := 2) (v := ?vz3) 19 rfl rfl (by kernel_rfl) (by kernel_rfl) (by kernel_rfl) (fun _ _ _ h => h) (Or.inl ⟨by rfl, ?yz3⟩) hHeld ?rz3
      case yz3 => (intro w hSw; go_simp; try with_reducible rfl)
      (try simp only [Act.put, List.setIfInBounds_toArray, List.set_cons_zero, List.set_cons_succ])
      refine wpAnyH_tk (i := 3) (v := _) 20 rfl rfl (by kernel_rfl) (by kernel_rfl) (by kernel_rfl) (fun _ _ _ h => h) (yields_load58 (by rfl) (.tmp 19) rfl (ad.add (k * 12)) rfl L hxl (fun w' h => HC1.out w' h)) hHeld ?_
      (try simp only [Act.put, List.setIfInBounds_toArray, List.set_cons_zero, List.set_cons_succ])
      refine wpAnyH_tk (i := 4) (v := ?vz4) 21 rfl rfl (by kernel_rfl) (by kernel_rfl) (by kernel_rfl) (fun _ _ _ h => h) (Or.inl ⟨by rfl, ?yz4⟩) hHeld ?rz4
      case yz4 => (intro w hSw; go_simp; try with_reducible rfl)
      (try simp only [Act.put, List.setIfInBounds_toArray, List.set_cons_zero, List.set_cons_succ])
      refine wpAnyH_tk (i := 5) (v := ?vz5) 22 rfl rfl (by kernel_rfl) (by kernel_rfl) (by kernel_rfl) (fun _ _ _ h => h) (Or.inl ⟨by rfl, ?yz5⟩) hHeld ?rz5
      case yz5 => (intro w hSw; go_simp; try with_reducible rfl)
      (try simp only [Act.put, List.setIfInBounds_toArray, List.set_cons_zero, List.set_cons_succ])
      refine wpAnyH_tk (i := 6) (v := ?vz6) 23 rfl rfl (by kernel_rfl) (by kernel_rfl) (by kernel_rfl) (fun _ _ _ h => h) (Or.inl ⟨by rfl, ?yz6⟩) hHeld ?rz6
      case yz6 => (intro w hSw; go_simp; try with_reducible rfl)
      (try simp only [Act.put, List.setIfInBounds_toArray, List.set_cons_zero, List.set_cons_succ])
      refine wpAnyH_tk (i := 7) (v := _) 24 rfl rfl (by kernel_rfl) (by kernel_rfl) (by kernel_rfl) (fun _ _ _ h => h) (yields_load58 (by rfl) (.tmp 23) rfl (ad2.add (k * 12)) rfl L hxl (fun w' h => HC2.out w' h)) hHeld ?_
      (try simp only [Act.put, List.setIfInBounds_toArray, List.set_cons_zero, List.set_cons_succ])
      refine wpAnyH_tk (i := 8) (v := _) 25 rfl rfl (by kernel_rfl) (by kernel_rfl) (by kernel_rfl) (fun _ _ _ h => h) (yields_neq (by rfl) 58 58 (.tmp 20) (.tmp 24) rfl (leafC L) (leafC L) rfl rfl true HE.out eqg58 rfl) hHeld ?_
      (try simp only [Act.put, List.setIfInBounds_toArray, List.set_cons_zero, List.set_cons_succ])
      refine wpAnyH_done (by kernel_rfl) ?_ _
      skip
      go_wp2_with fail
      go_roundw
      case rel => exact ⟨k + 1, by omega, by go_num, ⟨pw_below_drewN HX.out 1⟩⟩
      case measure => simp [intOf]; omega
    · obtain rfl : k = n := by omega
      have hd2 : decide ((k : Int) < k) = false := by simp
      go_wp2_with fail
      go_ret
      exact ⟨rfl, HX.out⟩
end Go.Proofs.Ytkkmmbbnaafhlaa.Tab
