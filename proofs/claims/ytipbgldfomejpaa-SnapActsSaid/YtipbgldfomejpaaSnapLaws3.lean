/- The walk of layer 17's statement SnapActs. -/
import Derived.Test.YtipbgldfomejpaaSnapActs
namespace Go.Proofs.Ytipbgldfomejpaa.Snap
set_option linter.unusedSimpArgs false
set_option linter.unusedVariables false
open Go.RowKit Go.Proofs.YtipbgldfomejpaaW.PrintWords Go.Proofs.YtipbgldfomejpaaW.PrintLast Go.Proofs.YtipbgldfomejpaaW.PrintMore Arr

set_option maxRecDepth 10000 in
set_option maxHeartbeats 8000000 in
theorem firsts_le (l : List Old) : (firsts l).length ≤ l.length := by
  induction l using snoc_ind with
  | nil => exact Nat.le_refl _
  | snoc l o ih =>
    rw [firsts_snoc]
    unfold fstep
    split
    · simp; omega
    · simp; omega
theorem canon_le (all : All) (gone : Nat) : (canon all gone).length ≤ (all.map List.length).sum := by
  refine Nat.le_trans (canon_mono all (Nat.zero_le gone)) ?_
  induction all using snoc_ind with
  | nil => exact Nat.le_refl _
  | snoc all x ih =>
    rw [canon_app all x 0 (Nat.zero_le _), List.length_append, List.map_append, List.sum_append]
    have h1 := firsts_le x
    have h2 : (tagN ((all.length : Int) + 1) (firsts x)).length = (firsts x).length := by simp [tagN]
    simp only [List.map_cons, List.map_nil, List.sum_cons, List.sum_nil]
    omega
theorem doc_olds (l : List Act) : ∀ k, k ≤ l.length → ((doc (l.take k)).1.map List.length).sum ≤ oldsTo l k
  | 0, _ => Nat.le_refl _
  | k + 1, h => by
    have ih := doc_olds l k (by omega)
    unfold doc at ih ⊢
    rw [doTo_succ _ _ _ (by omega), oldsTo_succ l k (by omega)]
    unfold doAct
    split
    · simp only [List.map_append, List.sum_append, List.map_cons, List.map_nil, List.sum_cons, List.sum_nil]
      omega
    · exact Nat.le_trans ih (Nat.le_add_right _ _)
theorem yields_cells48 {ops : Array Oper} {S : World → Prop} {o : Oper} {a : Go.Act} (hw : Region.wanted o (yielded ops a.tmps) = true) (p : Operand) (ho : o.op = .load 48 p) (ad : Addr) (hp : a.eval p = .pointer (some ad)) (f : Act) (A : Option Addr) (c : Nat)
    (hc : ∀ w, S w → ∀ j u, (actC f A c)[j]? = some u → w.cell? (ad.add j) = some u) : YieldsIf Try.prog ops S o (.agg (actC f A c).toArray) a := Or.inl ⟨hw, fun w hS => by
  obtain ⟨i, hii, his⟩ := Option.map_eq_some_iff.1 size48
  have hcl : (loadCells ad 3).run Try.prog w = .ok (actC f A c).toArray w := run_loadCells_list (P := Try.prog) w ad (actC f A c) (hc w hS)
  have hagg : (isAgg 48).run Try.prog w = .ok true w := by rw [run_isAgg Try.underlying48 w]; rfl
  unfold execOp
  simp [ho, hp, Instr.loadAt, Instr.sureAddr, Sem.run_bind, Sem.run_pure, Result.andThen_ok, loadVar, hagg, sizeOf, typeInfo, hii, his, hcl]⟩
set_option maxRecDepth 10000 in
set_option maxHeartbeats 8000000 in
theorem acts_walk (W : World) (A : Option Addr) (c : Nat) (l : List Act) (hlc : l.length ≤ c) (hC : Kd.C k48 W A l.length l) (hG : gActs l) (b : Int) (hbw : (Lit.int .i64 b).wf = true) (n : Int) (hnw : (Lit.int .i64 n).wf = true) : Calls Try.prog 5 #[.slice A l.length c, .int .i64 b, .int .i64 n] W (Holds W) := by
  have HC := Aside0.mk hC
  have HG := Aside0.mk hG
  have hm := Kd.C_max hC
  clear hC hG
  go_enter Try.func5, Try.ntmps5
  go_wp2_with fail
  refine (awake_calls _).mono ?_
  rintro e w1 ⟨rfl, hb⟩
  have H1 := Aside0.mk hb
  clear hb
  have HF := Aside0.mk (few_calls w1 A c l (Kd.C_below HC.out H1.out) HG.out)
  go_wp2_with fail
  refine HF.out.mono ?_
  rintro e w2 ⟨rfl, hw⟩
  subst hw
  clear HF
  by_cases hf : tot l l.length ≤ 200
  case neg =>
    have hd : decide (tot l l.length ≤ 200) = false := by simp; omega
    rw [hd]
    go_wp2_with fail
    refine (awake_calls _).mono ?_
    rintro e w9 ⟨rfl, hb⟩
    have H9 := Aside0.mk (step_bel H1.out hb)
    clear hb
    go_wp2_with fail
    go_ret
    exact ⟨rfl, H9.out⟩
  have hd : decide (tot l l.length ≤ 200) = true := by simp; exact hf
  rw [hd]
  clear hd
  go_wp2_with (first | (go_at_call 13; refine (newDoc _).mono ?_; rintro e w3 ⟨s, ob, lb, rfl, hD, hs1, hs2, hs3, hB1⟩; have HD := Aside0.mk hD; have HB := Aside0.mk (step_bel H1.out hB1); have h1 := Nat.le_trans H1.out.size hs1; have h2 := Nat.le_trans H1.out.size hs2; have h3 := Nat.le_trans H1.out.size hs3; clear hD hB1 hs1 hs2 hs3 H1) | ((with_reducible refine gate_dst (N := 8) rfl ?_); refine alloc45 rfl rfl ?_; intro w4 dg h4 h5 h6; have H5 := Aside0.mk h5; have H6 := Aside0.mk h6; clear h5 h6) | (refine wpl_storeAll rfl rfl 45 (.tmp 8) (.tmp 23) rfl dg rfl (docV none 0 0 0) rfl (by exact size45) (by intro v hv; unfold docV at hv; simp at hv; rcases hv with rfl | rfl <;> rfl) H5.out rfl ?_; intro w5 h7 h8 h9; have H7 := Aside0.mk h7; have H8 := Aside0.mk h8; clear h7 h8))
  have H9 := Aside0.mk (below_grown (grown_fresh H6.out) h4 H6.out.size H8.out)
  have HBo := Aside0.mk (show Both W w5.heap.size w5 s ob lb dg (doc (l.take 0)) (oldsTo l 0) from by
    have hh := HD.out
    have e1 := hh.1.blk.lt
    have e2 := hh.1.old.lt
    have e3 := hh.1.last.lt
    have e4 := H9.out.size
    have e5 := Blk.lt H7.out
    have e6 := HB.out.size
    have h4' : w3.heap.size ≤ dg := h4
    exact ⟨hh.below' H9.out, step_bel HB.out H9.out, ⟨none, 0, H7.out, Kd.C_nil _ _, fun ad e => by cases e⟩, by omega, by omega, by omega⟩)
  obtain ⟨T, hT⟩ : ∃ T, T = w5.heap.size := ⟨_, rfl⟩
  rw [← hT] at HBo
  clear HD HB H5 H6 H7 H8 H9 hT h1 h2 h3 h4 h9
  go_loopw [9] (fun i wr => ∃ k : Nat, k ≤ l.length ∧ i = .int .i64 k ∧ Aside0 (Both W T wr s ob lb dg (doc (l.take k)) (oldsTo l k))) (fun i _ => l.length - (intOf i).toNat)
  case atStart => exact ⟨0, by omega, rfl, HBo⟩
  case round =>
    clear HBo
    obtain ⟨k, hk, rfl, HBo⟩ := hrel
    by_cases hlt : k < l.length
    · have hd : decide ((k : Int) < l.length) = true := by simp; omega
      obtain ⟨ad, Ao, co, hA, hcx, hlc, hCO, hcalls⟩ := act_calls2 HC.out HG.out HBo.out hlt hf
      subst hA
      have HCX := Aside0.mk hcx
      have HCO := Aside0.mk hCO
      have HCA := Aside0.mk hcalls
      clear hcx hcalls hCO
      go_upto_region 9 with (first | ((with_reducible refine gate_dst (N := 34) rfl ?_); refine load48 rfl (.tmp 33) rfl (ad.add (k * 3)) rfl (ac l k) Ao co (fun j u hu => bel_cell HBo.out.bel (HCX.out j u hu)) ?_) | (go_at_call 18; refine HCA.out.mono ?_; rintro e w4 ⟨rfl, hD4, hB4, hM4⟩; have HD4 := Aside0.mk hD4; have HB4 := Aside0.mk hB4; have HM4 := Aside0.mk hM4; clear hD4 hB4 hM4))
      obtain ⟨A1, c1, hb1, hd1⟩ := HBo.out.ref
      have ts := HBo.out.ts
      have lo := HBo.out.lo
      have ne := HBo.out.ne
      have hb4 := HM4.out.blk hb1 ne.1 ne.2.1 ne.2.2
      have hd4 := hd1.keep (w1 := w4) (fun j hj hlt => HM4.out.heap j hlt (by omega) (by omega) (by omega))
      have hsz := HM4.out.size
      have HL := Aside0.mk (doTo_len l k (by omega))
      have HDN := Aside0.mk (show doc (l.take (k + 1)) = doAct (doc (l.take k)) (ac l k) from doTo_succ _ _ _ hlt)
      have HGO := Aside0.mk HBo.out.doc.2
      have HG4 := Aside0.mk (HG.out.2 _ (ac_mem l k hlt))
      have hll := oldsTo_le l 0 (by omega)
      obtain ⟨⟨all, gone⟩, hst⟩ : ∃ st, st = doc (l.take k) := ⟨_, rfl⟩
      unfold doc at hst HDN
      rw [show doTo ([], 0) (l.take k) = doTo doc0 (l.take k) from rfl, ← hst] at HL
      unfold doc at HGO hb4 hd4
      rw [← hst] at HDN HGO hb4 hd4
      simp only at HL HGO hb4 hd4
      have HB45 := Aside0.mk hb4
      have HDC := Aside0.mk hd4
      have HLL := Aside0.mk (show all.length ≤ 100000 by have := HL.out; omega)
      clear hst hb1 hd1 hb4 hd4 HCA HL hll
      refine wp_region_held_drew (S := (fun w' => Below W.heap.size W w')) (by kernel_rfl) (by exact below_drew HB4.out) (fun hHeld => ?_)
      refine wpAnyH_tk (i := 1) (v := ?vz1) 37 rfl rfl (by kernel_rfl) (by kernel_rfl) (by kernel_rfl) (fun _ _ _ h => h) (Or.inl ⟨by rfl, ?yz1⟩) hHeld ?rz1
      case yz1 => (intro w hSw; go_simp; try with_reducible rfl)
      (try simp only [Act.put, List.setIfInBounds_toArray, List.set_cons_zero, List.set_cons_succ])
      refine wpAnyH_tk (i := 2) (v := ?vz2) 38 rfl rfl (by kernel_rfl) (by kernel_rfl) (by kernel_rfl) (fun _ _ _ h => h) (Or.inl ⟨by rfl, ?yz2⟩) hHeld ?rz2
      case yz2 => (intro w hSw; go_simp; try with_reducible rfl)
      (try simp only [Act.put, List.setIfInBounds_toArray, List.set_cons_zero, List.set_cons_succ])
      refine wpAnyH_tk (i := 3) (v := _) 39 rfl rfl (by kernel_rfl) (by kernel_rfl) (by kernel_rfl) (fun _ _ _ h => h) (show YieldsIf Try.prog _ _ _ (.pointer (some (ad.add (k * 3)))) _ from Or.inl ⟨(by rfl), fun w hSw => by go_simp; try omega⟩) hHeld ?_
      (try simp only [Act.put, List.setIfInBounds_toArray, List.set_cons_zero, List.set_cons_succ])
      refine wpAnyH_tk (i := 4) (v := _) 40 rfl rfl (by kernel_rfl) (by kernel_rfl) (by kernel_rfl) (fun _ _ _ h => h) (yields_cells48 (by rfl) (.tmp 39) rfl (ad.add (k * 3)) rfl (ac l k) Ao co (fun w h j u hu => bel_cell h (HCX.out j u hu))) hHeld ?_
      (try simp only [Act.put, List.setIfInBounds_toArray, List.set_cons_zero, List.set_cons_succ])
      refine wpAnyH_one (i := 0) (by kernel_rfl) rfl (fun K hK => ?_)
      rw [if_pos (by rfl)]
      refine step_loadAll 36 rfl 45 (.tmp 8) rfl dg rfl (cs := docV A1 all.length c1 gone) HB45.out.drew Try.underlying45 rfl (by exact size45) ?_
      refine hK.out _ _ (by exact hHeld) (fun hHeld => ?_)
      clear hK K
      (try simp only [Act.put, List.setIfInBounds_toArray, List.set_cons_zero, List.set_cons_succ])
      refine wpAnyH_one (i := 5) (by kernel_rfl) rfl (fun K hK => ?_)
      go_simp
      go_wp2_with ((go_at_call 19; refine (rdo_calls W _ hHeld T (Nat.le_trans ts.2.2.2.2 hsz) A1 c1 all gone (HDC.out.below (below_drew (Below.refl _ _))) HLL.out HGO.out (ac l k) Ao co hlc HCO.out HG4.out).mono ?_; rintro e w6 ⟨A2, c2, rfl, hd6, hb6⟩))
      refine hK.out _ _ (by exact step_bel hHeld hb6) (fun hHeld => ?_)
      clear hK K
      refine wpAnyH_one (i := 6) (by kernel_rfl) rfl (fun K hK => ?_)
      rw [if_pos (by rfl)]
      refine step_storeAll rfl 45 (.tmp 8) (.tmp 41) rfl dg rfl (docV A2 _ c2 _) rfl (by exact size45) (by intro v hv; unfold docV at hv; simp at hv; rcases hv with rfl | rfl <;> rfl) (blk_below HB45.out.drew hb6) rfl ?_; intro w7 h7 h8 h9
      refine hK.out _ _ (by exact below_grown hHeld lo.2.2.2 hHeld.size h8) (fun hHeld => ?_)
      clear hK K
      (try simp only [Act.put, List.setIfInBounds_toArray, List.set_cons_zero, List.set_cons_succ])
      refine wpAnyH_done (by kernel_rfl) ?_ _
      skip
      have HBn := Aside0.mk (show Both W T w7 s ob lb dg (doc (l.take (k + 1))) (oldsTo l (k + 1)) from by
        have d6 := HD4.out.drew.below' hb6
        have e1 := h8.size
        have e2 : w4.heap.size ≤ w6.heap.size := hb6.size
        have n1 := d6.1.blk
        refine ⟨⟨d6.1.grown h8 (by simp; omega) (by simp; omega) (by simp; omega), d6.2⟩, hHeld, ⟨A2, c2, ?_, ?_⟩, by omega, lo, ne⟩
        · unfold doc; rw [HDN.out]; exact h7
        · unfold doc; rw [HDN.out]
          exact hd6.keep (fun j hj hlt => h8.block j hlt (by simp; omega)))
      clear h7 h8 h9 hHeld hd6 hb6 HD4 HB4 HM4 HBo HB45 HDC
      go_wp2_with fail
      go_roundw
      case rel => exact ⟨k + 1, by omega, by go_num, HBn⟩
      case measure => simp [intOf]; omega
    · obtain rfl : k = l.length := by omega
      have hd : decide ((l.length : Int) < l.length) = false := by simp
      rw [List.take_length] at HBo
      have hlen : (doc l).1.length ≤ 200 := by have a1 := doTo_len l l.length (Nat.le_refl _); rw [List.take_length] at a1; have a2 := oldsTo_le l 0 (by omega); unfold doc doc0; omega
      have HGA : Aside0 (gAll (doc l).1) := Aside0.mk (by have a1 := doc_good l HG.out.2 l.length (Nat.le_refl _); rwa [List.take_length] at a1)
      have hgone := HBo.out.doc.2
      have HM : Aside0 (((doc l).1.map List.length).sum ≤ 100000) := Aside0.mk (by have a1 := doc_olds l l.length (Nat.le_refl _); rw [List.take_length] at a1; have a2 := oldsTo_le l l.length (by omega); omega)
      obtain ⟨⟨all, gone⟩, hst⟩ : ∃ st, st = doc l := ⟨_, rfl⟩
      rw [← hst] at HBo hlen hgone HGA HM
      simp only at hlen hgone
      obtain ⟨m, hm0⟩ : ∃ m, m = oldsTo l l.length := ⟨_, rfl⟩
      rw [← hm0] at HBo
      clear hst hm0
      have h := HBo.out.doc.2
      obtain ⟨o, ok, hR⟩ := ref_is all gone b n
      have R1 := Aside0.mk hR
      have GO := Aside0.mk (ref_good hR HGA.out)
      clear hR HGA
      go_upto_region 11 with (first | (go_at_call 15; refine (readDoc _ s ob lb m _ HBo.out.doc b n hbw hnw (by show all.length ≤ 100000; omega) R1.out).mono ?_; rintro e wpa ⟨rfl, hd, hB⟩; have Bpa := Aside0.mk (HBo.out.below hB); clear hB HBo ) | ((with_reducible refine gate_dst (N := 10) rfl ?_); refine alloc29 rfl rfl ?_; intro wpb x10 h6 h7 h8; have H5 := Aside0.mk h7; clear h7) | (refine store29 rfl rfl (.tmp 10) (.tmp 47) rfl x10 rfl o hd rfl (M := old0) rfl H5.out ?_; intro wpc h12 h10 h11; have HX10 := Aside0.mk h12; have Bp := Aside0.mk (Bpa.out.below (below_grown (grown_fresh h8) h6 h8.size h10)); clear h12 h10 h11 h8 Bpa H5 ))
      try clear h6
      have hdo := hd
      obtain ⟨A1, c1, hb1, hd1⟩ := Bp.out.ref
      have H45 := Aside0.mk hb1
      have HR2 := Aside0.mk (rread_calls _ A1 c1 all gone (CA_all hd1.1 Bp.out.bel) b n)
      clear hb1 hd1 hd
      go_upto_region 12 with (first | ((with_reducible refine gate_dst (N := 50) rfl ?_); refine wpl_loadAll rfl 45 (.tmp 8) rfl dg rfl H45.out Try.underlying45 rfl (by exact size45) ?_) | (go_at_call 20; refine HR2.out.mono ?_; rintro e wqa ⟨o2, ok2, rfl, hR2, hd, hB⟩; obtain ⟨rfl, rfl⟩ := R1.out.unique hR2; clear hR2; have Bqa := Aside0.mk (Bp.out.below hB); have HX10a := Aside0.mk (OB.below HX10.out hB); clear hB Bp HX10) | ((with_reducible refine gate_dst (N := 12) rfl ?_); refine alloc29 rfl rfl ?_; intro wqb x12 h6 h7 h8; have H5 := Aside0.mk h7; have HX10b := Aside0.mk (HX10a.out.grown h8 (by simp)); clear h7) | (refine store29 rfl rfl (.tmp 12) (.tmp 54) rfl x12 rfl o hd rfl (M := old0) rfl H5.out ?_; intro wqc h12 h10 h11; have HX12 := Aside0.mk h12; have Bq := Aside0.mk (Bqa.out.below (below_grown (grown_fresh h8) h6 h8.size h10)); have HX10c := Aside0.mk (HX10b.out.grown h10 (by have := Blk.lt HX10a.out; simp; omega)); clear h12 h10 h11 h8 Bqa H5 HX10a HX10b))
      try clear h6
      obtain ⟨A2, c2, hb2, hd2⟩ := Bq.out.ref
      have H46 := Aside0.mk hb2
      have H47 := Aside0.mk hd2
      clear hb2 hd2 HR2 H45
      refine wp_region_held_drew (S := (fun w' => (OB w' x10 o ∧ OB w' x12 o) ∧ (DocAt w' s ob lb (all, gone) m ∧ Blk w' dg 45 (docV A2 all.length c2 gone)) ∧ DocC W T w' A2 all ∧ Below W.heap.size W w')) (by kernel_rfl) (by exact ⟨⟨HX10c.out.drew, HX12.out.drew⟩, ⟨Bq.out.doc.drew, H46.out.drew⟩, H47.out.below (below_drew (Below.refl _ _)), pw_below_drewN Bq.out.bel 1⟩) (fun hHeld => ?_)
      refine wpAnyH_tk (i := 0) (v := _) 56 rfl rfl (by kernel_rfl) (by kernel_rfl) (by kernel_rfl) (fun _ _ _ h => h) (yields_load (by rfl) 29 (.tmp 10) rfl x10 rfl (fun w h => h.1.1) Try.underlying29 rfl (by rw [oldC_len _ hdo]; exact size29)) hHeld ?_
      (try simp only [Act.put, List.setIfInBounds_toArray, List.set_cons_zero, List.set_cons_succ])
      refine wpAnyH_tk (i := 1) (v := _) 57 rfl rfl (by kernel_rfl) (by kernel_rfl) (by kernel_rfl) (fun _ _ _ h => h) (yields_load (by rfl) 29 (.tmp 12) rfl x12 rfl (fun w h => h.1.2) Try.underlying29 rfl (by rw [oldC_len _ hdo]; exact size29)) hHeld ?_
      (try simp only [Act.put, List.setIfInBounds_toArray, List.set_cons_zero, List.set_cons_succ])
      refine wpAnyH_tk (i := 2) (v := _) 58 rfl rfl (by kernel_rfl) (by kernel_rfl) (by kernel_rfl) (fun _ _ _ h => h) (yields_eql (by rfl) 29 29 (.tmp 56) (.tmp 57) rfl (oldC o) (oldC o) rfl rfl true (fun w => eq29 hdo GO.out w) eqg29 rfl) hHeld ?_
      (try simp only [Act.put, List.setIfInBounds_toArray, List.set_cons_zero, List.set_cons_succ])
      refine wpAnyH_tk (i := 3) (v := ?vz3) 59 rfl rfl (by kernel_rfl) (by kernel_rfl) (by kernel_rfl) (fun _ _ _ h => h) (Or.inl ⟨by rfl, ?yz3⟩) hHeld ?rz3
      case yz3 => (intro w hSw; go_simp; try with_reducible rfl)
      (try simp only [Act.put, List.setIfInBounds_toArray, List.set_cons_zero, List.set_cons_succ])
      refine wpAnyH_tk (i := 4) (v := ?vz4) 60 rfl rfl (by kernel_rfl) (by kernel_rfl) (by kernel_rfl) (fun _ _ _ h => h) (Or.inl ⟨by rfl, ?yz4⟩) hHeld ?rz4
      case yz4 => (intro w hSw; go_simp; try with_reducible rfl)
      (try simp only [Act.put, List.setIfInBounds_toArray, List.set_cons_zero, List.set_cons_succ])
      refine wpAnyH_tk (i := 5) (v := ?vz5) 61 rfl rfl (by kernel_rfl) (by kernel_rfl) (by kernel_rfl) (fun _ _ _ h => h) (Or.inl ⟨by rfl, ?yz5⟩) hHeld ?rz5
      case yz5 => (intro w hSw; go_simp; try with_reducible rfl)
      (try simp only [Act.put, List.setIfInBounds_toArray, List.set_cons_zero, List.set_cons_succ])
      refine wpAnyH_tk (i := 6) (v := _) 62 rfl rfl (by kernel_rfl) (by kernel_rfl) (by kernel_rfl) (fun _ _ _ h => h) (show YieldsIf Try.prog _ _ _ (.bool true) _ from Or.inl ⟨(by rfl), fun w hSw => by go_simp; try (with_reducible rfl)⟩) hHeld ?_
      (try simp only [Act.put, List.setIfInBounds_toArray, List.set_cons_zero, List.set_cons_succ])
      refine wpAnyH_tk (i := 7) (v := ?vz6) 63 rfl rfl (by kernel_rfl) (by kernel_rfl) (by kernel_rfl) (fun _ _ _ h => h) (Or.inl ⟨by rfl, ?yz6⟩) hHeld ?rz6
      case yz6 => (intro w hSw; go_simp; try with_reducible rfl)
      (try simp only [Act.put, List.setIfInBounds_toArray, List.set_cons_zero, List.set_cons_succ])
      refine wpAnyH_tk (i := 8) (v := ?vz7) 64 rfl rfl (by kernel_rfl) (by kernel_rfl) (by kernel_rfl) (fun _ _ _ h => h) (Or.inl ⟨by rfl, ?yz7⟩) hHeld ?rz7
      case yz7 => (intro w hSw; go_simp; try with_reducible rfl)
      (try simp only [Act.put, List.setIfInBounds_toArray, List.set_cons_zero, List.set_cons_succ])
      refine wpAnyH_tk (i := 9) (v := ?vz8) 65 rfl rfl (by kernel_rfl) (by kernel_rfl) (by kernel_rfl) (fun _ _ _ h => h) (Or.inl ⟨by rfl, ?yz8⟩) hHeld ?rz8
      case yz8 => (intro w hSw; go_simp; try with_reducible rfl)
      (try simp only [Act.put, List.setIfInBounds_toArray, List.set_cons_zero, List.set_cons_succ])
      refine wpAnyH_tk (i := 11) (v := ?vz9) 67 rfl rfl (by kernel_rfl) (by kernel_rfl) (by kernel_rfl) (fun _ _ _ h => h) (Or.inl ⟨by rfl, ?yz9⟩) hHeld ?rz9
      case yz9 => (intro w hSw; go_simp; try with_reducible rfl)
      (try simp only [Act.put, List.setIfInBounds_toArray, List.set_cons_zero, List.set_cons_succ])
      refine wpAnyH_tk (i := 12) (v := _) 68 rfl rfl (by kernel_rfl) (by kernel_rfl) (by kernel_rfl) (fun _ _ _ h => h) (yields_cell (by rfl) 43 (.tmp 67) rfl ⟨dg, 0, none⟩ rfl (v := .slice A2 all.length c2) (fun w h => h.2.1.2.cell rfl) Try.underlying43 rfl) hHeld ?_
      (try simp only [Act.put, List.setIfInBounds_toArray, List.set_cons_zero, List.set_cons_succ])
      refine wpAnyH_tk (i := 13) (v := ?vz10) 69 rfl rfl (by kernel_rfl) (by kernel_rfl) (by kernel_rfl) (fun _ _ _ h => h) (Or.inl ⟨by rfl, ?yz10⟩) hHeld ?rz10
      case yz10 => (intro w hSw; go_simp; try with_reducible rfl)
      (try simp only [Act.put, List.setIfInBounds_toArray, List.set_cons_zero, List.set_cons_succ])
      refine wpAnyH_one (i := 10) (by kernel_rfl) rfl (fun K hK => ?_)
      go_simp
      go_wp2_with ((go_at_call 16; refine (nowDoc _ s ob lb m _ hHeld.2.1.1).mono ?_; rintro e w5 ⟨rfl, hw⟩; subst hw))
      refine hK.out _ _ (by exact hHeld) (fun hHeld => ?_)
      clear hK K
      refine wpAnyH_tk (i := 14) (v := _) 70 rfl rfl (by kernel_rfl) (by kernel_rfl) (by kernel_rfl) (fun _ _ _ h => h) (show YieldsIf Try.prog _ _ _ (.bool true) _ from Or.inl ⟨(by rfl), fun w hSw => by go_simp; try (with_reducible rfl)⟩) hHeld ?_
      (try simp only [Act.put, List.setIfInBounds_toArray, List.set_cons_zero, List.set_cons_succ])
      refine wpAnyH_tk (i := 15) (v := ?vz11) 71 rfl rfl (by kernel_rfl) (by kernel_rfl) (by kernel_rfl) (fun _ _ _ h => h) (Or.inl ⟨by rfl, ?yz11⟩) hHeld ?rz11
      case yz11 => (intro w hSw; go_simp; try with_reducible rfl)
      (try simp only [Act.put, List.setIfInBounds_toArray, List.set_cons_zero, List.set_cons_succ])
      refine wpAnyH_tk (i := 16) (v := ?vz12) 72 rfl rfl (by kernel_rfl) (by kernel_rfl) (by kernel_rfl) (fun _ _ _ h => h) (Or.inl ⟨by rfl, ?yz12⟩) hHeld ?rz12
      case yz12 => (intro w hSw; go_simp; try with_reducible rfl)
      (try simp only [Act.put, List.setIfInBounds_toArray, List.set_cons_zero, List.set_cons_succ])
      refine wpAnyH_tk (i := 17) (v := ?vz13) 73 rfl rfl (by kernel_rfl) (by kernel_rfl) (by kernel_rfl) (fun _ _ _ h => h) (Or.inl ⟨by rfl, ?yz13⟩) hHeld ?rz13
      case yz13 => (intro w hSw; go_simp; try with_reducible rfl)
      (try simp only [Act.put, List.setIfInBounds_toArray, List.set_cons_zero, List.set_cons_succ])
      refine wpAnyH_tk (i := 18) (v := ?vz14) 74 rfl rfl (by kernel_rfl) (by kernel_rfl) (by kernel_rfl) (fun _ _ _ h => h) (Or.inl ⟨by rfl, ?yz14⟩) hHeld ?rz14
      case yz14 => (intro w hSw; go_simp; try with_reducible rfl)
      (try simp only [Act.put, List.setIfInBounds_toArray, List.set_cons_zero, List.set_cons_succ])
      refine wpAnyH_tk (i := 20) (v := _) 76 rfl rfl (by kernel_rfl) (by kernel_rfl) (by kernel_rfl) (fun _ _ _ h => h) (yields_load (by rfl) 45 (.tmp 8) rfl dg rfl (fun w h => h.2.1.2) Try.underlying45 rfl (by exact size45)) hHeld ?_
      (try simp only [Act.put, List.setIfInBounds_toArray, List.set_cons_zero, List.set_cons_succ])
      refine wpAnyH_tk (i := 21) (v := ?vz15) 77 rfl rfl (by kernel_rfl) (by kernel_rfl) (by kernel_rfl) (fun _ _ _ h => h) (Or.inl ⟨by rfl, ?yz15⟩) hHeld ?rz15
      case yz15 => (intro w hSw; go_simp; try with_reducible rfl)
      (try simp only [Act.put, List.setIfInBounds_toArray, List.set_cons_zero, List.set_cons_succ])
      refine wpAnyH_one (i := 19) (by kernel_rfl) rfl (fun K hK => ?_)
      go_simp
      go_wp2_with ((go_at_call 21; refine (lastDoc _ s ob lb m _ hHeld.2.1.1 b hbw).mono ?_; rintro e w6 ⟨rfl, hw⟩; subst hw))
      refine hK.out _ _ (by exact hHeld) (fun hHeld => ?_)
      clear hK K
      refine wpAnyH_one (i := 22) (by kernel_rfl) rfl (fun K hK => ?_)
      go_simp
      go_wp2_with ((go_at_call 22; refine (rlast_calls _ A2 c2 all gone (CA_all hHeld.2.2.1.1 hHeld.2.2.2) b).mono ?_; rintro e w7 ⟨rfl, hb⟩))
      refine hK.out _ _ (by exact ⟨⟨OB.below hHeld.1.1 hb, OB.below hHeld.1.2 hb⟩, ⟨hHeld.2.1.1.below' hb, blk_below hHeld.2.1.2 hb⟩, hHeld.2.2.1.below hb, step_bel hHeld.2.2.2 hb⟩) (fun hHeld => ?_)
      clear hK K
      refine wpAnyH_tk (i := 23) (v := _) 79 rfl rfl (by kernel_rfl) (by kernel_rfl) (by kernel_rfl) (fun _ _ _ h => h) (show YieldsIf Try.prog _ _ _ (.bool true) _ from Or.inl ⟨(by rfl), fun w hSw => by go_simp; try (with_reducible rfl)⟩) hHeld ?_
      (try simp only [Act.put, List.setIfInBounds_toArray, List.set_cons_zero, List.set_cons_succ])
      refine wpAnyH_tk (i := 24) (v := ?vz16) 80 rfl rfl (by kernel_rfl) (by kernel_rfl) (by kernel_rfl) (fun _ _ _ h => h) (Or.inl ⟨by rfl, ?yz16⟩) hHeld ?rz16
      case yz16 => (intro w hSw; go_simp; try with_reducible rfl)
      (try simp only [Act.put, List.setIfInBounds_toArray, List.set_cons_zero, List.set_cons_succ])
      refine wpAnyH_tk (i := 25) (v := ?vz17) 81 rfl rfl (by kernel_rfl) (by kernel_rfl) (by kernel_rfl) (fun _ _ _ h => h) (Or.inl ⟨by rfl, ?yz17⟩) hHeld ?rz17
      case yz17 => (intro w hSw; go_simp; try with_reducible rfl)
      (try simp only [Act.put, List.setIfInBounds_toArray, List.set_cons_zero, List.set_cons_succ])
      refine wpAnyH_tk (i := 26) (v := ?vz18) 82 rfl rfl (by kernel_rfl) (by kernel_rfl) (by kernel_rfl) (fun _ _ _ h => h) (Or.inl ⟨by rfl, ?yz18⟩) hHeld ?rz18
      case yz18 => (intro w hSw; go_simp; try with_reducible rfl)
      (try simp only [Act.put, List.setIfInBounds_toArray, List.set_cons_zero, List.set_cons_succ])
      refine wpAnyH_tk (i := 28) (v := _) 84 rfl rfl (by kernel_rfl) (by kernel_rfl) (by kernel_rfl) (fun _ _ _ h => h) (yields_load (by rfl) 45 (.tmp 8) rfl dg rfl (fun w h => h.2.1.2) Try.underlying45 rfl (by exact size45)) hHeld ?_
      (try simp only [Act.put, List.setIfInBounds_toArray, List.set_cons_zero, List.set_cons_succ])
      refine wpAnyH_one (i := 27) (by kernel_rfl) rfl (fun K hK => ?_)
      go_simp
      go_wp2_with ((go_at_call 23; refine (sizeDoc _ s ob lb m _ hHeld.2.1.1).mono ?_; rintro e w8 ⟨rfl, hw⟩; subst hw))
      refine hK.out _ _ (by exact hHeld) (fun hHeld => ?_)
      clear hK K
      refine wpAnyH_one (i := 29) (by kernel_rfl) rfl (fun K hK => ?_)
      go_simp
      go_wp2_with ((go_at_call 24; refine (rsize_calls _ A2 c2 all gone (CA_all hHeld.2.2.1.1 hHeld.2.2.2) hgone (Nat.le_trans (canon_le all gone) HM.out)).mono ?_; rintro e w9 ⟨rfl, hb⟩))
      refine hK.out _ _ (by exact ⟨⟨OB.below hHeld.1.1 hb, OB.below hHeld.1.2 hb⟩, ⟨hHeld.2.1.1.below' hb, blk_below hHeld.2.1.2 hb⟩, hHeld.2.2.1.below hb, step_bel hHeld.2.2.2 hb⟩) (fun hHeld => ?_)
      clear hK K
      refine wpAnyH_tk (i := 30) (v := _) 86 rfl rfl (by kernel_rfl) (by kernel_rfl) (by kernel_rfl) (fun _ _ _ h => h) (show YieldsIf Try.prog _ _ _ (.bool true) _ from Or.inl ⟨(by rfl), fun w hSw => by go_simp; try (with_reducible rfl)⟩) hHeld ?_
      (try simp only [Act.put, List.setIfInBounds_toArray, List.set_cons_zero, List.set_cons_succ])
      refine wpAnyH_tk (i := 31) (v := ?vz19) 87 rfl rfl (by kernel_rfl) (by kernel_rfl) (by kernel_rfl) (fun _ _ _ h => h) (Or.inl ⟨by rfl, ?yz19⟩) hHeld ?rz19
      case yz19 => (intro w hSw; go_simp; try with_reducible rfl)
      (try simp only [Act.put, List.setIfInBounds_toArray, List.set_cons_zero, List.set_cons_succ])
      refine wpAnyH_tk (i := 32) (v := ?vz20) 6 rfl rfl (by kernel_rfl) (by kernel_rfl) (by kernel_rfl) (fun _ _ _ h => h) (Or.inl ⟨by rfl, ?yz20⟩) hHeld ?rz20
      case yz20 => (intro w hSw; go_simp; try with_reducible rfl)
      (try simp only [Act.put, List.setIfInBounds_toArray, List.set_cons_zero, List.set_cons_succ])
      refine wpAnyH_done (by kernel_rfl) ?_ _
      (have HF := Aside0.mk hHeld.2.2.2; clear hHeld; go_wp2_with fail; go_ret; exact ⟨rfl, HF.out⟩)
end Go.Proofs.Ytipbgldfomejpaa.Snap
