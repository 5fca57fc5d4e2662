/- The walk of layer 17's statement SnapForgets. -/
import Derived.Test.YtipbgldfomejpaaSnapEq
namespace Go.Proofs.Ytipbgldfomejpaa.Snap
set_option linter.unusedSimpArgs false
set_option linter.unusedVariables false
open Go.RowKit Go.Proofs.YtipbgldfomejpaaW.PrintWords Go.Proofs.YtipbgldfomejpaaW.PrintLast Go.Proofs.YtipbgldfomejpaaW.PrintMore Arr

set_option maxRecDepth 10000 in
set_option maxHeartbeats 8000000 in
theorem forgets_walk (W : World) (A : Option Addr) (c : Nat) (l : List Act) (hlc : l.length ≤ c) (hC : Kd.C k48 W A l.length l) (hG : gActs l) (n : Int) (hnw : (Lit.int .i64 n).wf = true) (b : Int) (hbw : (Lit.int .i64 b).wf = true) (more : Int) (hmw : (Lit.int .u8 more).wf = true) : Calls Try.prog 6 #[.slice A l.length c, .int .i64 n, .int .i64 b, .int .u8 more] W (Holds W) := by
  have HC := Aside0.mk hC
  have HG := Aside0.mk hG
  have hm := Kd.C_max hC
  clear hC hG
  have hmb := bounds_u8 hmw
  go_enter Try.func6, Try.ntmps6
  go_wp2_with fail
  refine (awake_calls _).mono ?_
  rintro e w1 ⟨rfl, hb⟩
  have H1 := Aside0.mk hb
  clear hb
  have HF := Aside0.mk (few_calls w1 A c l (Kd.C_below HC.out H1.out) HG.out)
  go_wp2_with fail
  refine HF.out.mono ?_
  rintro e w2 ⟨rfl, hw⟩
  subst hw
  clear HF
  by_cases hf : tot l l.length ≤ 200
  case neg =>
    have hd : decide (tot l l.length ≤ 200) = false := by simp; omega
    rw [hd]
    go_wp2_with fail
    refine (awake_calls _).mono ?_
    rintro e w9 ⟨rfl, hb⟩
    have H9 := Aside0.mk (step_bel H1.out hb)
    clear hb
    go_wp2_with fail
    go_ret
    exact ⟨rfl, H9.out⟩
  have hd : decide (tot l l.length ≤ 200) = true := by simp; exact hf
  rw [hd]
  clear hd
  by_cases q1 : n < 0
  case pos =>
    have hd : decide (n < 0) = true := by simp; omega
    go_wp2_with fail
    refine (awake_calls _).mono ?_
    rintro e w9 ⟨rfl, hb⟩
    have H9 := Aside0.mk (step_bel H1.out hb)
    clear hb
    go_wp2_with fail
    go_ret
    exact ⟨rfl, H9.out⟩
  have d1 : decide (n < 0) = false := by simp; omega
  by_cases q2 : 1000 < n
  case pos =>
    have hd : decide (1000 < n) = true := by simp; omega
    go_wp2_with fail
    refine (awake_calls _).mono ?_
    rintro e w9 ⟨rfl, hb⟩
    have H9 := Aside0.mk (step_bel H1.out hb)
    clear hb
    go_wp2_with fail
    go_ret
    exact ⟨rfl, H9.out⟩
  have d2 : decide (1000 < n) = false := by simp; omega
  go_wp2_with (first | (go_at_call 13; refine (newDoc _).mono ?_; rintro e w3 ⟨s, ob, lb, rfl, hD, hs1, hs2, hs3, hB1⟩; have HD := Aside0.mk hD; have HB := Aside0.mk (step_bel H1.out hB1); have h1 := Nat.le_trans H1.out.size hs1; have h2 := Nat.le_trans H1.out.size hs2; have h3 := Nat.le_trans H1.out.size hs3; clear hD hB1 hs1 hs2 hs3 H1))
  go_loopw [10] (fun i wr => ∃ k : Nat, k ≤ l.length ∧ i = .int .i64 k ∧ Aside0 (DocAt wr s ob lb (doc (l.take k)) (oldsTo l k)) ∧ Aside0 (Below W.heap.size W wr)) (fun i _ => l.length - (intOf i).toNat)
  case atStart => exact ⟨0, by omega, rfl, HD, HB⟩
  case round =>
    clear HD HB
    obtain ⟨k, hk, rfl, HD, HB⟩ := hrel
    by_cases hlt : k < l.length
    · have hd : decide ((k : Int) < l.length) = true := by simp; omega
      obtain ⟨ad, Ao, co, hA, hcx, hcalls⟩ := act_calls HC.out HG.out HB.out h1 h2 h3 HD.out hlt hf
      subst hA
      have HCX := Aside0.mk hcx
      have HCA := Aside0.mk hcalls
      clear hcx hcalls
      go_wp2_with (first | ((with_reducible refine gate_dst (N := 45) rfl ?_); refine load48 rfl (.tmp 44) rfl (ad.add (k * 3)) rfl (ac l k) Ao co HCX.out ?_) | (go_at_call 18; refine HCA.out.mono ?_; rintro e w4 ⟨rfl, hD4, hB4⟩; have HD4 := Aside0.mk hD4; have HB4 := Aside0.mk hB4; clear hD4 hB4))
      go_roundw
      case rel => exact ⟨k + 1, by omega, by go_num, HD4, HB4⟩
      case measure => simp [intOf]; omega
    · obtain rfl : k = l.length := by omega
      have hd : decide ((l.length : Int) < l.length) = false := by simp
      rw [List.take_length] at HD
      have hlen : (doc l).1.length ≤ 200 := by have a1 := doTo_len l l.length (Nat.le_refl _); rw [List.take_length] at a1; have a2 := oldsTo_le l 0 (by omega); unfold doc doc0; omega
      have HGA : Aside0 (gAll (doc l).1) := Aside0.mk (by have a1 := doc_good l HG.out.2 l.length (Nat.le_refl _); rwa [List.take_length] at a1)
      have hgone := HD.out.2
      obtain ⟨⟨all, gone⟩, hst⟩ : ∃ st, st = doc l := ⟨_, rfl⟩
      rw [← hst] at HD hlen hgone HGA
      simp only at hlen hgone
      obtain ⟨m, hm0⟩ : ∃ m, m = oldsTo l l.length := ⟨_, rfl⟩
      rw [← hm0] at HD
      clear hst hm0
      obtain ⟨o, ok, hR⟩ := ref_is all gone b (n + more % 5)
      have R1 := Aside0.mk hR
      have GO := Aside0.mk (ref_good hR HGA.out)
      have R2 := Aside0.mk (ref_forget (g' := goneTo (all, gone) n) hR (fun i hi hn => by unfold goneTo; simp only; omega))
      have CL := Aside0.mk (canon_mono all (g := gone) (g' := goneTo (all, gone) n) (by unfold goneTo; simp only; omega))
      have htw : (Lit.int .i64 (n + more % 5)).wf = true := wf_i64 (by omega)
      clear hR HGA
      go_upto_region 9 with (fail)
      go_upto_region 10 with (first | (go_at_call 15; refine (readDoc _ s ob lb m _ HD.out b (n + more % 5) hbw htw (by show all.length ≤ 100000; omega) R1.out).mono ?_; rintro e wpa ⟨rfl, hd, hB⟩; have Dpa := Aside0.mk (HD.out.below' hB); have Bpa := Aside0.mk (step_bel HB.out hB); clear hB HD HB ) | ((with_reducible refine gate_dst (N := 12) rfl ?_); refine alloc29 rfl rfl ?_; intro wpb x12 h6 h7 h8; have H5 := Aside0.mk h7; have Dpb := Aside0.mk (Dpa.out.fresh h8); have Bpb := Aside0.mk (step_bel Bpa.out (grown_fresh h8)); have h9 := Nat.le_trans Bpa.out.size h6; clear h7 h8 Dpa Bpa) | (refine store29 rfl rfl (.tmp 12) (.tmp 57) rfl x12 rfl o hd rfl (M := old0) rfl H5.out ?_; intro wpc h12 h10 h11; have HX12 := Aside0.mk h12; have Dp := Aside0.mk (Dpb.out.store H5.out h10 rfl); have Bp := Aside0.mk (below_grown Bpb.out h9 Bpb.out.size h10); clear h12 h10 h11 Dpb Bpb H5 ))
      try clear h6
      try clear h9
      have hdo := hd
      go_upto_region 11 with (first | (go_at_call 21; refine (lastDoc _ s ob lb m _ Dp.out b hbw).mono ?_; rintro e w5 ⟨rfl, hw⟩; subst hw))
      go_upto_region 12 with (first | (go_at_call 23; refine (sizeDoc _ s ob lb m _ Dp.out).mono ?_; rintro e w5 ⟨rfl, hw⟩; subst hw))
      go_upto_region 13 with (first | (go_at_call 25; refine (forgetDoc _ s ob lb m _ Dp.out n).mono ?_; rintro e w8 ⟨rfl, hD, hM⟩; have D8 := Aside0.mk hD; have HX8 := Aside0.mk (Dp.out.moves HX12.out hM); have B8 := Aside0.mk (hM.below _ W Bp.out Bp.out.size h1 h2 h3); clear hD hM Dp Bp HX12))
      obtain ⟨g', hg'⟩ : ∃ g', g' = goneTo (all, gone) n := ⟨_, rfl⟩
      rw [← hg'] at D8 R2 CL
      clear hg' hd
      go_upto_region 14 with (first | (go_at_call 15; refine (readDoc _ s ob lb m _ D8.out b (n + more % 5) hbw htw (by show all.length ≤ 100000; omega) R2.out).mono ?_; rintro e wqa ⟨rfl, hd, hB⟩; have Dqa := Aside0.mk (D8.out.below' hB); have Bqa := Aside0.mk (step_bel B8.out hB); have HX8a := Aside0.mk (OB.below HX8.out hB); clear hB D8 B8 HX8) | ((with_reducible refine gate_dst (N := 16) rfl ?_); refine alloc29 rfl rfl ?_; intro wqb x16 h6 h7 h8; have H5 := Aside0.mk h7; have Dqb := Aside0.mk (Dqa.out.fresh h8); have Bqb := Aside0.mk (step_bel Bqa.out (grown_fresh h8)); have h9 := Nat.le_trans Bqa.out.size h6; have HX8b := Aside0.mk (HX8a.out.grown h8 (by simp)); clear h7 h8 Dqa Bqa) | (refine store29 rfl rfl (.tmp 16) (.tmp 72) rfl x16 rfl o hd rfl (M := old0) rfl H5.out ?_; intro wqc h12 h10 h11; have HX16 := Aside0.mk h12; have Dq := Aside0.mk (Dqb.out.store H5.out h10 rfl); have Bq := Aside0.mk (below_grown Bqb.out h9 Bqb.out.size h10); have HX8c := Aside0.mk (HX8b.out.grown h10 (by have := Blk.lt HX8a.out; simp; omega)); clear h12 h10 h11 Dqb Bqb H5 HX8a HX8b))
      try clear h6
      try clear h9
      go_wp2_with (first | ((with_reducible refine gate_dst (N := 74) rfl ?_); refine loadB29 rfl (.tmp 12) rfl x12 rfl o hdo HX8c.out ?_) | ((with_reducible refine gate_dst (N := 75) rfl ?_); refine loadB29 rfl (.tmp 16) rfl x16 rfl o hdo HX16.out ?_) | ((with_reducible refine gate_dst (N := 76) rfl ?_); refine wpl_eql rfl 29 29 (.tmp 74) (.tmp 75) rfl (oldC o) (oldC o) rfl rfl true (fun w => eq29 hdo GO.out w) eqg29 rfl ?_) | (go_at_call 23; refine (sizeDoc _ s ob lb m _ Dq.out).mono ?_; rintro e w6 ⟨rfl, hw⟩; subst hw) | (go_at_call 21; refine (lastDoc _ s ob lb m _ Dq.out b hbw).mono ?_; rintro e w6 ⟨rfl, hw⟩; subst hw))
      go_ret
      exact ⟨by rw [decide_eq_true CL.out]; rfl, Bq.out⟩
end Go.Proofs.Ytipbgldfomejpaa.Snap
