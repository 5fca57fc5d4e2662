/- The walk of layer 15's statement RollWhole. -/
import Derived.Test.YtkkmmbbnaafhlaaRollLaws
namespace Go.Proofs.Ytkkmmbbnaafhlaa.Roll
set_option linter.unusedSimpArgs false
set_option linter.unusedVariables false
open Go.RowKit Go.Proofs.YtkkmmbbnaafhlaaW.PrintWords Go.Proofs.YtkkmmbbnaafhlaaW.PrintLast Go.Proofs.YtkkmmbbnaafhlaaW.PrintMore Arr PRollJoin

theorem gst_pre : ∀ (l : List Found) (s : List S28 × List S44), s.1 <+: (l.foldl gstep s).1
  | [], s => List.prefix_refl _
  | f :: l, s => by
    have h1 : s.1 <+: (gstep s f).1 := by
      unfold gstep
      split
      · split
        · exact List.prefix_append _ _
        · exact List.prefix_refl _
      · exact List.prefix_refl _
    exact h1.trans (gst_pre l (gstep s f))
theorem groups_pre (l : List Found) (k : Nat) : groups (l.take k) <+: groups l := by
  have h := gst_pre (l.drop k) (gst (l.take k))
  have e : (l.drop k).foldl gstep (gst (l.take k)) = gst l := by
    unfold gst
    rw [← List.foldl_append, List.take_append_drop]
  rw [e] at h
  exact h
theorem groups_take (l : List Found) (k : Nat) : (groups l).take (groups (l.take k)).length = groups (l.take k) := (List.prefix_iff_eq_take.1 (groups_pre l k)).symm
theorem groups_len (l : List Found) (k : Nat) : (groups (l.take k)).length ≤ (groups l).length := (groups_pre l k).length_le
theorem groups_le (l : List Found) : (groups l).length ≤ l.length := by
  have := (gst_le l l.length).1
  rwa [List.take_length] at this
theorem groups_more (l : List Found) (k : Nat) (h : k < l.length) (h3 : (fd l k).rc.kind ≠ 3) : (groups (l.take (k + 1))).length = (groups (l.take k)).length := by
  unfold groups
  rw [gst_succ l k h]
  unfold gstep
  rw [if_neg h3]
theorem cutTo33 (A : Option Addr) (n c j : Nat) (hm : j ≤ n) (hc : n ≤ c) (W : World) : (Instr.slice 33 (.slice A n c) none (some (.int .i64 (j : Int))) none).run Try.prog W = .ok (.slice A j c) W := by
  obtain ⟨i, hi, _⟩ := Option.map_eq_some_iff.1 size41
  exact cut_to 33 41 .i64 Try.underlying33 hi A n c (j : Int) (by omega) (by omega) hc W
theorem cutTo23 (A : Option Addr) (n c j : Nat) (hm : j ≤ n) (hc : n ≤ c) (W : World) : (Instr.slice 23 (.slice A n c) none (some (.int .i64 (j : Int))) none).run Try.prog W = .ok (.slice A j c) W := by
  obtain ⟨i, hi, _⟩ := Option.map_eq_some_iff.1 info28
  exact cut_to 23 28 .i64 Try.underlying23 hi A n c (j : Int) (by omega) (by omega) hc W
theorem cutOne23 (A : Option Addr) (n c j : Nat) (hm : j + 1 ≤ n) (hc : n ≤ c) : ∃ A', (∀ W : World, (Instr.slice 23 (.slice A n c) (some (.int .i64 (j : Int))) (some (.int .i64 ((j : Int) + 1))) none).run Try.prog W = .ok (.slice A' 1 (c - j)) W) ∧
    ∀ (w : World) (gs : List S28), gs.length = n → k28.C w A n gs → k28.C w A' 1 ((gs.take (j + 1)).drop j) := by
  obtain ⟨i, hi, hz⟩ := Option.map_eq_some_iff.1 info28
  simp only [Prod.mk.injEq] at hz
  have hsz : i.size = 3 := hz.2.1
  refine ⟨if c = j then A else A.map (·.add (j * 3)), fun W => ?_, fun w gs hl hC => ?_⟩
  · have := cut_mid 23 28 .i64 .i64 Try.underlying23 hi 3 hsz A n c (j : Int) ((j : Int) + 1) (by omega) (by omega) (by omega) hc W
    rw [this]
    have e1 : ((j : Int) + 1).toNat - ((j : Int)).toNat = 1 := by omega
    rw [e1, Int.toNat_natCast]
  · subst hl
    have := Kd.C_mid (k := k28) (lo := j) (hi := j + 1) hC (by omega) hm hc
    have e : ((gs.take (j + 1)).drop j).length = 1 := by rw [List.length_drop, List.length_take]; omega
    rw [e] at this
    exact this
theorem take_drop28 (gs : List S28) (i : Nat) (h : i < gs.length) : (gs.take (i + 1)).drop i = [rd_T28 gs (i : Int)] := by
  rw [take_rd28 gs i h, List.drop_append_of_le_length (by rw [List.length_take]; omega), List.drop_of_length_le (by rw [List.length_take]; omega)]
  rfl
theorem doAll_one (p : List Int) (gs : List S28) (i : Nat) (h : i < gs.length) : doAll (doAll p (gs.take i)) ((gs.take (i + 1)).drop i) = doAll p (gs.take (i + 1)) := by
  rw [take_drop28 gs i h, doAll_succ p gs i h]
  rfl
set_option maxRecDepth 10000 in
set_option maxHeartbeats 8000000 in
theorem rollwhole_walk (W : World) (A : Option Addr) (c : Nat) (l : List Found) (hlc : l.length ≤ c) (hC : k41.C W A l.length l) (hG : ∀ x ∈ l, gFound x) (cut : Int) (hcut : (Lit.int .u8 cut).wf = true) (A1 : Option Addr) (c1 : Nat) (p : List Int) (hpc : p.length ≤ c1) (hC1 : (Kd.int .i64).C W A1 p.length p) (hG1 : ∀ x ∈ p, (Lit.int .i64 x).wf = true) :
    Calls Try.prog 4 #[.slice A l.length c, .int .u8 cut, .slice A1 p.length c1] W (Holds W) := by
  have HC := Aside0.mk hC
  have HC1 := Aside0.mk hC1
  obtain ⟨hcu0, hcu1⟩ := bounds_u8 hcut
  obtain ⟨cu, rfl⟩ : ∃ n : Nat, cut = n := ⟨cut.toNat, by omega⟩
  clear hC hC1 hG hG1 hcut
  go_enter Try.func4, Try.ntmps4
  go_wp2_with fail
  refine (awake_calls _).mono ?_
  rintro e w1 ⟨rfl, hb⟩
  have H1 := Aside0.mk hb
  clear hb
  by_cases hbig : 100 < l.length ∨ 100 < p.length
  · by_cases hlen : 100 < l.length
    · have hd : decide (100 < (l.length : Int)) = true := by simp; omega
      go_wp2_with fail
      refine (awake_calls _).mono ?_
      rintro e w2 ⟨rfl, hb⟩
      have H2 := Aside0.mk (step_bel H1.out hb)
      clear hb
      go_wp2_with fail
      go_ret
      exact ⟨rfl, H2.out⟩
    · have hd : decide (100 < (l.length : Int)) = false := by simp; omega
      have hd2 : decide (100 < (p.length : Int)) = true := by simp; omega
      go_wp2_with fail
      refine (awake_calls _).mono ?_
      rintro e w2 ⟨rfl, hb⟩
      have H2 := Aside0.mk (step_bel H1.out hb)
      clear hb
      go_wp2_with fail
      go_ret
      exact ⟨rfl, H2.out⟩
  · have hd : decide (100 < (l.length : Int)) = false := by simp; omega
    have hd2 : decide (100 < (p.length : Int)) = false := by simp; omega
    have hll : l.length ≤ 100 := by omega
    have hpl : p.length ≤ 100 := by omega
    clear hbig
    obtain ⟨k, hk⟩ : ∃ k, k = cu % (l.length + 1) := ⟨_, rfl⟩
    have hkl : k ≤ l.length := by rw [hk]; have := Nat.mod_lt cu (show 0 < l.length + 1 by omega); omega
    have HK := Aside0.mk (show ((cu : Int) % ((l.length : Int) + 1)) = (k : Int) by rw [hk]; rfl)
    clear hk
    go_wp2_with fail
    rw [HK.out]
    have HF1 := Aside0.mk (groups_take l k)
    have hlen1 := groups_len l k
    have hgl := groups_le l
    have HF2 := Aside0.mk (groups_more l k)
    have HC41 := Aside0.mk (fun (h : k < l.length) => at41 HC.out k h)
    refine (groups_calls _ A c l (Kd.C_below HC.out H1.out) (by omega)).mono ?_
    rintro e w2 ⟨va, gs, rfl, hgs, hR, _, hb⟩
    have H2 := Aside0.mk (step_bel H1.out hb)
    obtain ⟨Aa, ca, rfl, hca, hCa0⟩ := Kd.R_reads hR
    have hCa := C_untag hCa0
    rw [← List.length_map (f := Prod.fst), hgs] at hca hCa ⊢
    obtain ⟨G, hG⟩ : ∃ G, G = groups l := ⟨_, rfl⟩
    rw [← hG] at hca hCa HF1 hlen1 hgl ⊢
    clear hb hCa0 hR hG hgs H1
    obtain ⟨m, hm⟩ : ∃ m, m = G.length := ⟨_, rfl⟩
    rw [← hm] at hca hlen1 hgl hCa ⊢
    have HM := Aside0.mk hm
    have HCa := Aside0.mk hCa
    clear hm hCa
    have hcut1 := cutTo33 A l.length c k hkl hlc
    go_wp2_with fail
    have hCk := Kd.C_take (Kd.C_below HC.out H2.out) hkl
    have hlk : (l.take k).length = k := by rw [List.length_take]; omega
    have HGK := groups_calls _ A c (l.take k) hCk (by omega)
    rw [hlk] at HGK
    refine HGK.mono ?_
    rintro e w3 ⟨vs, gs3, rfl, hgs3, hR3, _, hb⟩
    have H3 := Aside0.mk (step_bel H2.out hb)
    obtain ⟨As, cs, rfl, hcs, hCs0⟩ := Kd.R_reads hR3
    have hCs := C_untag hCs0
    rw [← List.length_map (f := Prod.fst), hgs3] at hcs hCs ⊢
    have HCa3 := Aside0.mk (Kd.C_below HCa.out hb)
    obtain ⟨n, hn⟩ : ∃ n, n = (groups (l.take k)).length := ⟨_, rfl⟩
    have HN := Aside0.mk hn
    rw [← hn] at hcs hCs hlen1 ⊢
    have HSM := Aside0.mk (show Calls Try.prog 20 #[.slice As n cs, .slice Aa n ca] w3 fun e w' => e = .returned (.bool true) ∧ Below w3.heap.size w3 w' by
      rw [hn]
      refine same15_calls w3 As cs Aa ca (groups (l.take k)) (by rw [← hn]; exact hCs) (by omega) ?_ (by omega)
      have := Kd.C_take (xs := G) (by rw [← HM.out]; exact HCa3.out) (m := n) (by rw [← HM.out]; exact hlen1)
      rw [hn, HF1.out] at this
      exact this)
    clear hb hCs0 hCs hR3 hgs3 HCa H2 HGK hlk hCk hn hcut1
    have hd3 : decide (m < n) = false := by simp; omega
    have hd3' : decide ((m : Int) < (n : Int)) = false := by simp; omega
    have hcut2 := cutTo23 Aa m ca n hlen1 hca
    go_wp2_with fail
    refine HSM.out.mono ?_
    rintro e w4 ⟨rfl, hb⟩
    have H4 := Aside0.mk (step_bel H3.out hb)
    have HCa4 := Aside0.mk (Kd.C_below HCa3.out hb)
    clear hb HSM HCa3 H3 hcut2
    by_cases hkk : k < l.length
    · have hd4 : decide ((k : Int) < l.length) = true := by simp; omega
      obtain ⟨ad, rfl, hcx, hxl⟩ := HC41.out hkk
      have hkc : w4.cell? ⟨(ad.add (k * 38)).block, (ad.add (k * 38)).off + 1, none⟩ = some (.int .i64 (fd l k).rc.kind) := by
        have := pw_cell_below H4.out (hcx 1 _ rfl)
        rwa [add_add, add_field _ _ 1 (by omega)] at this
      obtain ⟨xk, hxk⟩ : ∃ xk, xk = (fd l k).rc.kind := ⟨_, rfl⟩
      have HXK := Aside0.mk hxk
      rw [← hxk] at hkc
      clear hcx hxk
      by_cases h3 : xk = 3
      · have e3 : (xk != 3) = false := by simp; omega
        clear h3
        go_wp2_with fail
        go_loopw [10, 11] (fun vp i wr => ∃ j : Nat, j ≤ m ∧ i = .int .i64 j ∧ ∃ Ap cp, vp = .slice Ap p.length cp ∧ Aside0 (p.length ≤ cp ∧ (Kd.int .i64).C wr Ap p.length (doAll p (G.take j))) ∧ Aside0 (Below W.heap.size W wr) ∧ Aside0 (k28.C wr Aa m G)) (fun _ i _ => m - (intOf i).toNat)
        case atStart => exact ⟨0, by omega, rfl, _, _, rfl, ⟨hpc, Kd.C_below HC1.out H4.out⟩, H4, HCa4⟩
        case round =>
          clear H4 HCa4
          obtain ⟨j, hj, rfl, Ap, cp, rfl, HP, HB, HCA⟩ := hrel
          have hpl2 := doAll_len (G.take j) p
          by_cases hlt : j < m
          · have hd5 : decide ((j : Int) < (m : Int)) = true := by simp; omega
            obtain ⟨A', hcut4, hC4⟩ := cutOne23 Aa m ca j (by omega) hca
            have HC4 := Aside0.mk (hC4 wr G HM.out.symm HCA.out)
            have HNX := Aside0.mk (doAll_one p G j (by rw [← HM.out]; exact hlt))
            have hol : ((G.take (j + 1)).drop j).length = 1 := by rw [List.length_drop, List.length_take, ← HM.out]; omega
            have HDO := do_calls wr Ap cp (doAll p (G.take j)) (by rw [hpl2]; exact HP.out.2) (by omega) A' (ca - j) ((G.take (j + 1)).drop j) (by rw [hol]; exact HC4.out)
            rw [hpl2, hol] at HDO
            have HDD := Aside0.mk HDO
            clear hC4 hol HDO hpl2
            go_wp2_with fail
            refine HDD.out.mono ?_
            rintro e w6 ⟨v6, rfl, hR6, hb⟩
            rw [HNX.out] at hR6
            have HB6 := Aside0.mk (step_bel HB.out hb)
            have HCA6 := Aside0.mk (Kd.C_below HCA.out hb)
            obtain ⟨A6, c6, rfl, hc6, hC6⟩ := Kd.R_reads hR6
            have hpl3 := doAll_len (G.take (j + 1)) p
            rw [hpl3] at hc6 hC6 ⊢
            have HP6 := Aside0.mk (And.intro hc6 hC6)
            clear hb hR6 hC6 hc6 hpl3 hcut4 HDD
            go_wp2_with fail
            go_roundw
            case rel => exact ⟨j + 1, by omega, by go_num, _, _, rfl, HP6, HB6, HCA6⟩
            case measure => simp [intOf]; omega
          · obtain rfl : j = m := by omega
            have hd5 : decide ((j : Int) < (j : Int)) = false := by simp
            have HDO := do_calls wr A1 c1 p (Kd.C_below HC1.out HB.out) (by omega) Aa ca G (by rw [← HM.out]; exact HCA.out)
            rw [← HM.out] at HDO
            have HDD := Aside0.mk HDO
            clear HDO hpl2
            go_wp2_with fail
            refine HDD.out.mono ?_
            rintro e w6 ⟨v6, rfl, hR6, hb⟩
            have HB6 := Aside0.mk (step_bel HB.out hb)
            obtain ⟨A6, c6, rfl, hc6, hC6⟩ := Kd.R_reads hR6
            have hpl3 := doAll_len G p
            rw [hpl3] at hc6 hC6 ⊢
            have HS := Aside0.mk (show Calls Try.prog 15 #[.slice Ap p.length cp, .slice A6 p.length c6] w6 fun e w' => e = .returned (.bool true) ∧ Below w6.heap.size w6 w' by
              have h1 := Kd.C_below HP.out.2 hb
              rw [List.take_of_length_le (by rw [← HM.out]; omega)] at h1
              have := same09_calls w6 Ap cp A6 c6 (doAll p G) (by rw [hpl3]; exact h1) (by rw [hpl3]; exact HP.out.1) (by rw [hpl3]; exact hC6) (by rw [hpl3]; exact hc6)
              rwa [hpl3] at this)
            clear hb hR6 hC6 hc6 hpl3 HDD
            go_wp2_with fail
            refine HS.out.mono ?_
            rintro e w7 ⟨rfl, hb⟩
            have H7 := Aside0.mk (step_bel HB6.out hb)
            clear hb HS
            go_wp2_with fail
            go_ret
            exact ⟨rfl, H7.out⟩
      · have e3 : (xk != 3) = true := by simp; omega
        have HMO := Aside0.mk (HF2.out hkk (by rw [← HXK.out]; exact h3))
        have hcut3 := cutTo33 (some ad) l.length c (k + 1) (by omega) hlc
        clear h3
        have hcast : ((k : Int) + 1) = ((k + 1 : Nat) : Int) := by omega
        rw [← hcast] at hcut3
        clear hcast
        go_wp2_with fail
        have hCk := Kd.C_take (Kd.C_below HC.out H4.out) (m := k + 1) (by omega)
        have hlk : (l.take (k + 1)).length = k + 1 := by rw [List.length_take]; omega
        have HGK := groups_calls _ (some ad) c (l.take (k + 1)) hCk (by omega)
        rw [hlk] at HGK
        refine HGK.mono ?_
        rintro e w5 ⟨vt, gs5, rfl, hgs5, hR5, _, hb⟩
        have H5 := Aside0.mk (step_bel H4.out hb)
        have HCa5 := Aside0.mk (Kd.C_below HCa4.out hb)
        obtain ⟨At, ct, rfl⟩ := Kd.R_slice hR5
        have hgl5 : gs5.length = n := by rw [← List.length_map (f := Prod.fst), hgs5, HMO.out, HN.out]
        rw [hgl5]
        have hnn : ((n : Int) != (n : Int)) = false := by simp
        clear hb hR5 hgs5 hgl5 hCk hlk HGK hcut3 hkc HCa4 H4
        go_wp2_with fail
        go_loopw [10, 11] (fun vp i wr => ∃ j : Nat, j ≤ m ∧ i = .int .i64 j ∧ ∃ Ap cp, vp = .slice Ap p.length cp ∧ Aside0 (p.length ≤ cp ∧ (Kd.int .i64).C wr Ap p.length (doAll p (G.take j))) ∧ Aside0 (Below W.heap.size W wr) ∧ Aside0 (k28.C wr Aa m G)) (fun _ i _ => m - (intOf i).toNat)
        case atStart => exact ⟨0, by omega, rfl, _, _, rfl, ⟨hpc, Kd.C_below HC1.out H5.out⟩, H5, HCa5⟩
        case round =>
          clear H5 HCa5
          obtain ⟨j, hj, rfl, Ap, cp, rfl, HP, HB, HCA⟩ := hrel
          have hpl2 := doAll_len (G.take j) p
          by_cases hlt : j < m
          · have hd5 : decide ((j : Int) < (m : Int)) = true := by simp; omega
            obtain ⟨A', hcut4, hC4⟩ := cutOne23 Aa m ca j (by omega) hca
            have HC4 := Aside0.mk (hC4 wr G HM.out.symm HCA.out)
            have HNX := Aside0.mk (doAll_one p G j (by rw [← HM.out]; exact hlt))
            have hol : ((G.take (j + 1)).drop j).length = 1 := by rw [List.length_drop, List.length_take, ← HM.out]; omega
            have HDO := do_calls wr Ap cp (doAll p (G.take j)) (by rw [hpl2]; exact HP.out.2) (by omega) A' (ca - j) ((G.take (j + 1)).drop j) (by rw [hol]; exact HC4.out)
            rw [hpl2, hol] at HDO
            have HDD := Aside0.mk HDO
            clear hC4 hol HDO hpl2
            go_wp2_with fail
            refine HDD.out.mono ?_
            rintro e w6 ⟨v6, rfl, hR6, hb⟩
            rw [HNX.out] at hR6
            have HB6 := Aside0.mk (step_bel HB.out hb)
            have HCA6 := Aside0.mk (Kd.C_below HCA.out hb)
            obtain ⟨A6, c6, rfl, hc6, hC6⟩ := Kd.R_reads hR6
            have hpl3 := doAll_len (G.take (j + 1)) p
            rw [hpl3] at hc6 hC6 ⊢
            have HP6 := Aside0.mk (And.intro hc6 hC6)
            clear hb hR6 hC6 hc6 hpl3 hcut4 HDD
            go_wp2_with fail
            go_roundw
            case rel => exact ⟨j + 1, by omega, by go_num, _, _, rfl, HP6, HB6, HCA6⟩
            case measure => simp [intOf]; omega
          · obtain rfl : j = m := by omega
            have hd5 : decide ((j : Int) < (j : Int)) = false := by simp
            have HDO := do_calls wr A1 c1 p (Kd.C_below HC1.out HB.out) (by omega) Aa ca G (by rw [← HM.out]; exact HCA.out)
            rw [← HM.out] at HDO
            have HDD := Aside0.mk HDO
            clear HDO hpl2
            go_wp2_with fail
            refine HDD.out.mono ?_
            rintro e w6 ⟨v6, rfl, hR6, hb⟩
            have HB6 := Aside0.mk (step_bel HB.out hb)
            obtain ⟨A6, c6, rfl, hc6, hC6⟩ := Kd.R_reads hR6
            have hpl3 := doAll_len G p
            rw [hpl3] at hc6 hC6 ⊢
            have HS := Aside0.mk (show Calls Try.prog 15 #[.slice Ap p.length cp, .slice A6 p.length c6] w6 fun e w' => e = .returned (.bool true) ∧ Below w6.heap.size w6 w' by
              have h1 := Kd.C_below HP.out.2 hb
              rw [List.take_of_length_le (by rw [← HM.out]; omega)] at h1
              have := same09_calls w6 Ap cp A6 c6 (doAll p G) (by rw [hpl3]; exact h1) (by rw [hpl3]; exact HP.out.1) (by rw [hpl3]; exact hC6) (by rw [hpl3]; exact hc6)
              rwa [hpl3] at this)
            clear hb hR6 hC6 hc6 hpl3 HDD
            go_wp2_with fail
            refine HS.out.mono ?_
            rintro e w7 ⟨rfl, hb⟩
            have H7 := Aside0.mk (step_bel HB6.out hb)
            clear hb HS
            go_wp2_with fail
            go_ret
            exact ⟨rfl, H7.out⟩
    · have hd4 : decide ((k : Int) < l.length) = false := by simp; omega
      go_wp2_with fail
      go_loopw [10, 11] (fun vp i wr => ∃ j : Nat, j ≤ m ∧ i = .int .i64 j ∧ ∃ Ap cp, vp = .slice Ap p.length cp ∧ Aside0 (p.length ≤ cp ∧ (Kd.int .i64).C wr Ap p.length (doAll p (G.take j))) ∧ Aside0 (Below W.heap.size W wr) ∧ Aside0 (k28.C wr Aa m G)) (fun _ i _ => m - (intOf i).toNat)
      case atStart => exact ⟨0, by omega, rfl, _, _, rfl, ⟨hpc, Kd.C_below HC1.out H4.out⟩, H4, HCa4⟩
      case round =>
        clear H4 HCa4
        obtain ⟨j, hj, rfl, Ap, cp, rfl, HP, HB, HCA⟩ := hrel
        have hpl2 := doAll_len (G.take j) p
        by_cases hlt : j < m
        · have hd5 : decide ((j : Int) < (m : Int)) = true := by simp; omega
          obtain ⟨A', hcut4, hC4⟩ := cutOne23 Aa m ca j (by omega) hca
          have HC4 := Aside0.mk (hC4 wr G HM.out.symm HCA.out)
          have HNX := Aside0.mk (doAll_one p G j (by rw [← HM.out]; exact hlt))
          have hol : ((G.take (j + 1)).drop j).length = 1 := by rw [List.length_drop, List.length_take, ← HM.out]; omega
          have HDO := do_calls wr Ap cp (doAll p (G.take j)) (by rw [hpl2]; exact HP.out.2) (by omega) A' (ca - j) ((G.take (j + 1)).drop j) (by rw [hol]; exact HC4.out)
          rw [hpl2, hol] at HDO
          have HDD := Aside0.mk HDO
          clear hC4 hol HDO hpl2
          go_wp2_with fail
          refine HDD.out.mono ?_
          rintro e w6 ⟨v6, rfl, hR6, hb⟩
          rw [HNX.out] at hR6
          have HB6 := Aside0.mk (step_bel HB.out hb)
          have HCA6 := Aside0.mk (Kd.C_below HCA.out hb)
          obtain ⟨A6, c6, rfl, hc6, hC6⟩ := Kd.R_reads hR6
          have hpl3 := doAll_len (G.take (j + 1)) p
          rw [hpl3] at hc6 hC6 ⊢
          have HP6 := Aside0.mk (And.intro hc6 hC6)
          clear hb hR6 hC6 hc6 hpl3 hcut4 HDD
          go_wp2_with fail
          go_roundw
          case rel => exact ⟨j + 1, by omega, by go_num, _, _, rfl, HP6, HB6, HCA6⟩
          case measure => simp [intOf]; omega
        · obtain rfl : j = m := by omega
          have hd5 : decide ((j : Int) < (j : Int)) = false := by simp
          have HDO := do_calls wr A1 c1 p (Kd.C_below HC1.out HB.out) (by omega) Aa ca G (by rw [← HM.out]; exact HCA.out)
          rw [← HM.out] at HDO
          have HDD := Aside0.mk HDO
          clear HDO hpl2
          go_wp2_with fail
          refine HDD.out.mono ?_
          rintro e w6 ⟨v6, rfl, hR6, hb⟩
          have HB6 := Aside0.mk (step_bel HB.out hb)
          obtain ⟨A6, c6, rfl, hc6, hC6⟩ := Kd.R_reads hR6
          have hpl3 := doAll_len G p
          rw [hpl3] at hc6 hC6 ⊢
          have HS := Aside0.mk (show Calls Try.prog 15 #[.slice Ap p.length cp, .slice A6 p.length c6] w6 fun e w' => e = .returned (.bool true) ∧ Below w6.heap.size w6 w' by
            have h1 := Kd.C_below HP.out.2 hb
            rw [List.take_of_length_le (by rw [← HM.out]; omega)] at h1
            have := same09_calls w6 Ap cp A6 c6 (doAll p G) (by rw [hpl3]; exact h1) (by rw [hpl3]; exact HP.out.1) (by rw [hpl3]; exact hC6) (by rw [hpl3]; exact hc6)
            rwa [hpl3] at this)
          clear hb hR6 hC6 hc6 hpl3 HDD
          go_wp2_with fail
          refine HS.out.mono ?_
          rintro e w7 ⟨rfl, hb⟩
          have H7 := Aside0.mk (step_bel HB6.out hb)
          clear hb HS
          go_wp2_with fail
          go_ret
          exact ⟨rfl, H7.out⟩
end Go.Proofs.Ytkkmmbbnaafhlaa.Roll
