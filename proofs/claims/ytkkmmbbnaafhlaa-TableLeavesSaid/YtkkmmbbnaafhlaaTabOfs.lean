/- The walk of layer 9's statement TableOfs. -/
import Derived.Test.YtkkmmbbnaafhlaaTabRLeaves
namespace Go.Proofs.Ytkkmmbbnaafhlaa.Tab
set_option linter.unusedSimpArgs false
set_option linter.unusedVariables false
open Go.RowKit Go.Proofs.YtkkmmbbnaafhlaaW.PrintWords Go.Proofs.YtkkmmbbnaafhlaaW.PrintLast Go.Proofs.YtkkmmbbnaafhlaaW.PrintMore Arr

theorem upTo_pad {n : Nat} {ps : List Int} (h : Pad n ps) (hn : n ≤ ps.length) : upTo ps n = ps := by
  apply ext_getD (upTo_length ps n)
  intro j hj
  rw [upTo_length] at hj
  rw [upTo_getD _ _ _ hn]
  by_cases e : j < n
  · rw [if_pos e]
  · rw [if_neg e, h j (by omega)]
theorem lastL_mem {ls : List Leaf} {i : Int} {L : Leaf} (h : lastL ls i = some L) : L ∈ ls := by
  obtain ⟨f, hf⟩ := fnd_all ls i ls.length (Nat.le_refl _)
  rw [Fnd, List.take_length] at hf
  rcases hf with ⟨_, h5, _⟩ | ⟨a, ha, _, h5, _⟩
  · rw [h5] at h; cases h
  · rw [h5] at h
    injection h with h
    rw [← h]
    unfold lf
    rw [List.getD_eq_getElem?_getD, List.getElem?_eq_getElem ha]
    exact List.getElem_mem ha
theorem getD_wf {l : List Int} (h : ∀ x ∈ l, (Lit.int .i64 x).wf = true) (j : Nat) : (Lit.int .i64 (l.getD j 0)).wf = true := by
  rw [List.getD_eq_getElem?_getD]
  by_cases hj : j < l.length
  · rw [List.getElem?_eq_getElem hj]
    exact h _ (List.getElem_mem hj)
  · rw [List.getElem?_eq_none (by omega)]
    decide
theorem plc_wf {ls : List Leaf} (h : ∀ L ∈ ls, gLeaf L) (m : Nat) : (Lit.int .i64 (plc ls m)).wf = true := by
  unfold plc
  cases e : lastL ls ((m / 10 : Nat) : Int) with
  | none => exact getD_wf (fun x hx => by obtain rfl := List.eq_of_mem_replicate hx; decide) _
  | some L => exact getD_wf (h L (lastL_mem e)).2.2 _
theorem psOf_wf {ls : List Leaf} (h : ∀ L ∈ ls, gLeaf L) (p : Nat) : ∀ x ∈ psOf ls p, (Lit.int .i64 x).wf = true := by
  intro x hx
  unfold psOf at hx
  obtain ⟨m, _, rfl⟩ := List.mem_map.1 hx
  exact plc_wf h m
theorem wf_i64 {x : Int} (h : -9223372036854775808 ≤ x ∧ x ≤ 9223372036854775807) : (Lit.int .i64 x).wf = true := by
  simp [Lit.wf, IntKind.min, IntKind.max, IntKind.signed, IntKind.bits]
  omega
theorem leaves_wf {gen : Int} {ps : List Int} {p : Nat} (hg : (Lit.int .i64 gen).wf = true) (hp : p ≤ 100000) (h : ∀ x ∈ ps, (Lit.int .i64 x).wf = true) : ∀ i, i < p → gLeaf (lf (leavesTo gen ps p) i) := by
  intro i hi
  unfold lf
  rw [leavesTo_getD _ _ _ _ hi]
  refine ⟨hg, wf_i64 (x := (i : Int)) (by omega), fun x hx => h x ?_⟩
  exact List.mem_of_mem_drop (List.mem_of_mem_take hx)
set_option maxRecDepth 10000 in
set_option maxHeartbeats 8000000 in
theorem ofs_walk (W : World) (n : Int) (hn : (Lit.int .i64 n).wf = true) (A : Option Addr) (c : Nat) (l : List Leaf) (hlc : l.length ≤ c) (hC : CL W A l.length l) (hG : ∀ x ∈ l, gLeaf x) (gen : Int) (hgen : (Lit.int .i64 gen).wf = true) : Calls Try.prog 11 #[.int .i64 n, .slice A l.length c, .int .i64 gen] W (Holds W) := by
  have HW := Aside0.mk (Keeps.refl W)
  have HC := Aside0.mk hC
  have HG := Aside0.mk hG
  have HGN := Aside0.mk hgen
  clear hC hG hgen hn
  go_enter Try.func11, Try.ntmps11
  go_wp2_with fail
  refine (awake_calls _).mono ?_
  rintro e w1 ⟨rfl, hb⟩
  have H1 := Aside0.mk (HW.out.step hb)
  clear hb
  by_cases hlen : 500 < l.length
  · have hd : decide (500 < (l.length : Int)) = true := by simp; omega
    go_wp2_with fail
    refine (awake_calls _).mono ?_
    rintro e w2 ⟨rfl, hb⟩
    have H2 := Aside0.mk (H1.out.step hb)
    clear hb
    go_wp2_with fail
    go_ret
    exact ⟨rfl, H2.out.below⟩
  · have hd : decide (500 < (l.length : Int)) = false := by simp; omega
    go_wp2_with fail
    refine (of_calls w1 n A c l (Kd.C_below HC.out H1.out.below) (by omega)).mono ?_
    rintro e w2 ⟨v, rfl, hb2, hv0, hv1⟩
    have H2 := Aside0.mk (H1.out.step hb2)
    have HV0 := Aside0.mk hv0
    have HV1 := Aside0.mk hv1
    clear hb2 hv0 hv1 hd
    obtain ⟨cd, hcd⟩ : ∃ cd, cd = codeOf n l := ⟨_, rfl⟩
    rw [← hcd] at HV0 HV1
    have HCD := Aside0.mk hcd
    rw [← hcd]
    clear hcd
    by_cases hc0 : cd = 0
    · obtain ⟨t, lb, db, rfl, hT, hok, hn0, hn1, ht, hlb, hdb⟩ := HV1.out hc0
      subst hc0
      obtain ⟨m, rfl⟩ : ∃ m : Nat, n = m := ⟨n.toNat, by omega⟩
      rw [Int.toNat_natCast] at hT hok
      have HT2 := Aside0.mk hT
      have HOK := Aside0.mk hok
      clear hT hok HV0 HV1
      go_wp2_with fail
      refine (refof_calls w2 m A c l (Kd.C_below HC.out H2.out.below) (by omega)).mono ?_
      rintro e w3 ⟨v3, rfl, hb3, hr3⟩
      have hR3 := hr3 HCD.out.symm
      rw [Int.toNat_natCast] at hR3
      rw [← HCD.out]
      have H3 := Aside0.mk (H2.out.step hb3)
      have HT3 := Aside0.mk (HT2.out.below' hb3)
      obtain ⟨ps, hps⟩ : ∃ ps, ps = psOf l (pg m) := ⟨_, rfl⟩
      rw [← hps] at hR3 HT3
      have HPW := Aside0.mk (show ∀ x ∈ ps, (Lit.int .i64 x).wf = true by rw [hps]; exact psOf_wf HG.out _)
      have HPD := Aside0.mk (show Pad m ps by rw [hps]; exact ok_pad HOK.out)
      have hpsl := HT3.out.hps
      have htl := take_len hpsl
      have hml : m ≤ ps.length := by rw [hpsl]; unfold pg; omega
      obtain ⟨A3, c3, rfl, _, hC3⟩ := RI.reads hR3
      obtain ⟨q, hq⟩ : ∃ q, q = ps.take m := ⟨_, rfl⟩
      rw [← hq] at hC3 htl
      have HQ := Aside0.mk hq
      rw [← hq]
      have hm1 : m ≤ 4096 := by omega
      have HUP := Aside0.mk (upTo_pad HPD.out hml)
      have HPL := Aside0.mk hpsl
      rw [htl] at hC3
      rw [htl]
      have HC3 := Aside0.mk hC3
      clear hb3 hr3 hR3 hps hpsl hC3 hq HT2 hml
      go_wp2_with fail
      refine (places_calls _ t lb db m ps _ HT3.out).mono ?_
      rintro e w4 ⟨g1, rfl, hB1, hg1, hb⟩
      rw [← HQ.out] at hB1
      have HT4 := Aside0.mk (HT3.out.below' hb)
      have H4 := Aside0.mk ((H3.out.step hb).cons hB1)
      have HR1 := Aside0.mk (show CI w4 (some ⟨g1, 0, none⟩) m q by have := blk_reads H4.out.head (by omega); rwa [htl] at this)
      have HC4 := Aside0.mk (Kd.C_below HC3.out hb)
      clear hB1 hb HT3 H3 HC3
      go_wp2_with fail
      refine (same_calls _ _ m m q HR1.out A3 m c3 q HC4.out (by omega) (by omega)).mono ?_
      rintro e w5 ⟨rfl, hb⟩
      rw [decide_eq_true rfl]
      have HT5 := Aside0.mk (HT4.out.below' hb)
      have H5 := Aside0.mk (H4.out.step hb)
      have HC5 := Aside0.mk (Kd.C_below HC4.out hb)
      clear hb HT4 H4 HC4 HR1
      go_wp2_with fail
      refine (dirty_calls _ t lb db m ps _ HT5.out).mono ?_
      rintro e w6 ⟨v6, rfl, hR6, hb⟩
      rw [trues_none] at hR6
      obtain ⟨A6, c6, rfl⟩ := Kd.R_slice hR6
      have HT6 := Aside0.mk (HT5.out.below' hb)
      have H6 := Aside0.mk (H5.out.step hb)
      have HC6 := Aside0.mk (Kd.C_below HC5.out hb)
      clear hb HT5 H5 HC5 hR6
      go_wp2_with fail
      refine (leaves_calls _ t lb db m ps _ HT6.out gen).mono ?_
      rintro e w7 ⟨v7, rfl, hR7, hb⟩
      obtain ⟨A7, c7, rfl⟩ := Kd.R_slice hR7
      have H7 := Aside0.mk (H6.out.step hb)
      have HC7 := Aside0.mk (Kd.C_below HC6.out hb)
      have HR7 := Aside0.mk ((Kd.R_reads' hR7).2.2)
      rw [leavesTo_length] at HR7
      rw [leavesTo_length]
      clear hb HT6 H6 HC6 hR7
      go_wp2_with fail
      refine (rleaves_calls _ A3 m c3 ps hm1 HPL.out (by rw [← HQ.out]; exact HC7.out) gen).mono ?_
      rintro e w8 ⟨v8, rfl, hR8, hb⟩
      rw [HUP.out] at hR8
      obtain ⟨A8, c8, rfl⟩ := Kd.R_slice hR8
      have H8 := Aside0.mk (H7.out.step hb)
      have HR8 := Aside0.mk ((Kd.R_reads' hR8).2.2)
      rw [leavesTo_length] at HR8
      rw [leavesTo_length]
      have HR7' := Aside0.mk (Kd.C_below HR7.out hb)
      clear hb H7 HC7 hR8 HR7
      go_wp2_with fail
      refine (sameleaves_calls _ A7 c7 A8 c8 (pg m) (leavesTo gen ps (pg m)) (leavesTo_length _ _ _).symm HR7'.out HR8.out (by have := pg_le hm1; omega) (leaves_wf HGN.out (by have := pg_le hm1; omega) HPW.out)).mono ?_
      rintro e w9 ⟨rfl, hb⟩
      have H9 := Aside0.mk (H8.out.step hb)
      clear hb
      go_wp2_with fail
      go_ret
      exact ⟨rfl, H9.out.below⟩
    · have hvn := HV0.out hc0
      subst hvn
      have hc1 : (cd == 0) = false := by simp; exact hc0
      have hc2 : (cd != 0) = true := by simp; exact hc0
      clear HV0 HV1 hc0
      go_wp2_with fail
      refine (refof_calls w2 n A c l (Kd.C_below HC.out H2.out.below) (by omega)).mono ?_
      rintro e w3 ⟨v3, rfl, hb3, hr3⟩
      rw [← HCD.out]
      have H3 := Aside0.mk (H2.out.step hb3)
      clear hb3 hr3
      go_wp2_with fail
      go_ret
      exact ⟨by simp, H3.out.below⟩
end Go.Proofs.Ytkkmmbbnaafhlaa.Tab
