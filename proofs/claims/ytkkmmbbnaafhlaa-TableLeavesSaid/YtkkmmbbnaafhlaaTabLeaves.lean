/- The walk of layer 9's statement TableLeaves. -/
import Derived.Test.YtkkmmbbnaafhlaaTabSwap
namespace Go.Proofs.Ytkkmmbbnaafhlaa.Tab
set_option linter.unusedSimpArgs false
set_option linter.unusedVariables false
open Go.RowKit Go.Proofs.YtkkmmbbnaafhlaaW.PrintWords Go.Proofs.YtkkmmbbnaafhlaaW.PrintLast Go.Proofs.YtkkmmbbnaafhlaaW.PrintMore Arr

section
attribute [local irreducible] Dec.Dec Dec.DecF
theorem dec74 : Dec.Dec Try.prog 74 (Kd.slice 5 (Kd.int .u8)) (fun l => ∀ x ∈ l, (Lit.int .u8 x).wf = true) := Dec.dec_slice Try.underlying74 (Dec.dec_int Try.underlying5) (by kernel_rfl)
end
theorem rem_at {k p : Nat} : (k : Int) % (p : Int) = ((k % p : Nat) : Int) := rfl
theorem cells_at {w : World} {B g cap n : Nat} {l : List Leaf} (h : RL w B (.slice (some ⟨g, 0, none⟩) n cap) l) (i : Nat) (hi : i < n) : ∀ j u, (leafC (lf l i))[j]? = some u → w.cell? ((⟨g, i * 12, none⟩ : Addr).add j) = some u := fun j u hu => by
  rw [addr_at]
  exact (RL.at h i hi j u hu).1
theorem CL.drop1 {w : World} {g p : Nat} {m : List Leaf} (h : CL w (some ⟨g, 0, none⟩) p m) (hp : 1 ≤ p) (hpm : m.length = p) : CL w (some ⟨g, 12, none⟩) (p - 1) (m.drop 1) := by
  subst hpm
  have h2 := Kd.C_drop (k := k58) (c := m.length + 1) h hp (by omega)
  rw [if_neg (by omega), k58_sz, List.length_drop] at h2
  exact h2
set_option maxRecDepth 10000 in
set_option maxHeartbeats 16000000 in
theorem tleaves_walk (W : World) (tb : Int) (htb : (Lit.int .u8 tb).wf = true) (A : Option Addr) (c : Nat) (l : List Put) (hlc : l.length ≤ c) (hC : k52.C W A l.length l) (hG : ∀ x ∈ l, gPut x) (AO : Option Addr) (cO : Nat) (od : List Int) (hoc : od.length ≤ cO) (hCO : (Kd.int .u8).C W AO od.length od) (hGO : ∀ x ∈ od, (Lit.int .u8 x).wf = true) : Calls Try.prog 12 #[.int .u8 tb, .slice A l.length c, .slice AO od.length cO] W (Holds W) := by
  have HW := Aside0.mk (Keeps.refl W)
  have HC := Aside0.mk hC
  have HPW := Aside0.mk hG
  have HCO := Aside0.mk hCO
  have HGO := Aside0.mk hGO
  obtain ⟨hb0, hb1⟩ := bounds_u8 htb
  obtain ⟨n, rfl⟩ : ∃ n : Nat, tb = n := ⟨tb.toNat, by omega⟩
  clear hC hG htb hlc hoc hCO hGO
  go_enter Try.func12, Try.ntmps12
  go_wp2_with fail
  refine (awake_calls _).mono ?_
  rintro e w1 ⟨rfl, hb⟩
  have H1 := Aside0.mk (HW.out.step hb)
  clear hb
  by_cases hbig : 100 < l.length ∨ 100 < od.length
  · by_cases hlen : 100 < l.length
    · have hd : decide (100 < (l.length : Int)) = true := by simp; omega
      go_wp2_with fail
      refine (awake_calls _).mono ?_
      rintro e w2 ⟨rfl, hb⟩
      have H2 := Aside0.mk (H1.out.step hb)
      clear hb
      go_wp2_with fail
      go_ret
      exact ⟨rfl, H2.out.below⟩
    · have hd : decide (100 < (l.length : Int)) = false := by simp; omega
      have hd2 : decide (100 < (od.length : Int)) = true := by simp; omega
      go_wp2_with fail
      refine (awake_calls _).mono ?_
      rintro e w2 ⟨rfl, hb⟩
      have H2 := Aside0.mk (H1.out.step hb)
      clear hb
      go_wp2_with fail
      go_ret
      exact ⟨rfl, H2.out.below⟩
  · have hd : decide (100 < (l.length : Int)) = false := by simp; omega
    have hd2 : decide (100 < (od.length : Int)) = false := by simp; omega
    have hll : l.length ≤ 100 := by omega
    have hol : od.length ≤ 100 := by omega
    clear hbig
    go_wp2_with fail
    refine (new_calls _ n (by omega)).mono ?_
    rintro e w2 ⟨t, lb, db, rfl, hT, htw, hlb, hdb, hb⟩
    have htw := Nat.le_trans H1.out.size htw
    have hlb := Nat.le_trans H1.out.size hlb
    have hdb := Nat.le_trans H1.out.size hdb
    have HT0 := Aside0.mk hT
    have H2 := Aside0.mk (H1.out.step hb)
    have HZ := Aside0.mk (show ∀ j, 0 ≤ (zeros (10 * pg n)).getD j 0 from fun j => by rw [zeros_getD]; decide)
    clear hT hb H1 hd hd2
    go_wp2_with fail
    go_loopw [8] (fun i wr => ∃ k : Nat, k ≤ l.length ∧ i = .int .i64 k ∧ ∃ ps ds, Aside0 (TabAt wr t lb db n ps ds) ∧ Aside0 (Pad n ps) ∧ Aside0 (Keeps W [] wr) ∧ Aside0 (∀ j, 0 ≤ ps.getD j 0)) (fun i _ => l.length - (intOf i).toNat)
    case atStart => exact ⟨0, by omega, rfl, _, _, HT0, ⟨pad_zeros n _⟩, H2, HZ⟩
    case round =>
      clear HT0 H2 HZ
      obtain ⟨k, hk, rfl, ps, ds, HT, HP, HK, HNN⟩ := hrel
      by_cases hlt : k < l.length
      · have hd : decide ((k : Int) < l.length) = true := by simp; omega
        have hwf := HPW.out (l.getD k put0) (getD_mem l k hlt)
        obtain ⟨ad, hA, _⟩ := at_put HC.out k hlt
        subst hA
        obtain ⟨x, hx⟩ : ∃ x, x = l.getD k put0 := ⟨_, rfl⟩
        have HAT := Aside0.mk (fun (w' : World) (hb : Below W.heap.size W w') => (put_at HC.out k hlt hb : w'.cell? (ad.add (k * 3)) = some (.int .i64 (l.getD k put0).blk) ∧ w'.cell? ⟨(ad.add (k * 3)).block, (ad.add (k * 3)).off + 1, none⟩ = some (.int .i64 (l.getD k put0).place) ∧ w'.cell? ⟨(ad.add (k * 3)).block, (ad.add (k * 3)).off + 2, none⟩ = some (.bool (l.getD k put0).clean)))
        rw [← hx] at HAT hwf
        clear hx
        obtain ⟨xb, xp, xc⟩ := x
        have hxb := (bounds_i64 hwf.1).1
        have HSC := Aside0.mk (show ∀ w', Below W.heap.size W w' → w'.cell? (ad.add (k * 3)) = some (.int .i64 xb) from fun w' hb => (HAT.out w' hb).1)
        have HSP := Aside0.mk (show ∀ w', Below W.heap.size W w' → w'.cell? ⟨(ad.add (k * 3)).block, (ad.add (k * 3)).off + 1, none⟩ = some (.int .i64 xp) from fun w' hb => (HAT.out w' hb).2.1)
        have hcp := HSP.out wr HK.out.below
        clear hwf HAT
        by_cases hxp : 0 ≤ xp
        · have hd3 : decide (0 ≤ xp) = true := by simp; omega
          go_upto_region 8 with (fail)
          refine wp_region_held_drew (S := (fun w' => Below W.heap.size W w')) (by kernel_rfl) (by exact HK.out.drew.below) (fun hHeld => ?_)
          refine wpAnyH_tk (i := 0) (v := ?vz1) 47 rfl rfl (by kernel_rfl) (by kernel_rfl) (by kernel_rfl) (fun _ _ _ h => h) (Or.inl ⟨by rfl, ?yz1⟩) hHeld ?rz1
          case yz1 => (intro w hSw; go_simp; try with_reducible rfl)
          (try simp only [Act.put, List.setIfInBounds_toArray, List.set_cons_zero, List.set_cons_succ])
          refine wpAnyH_tk (i := 1) (v := ?vz2) 48 rfl rfl (by kernel_rfl) (by kernel_rfl) (by kernel_rfl) (fun _ _ _ h => h) (Or.inl ⟨by rfl, ?yz2⟩) hHeld ?rz2
          case yz2 => (intro w hSw; go_simp; try with_reducible rfl)
          (try simp only [Act.put, List.setIfInBounds_toArray, List.set_cons_zero, List.set_cons_succ])
          refine wpAnyH_tk (i := 2) (v := ?vz3) 49 rfl rfl (by kernel_rfl) (by kernel_rfl) (by kernel_rfl) (fun _ _ _ h => h) (Or.inl ⟨by rfl, ?yz3⟩) hHeld ?rz3
          case yz3 => (intro w hSw; go_simp; try with_reducible rfl)
          (try simp only [Act.put, List.setIfInBounds_toArray, List.set_cons_zero, List.set_cons_succ])
          refine wpAnyH_tk (i := 3) (v := ?vz4) 50 rfl rfl (by kernel_rfl) (by kernel_rfl) (by kernel_rfl) (fun _ _ _ h => h) (Or.inl ⟨by rfl, ?yz4⟩) hHeld ?rz4
          case yz4 => (intro w hSw; go_simp; try with_reducible rfl)
          (try simp only [Act.put, List.setIfInBounds_toArray, List.set_cons_zero, List.set_cons_succ])
          refine wpAnyH_tk (i := 4) (v := ?vz5) 51 rfl rfl (by kernel_rfl) (by kernel_rfl) (by kernel_rfl) (fun _ _ _ h => h) (Or.inl ⟨by rfl, ?yz5⟩) hHeld ?rz5
          case yz5 => (intro w hSw; go_simp; try with_reducible rfl)
          (try simp only [Act.put, List.setIfInBounds_toArray, List.set_cons_zero, List.set_cons_succ])
          refine wpAnyH_tk (i := 5) (v := _) 52 rfl rfl (by kernel_rfl) (by kernel_rfl) (by kernel_rfl) (fun _ _ _ h => h) (yields_cell (by rfl) 3 (.tmp 51) rfl _ rfl (v := .int .i64 xb) (fun w h => HSC.out w h) Try.underlying3 rfl) hHeld ?_
          (try simp only [Act.put, List.setIfInBounds_toArray, List.set_cons_zero, List.set_cons_succ])
          refine wpAnyH_tk (i := 6) (v := ?vz6) 53 rfl rfl (by kernel_rfl) (by kernel_rfl) (by kernel_rfl) (fun _ _ _ h => h) (Or.inl ⟨by rfl, ?yz6⟩) hHeld ?rz6
          case yz6 => (intro w hSw; go_simp; try with_reducible rfl)
          (try simp only [Act.put, List.setIfInBounds_toArray, List.set_cons_zero, List.set_cons_succ])
          refine wpAnyH_tk (i := 7) (v := ?vz7) 54 rfl rfl (by kernel_rfl) (by kernel_rfl) (by kernel_rfl) (fun _ _ _ h => h) (Or.inl ⟨by rfl, ?yz7⟩) hHeld ?rz7
          case yz7 => (intro w hSw; go_simp; try with_reducible rfl)
          (try simp only [Act.put, List.setIfInBounds_toArray, List.set_cons_zero, List.set_cons_succ])
          refine wpAnyH_tk (i := 8) (v := ?vz8) 55 rfl rfl (by kernel_rfl) (by kernel_rfl) (by kernel_rfl) (fun _ _ _ h => h) (Or.inl ⟨by rfl, ?yz8⟩) hHeld ?rz8
          case yz8 => (intro w hSw; go_simp; try with_reducible rfl)
          (try simp only [Act.put, List.setIfInBounds_toArray, List.set_cons_zero, List.set_cons_succ])
          refine wpAnyH_tk (i := 9) (v := ?vz9) 56 rfl rfl (by kernel_rfl) (by kernel_rfl) (by kernel_rfl) (fun _ _ _ h => h) (Or.inl ⟨by rfl, ?yz9⟩) hHeld ?rz9
          case yz9 => (intro w hSw; go_simp; try with_reducible rfl)
          (try simp only [Act.put, List.setIfInBounds_toArray, List.set_cons_zero, List.set_cons_succ])
          refine wpAnyH_tk (i := 10) (v := _) 57 rfl rfl (by kernel_rfl) (by kernel_rfl) (by kernel_rfl) (fun _ _ _ h => h) (yields_cell (by rfl) 3 (.tmp 56) rfl _ rfl (v := .int .i64 xp) (fun w h => HSP.out w h) Try.underlying3 rfl) hHeld ?_
          (try simp only [Act.put, List.setIfInBounds_toArray, List.set_cons_zero, List.set_cons_succ])
          refine wpAnyH_one (i := 11) (by kernel_rfl) rfl (fun K hK => ?_)
          go_simp
          go_wp2_with ((go_at_call 23; refine (set_calls _ t lb db n ps ds HT.out.drew xb xp hxb).mono ?_; rintro e wx ⟨rfl, hTx, hMx⟩; have hHX := hMx.below _ _ hHeld hlb hdb hHeld.size))
          refine hK.out _ _ (by exact hHX) (fun hHeld => ?_)
          clear hK K
          refine wpAnyH_done (by kernel_rfl) ?_ _
          skip
          go_wp2_with fail
          go_roundw
          case rel => exact ⟨k + 1, by omega, by go_num, _, _, ⟨hTx⟩, ⟨pad_set HP.out xb xp⟩, ⟨⟨hHX, fun _ h => by cases h⟩⟩, ⟨setP_pos HNN.out xb xp hxp⟩⟩
          case measure => simp [intOf]; omega
        · have hd3 : decide (0 ≤ xp) = false := by simp; omega
          go_wp2_with fail
          go_roundw
          case rel => exact ⟨k + 1, by omega, by go_num, _, _, HT, HP, HK, HNN⟩
          case measure => simp [intOf]; omega
      · obtain rfl : k = l.length := by omega
        have hd : decide ((l.length : Int) < l.length) = false := by simp
        have hps := HT.out.hps
        obtain ⟨p, hp⟩ : ∃ p, p = pg n := ⟨_, rfl⟩
        have hpl := pg_le (n := n) (by omega)
        rw [← hp] at hps hpl
        have HPG := Aside0.mk hp
        clear hp
        go_wp2_with fail
        refine (leaves_calls _ t lb db n ps ds HT.out 7).mono ?_
        rintro e w3 ⟨v, rfl, hR, hb⟩
        rw [← HPG.out] at hR
        obtain ⟨Am, cm, rfl⟩ := Kd.R_slice hR
        rw [leavesTo_length] at hR ⊢
        have hpc : p ≤ cm := (Kd.R_reads' hR).2.1
        have htB := HT.out.tab.lt
        have hlB := HT.out.lv.lt
        have hdB := HT.out.dt.lt
        have HT3 := Aside0.mk (HT.out.below' hb)
        have H3 := Aside0.mk (HK.out.step hb)
        have HR3 := Aside0.mk hR
        have HM3 := Aside0.mk (Mix.zero 7 ps p (by omega))
        obtain ⟨B, hB⟩ : ∃ B, B = wr.heap.size := ⟨_, rfl⟩
        rw [← hB] at HR3 htB hlB hdB
        have hBW : W.heap.size ≤ B := by rw [hB]; exact HK.out.size
        clear hR hb hB HT HK
        go_wp2_with fail
        go_loopw [10] (fun i wr => ∃ k : Nat, k ≤ od.length ∧ i = .int .i64 k ∧ ∃ m, Aside0 (Mix 7 ps p m) ∧ Aside0 (RL wr B (.slice Am p cm) m) ∧ Aside0 (TabAt wr t lb db n ps ds) ∧ Aside0 (Keeps W [] wr)) (fun i _ => od.length - (intOf i).toNat)
        case atStart => exact ⟨0, by omega, rfl, _, HM3, HR3, HT3, H3⟩
        case round =>
          clear HM3 HR3 HT3 H3
          obtain ⟨k, hk, rfl, m, HM, HR, HT, HK⟩ := hrel
          have hml := HM.out.len
          by_cases hgo : k < od.length ∧ 0 < p
          · obtain ⟨hlt, hp0⟩ := hgo
            have hd : decide ((k : Int) < od.length) = true := by simp; omega
            have hd2 : decide (0 < (p : Int)) = true := by simp; omega
            have hpz : ((p : Int) == 0) = false := by simp; omega
            obtain ⟨g, cap, e, hgB, hgw, _⟩ := Kd.R_form HR.out (by omega)
            injection e with e1 e2 e3
            subst e1
            clear e2 e3
            obtain ⟨ad, hA, hco⟩ := Kd.at_int HCO.out (k : Int) (by omega) (by omega)
            subst hA
            rw [Int.toNat_natCast] at hco
            have hyw := bounds_u8 (HGO.out (rd od (k : Int)) (by
              show od.getD (k : Int).toNat 0 ∈ od
              rw [Int.toNat_natCast, List.getD_eq_getElem?_getD, List.getElem?_eq_getElem hlt]
              exact List.getElem_mem hlt))
            obtain ⟨y, hy⟩ : ∃ y : Nat, rd od (k : Int) = y := ⟨(rd od (k : Int)).toNat, by omega⟩
            rw [hy] at hco hyw
            have hco2 := pw_cell_below HK.out.below hco
            clear hy hco
            have HRA := Aside0.mk (rem_at (k := k) (p := p))
            have HRB := Aside0.mk (rem_at (k := y) (p := p))
            obtain ⟨a, ha⟩ : ∃ a, a = k % p := ⟨_, rfl⟩
            obtain ⟨b, hbb⟩ : ∃ b, b = y % p := ⟨_, rfl⟩
            rw [← ha] at HRA
            rw [← hbb] at HRB
            have hap : a < p := by rw [ha]; exact Nat.mod_lt _ hp0
            have hbp : b < p := by rw [hbb]; exact Nat.mod_lt _ hp0
            clear ha hbb
            go_upto_region 15 with (fail)
            rw [HRA.out, HRB.out]
            have hla : (lf m a).ps.length = 10 := HM.out.ten _ (lf_mem (by omega))
            have hlb2 : (lf m b).ps.length = 10 := HM.out.ten _ (lf_mem (by omega))
            have HCA := Aside0.mk (cells_at (Kd.R_drew HR.out) a hap)
            have HCB := Aside0.mk (cells_at (Kd.R_drew HR.out) b hbp)
            have HSW := Aside0.mk (HM.out.swap hap hbp)
            have HMU := Aside0.mk (show ∀ w5 w6, wr.drew.grownBy w5 (some g) → w5.grownBy w6 (some g) → TabAt w6 t lb db n ps ds ∧ Keeps W [] w6 from fun w5 w6 h5 h6 => ⟨(HT.out.drew.grown h5 (by omega) (by omega) (by omega)).grown h6 (by omega) (by omega) (by omega), (HK.out.drew.grown h5 (by omega) (by simp)).grown h6 (by omega) (by simp)⟩)
            have HMV := Aside0.mk (show ∀ w5, wr.drew.grownBy w5 (some g) → Below W.heap.size W w5 from fun w5 h5 => (HK.out.drew.grown h5 (by omega) (by simp)).below)
            refine wp_region_held_drew (S := (fun w' => Below W.heap.size W w')) (by kernel_rfl) (by exact HK.out.drew.below) (fun hHeld => ?_)
            refine wpAnyH_tk (i := 0) (v := ?vz10) 84 rfl rfl (by kernel_rfl) (by kernel_rfl) (by kernel_rfl) (fun _ _ _ h => h) (Or.inl ⟨by rfl, ?yz10⟩) hHeld ?rz10
            case yz10 => (intro w hSw; go_simp; try with_reducible rfl)
            (try simp only [Act.put, List.setIfInBounds_toArray, List.set_cons_zero, List.set_cons_succ])
            refine wpAnyH_tk (i := 1) (v := ?vz11) 85 rfl rfl (by kernel_rfl) (by kernel_rfl) (by kernel_rfl) (fun _ _ _ h => h) (Or.inl ⟨by rfl, ?yz11⟩) hHeld ?rz11
            case yz11 => (intro w hSw; go_simp; try with_reducible rfl)
            (try simp only [Act.put, List.setIfInBounds_toArray, List.set_cons_zero, List.set_cons_succ])
            refine wpAnyH_tk (i := 2) (v := ?vz12) 86 rfl rfl (by kernel_rfl) (by kernel_rfl) (by kernel_rfl) (fun _ _ _ h => h) (Or.inl ⟨by rfl, ?yz12⟩) hHeld ?rz12
            case yz12 => (intro w hSw; go_simp; try with_reducible rfl)
            (try simp only [Act.put, List.setIfInBounds_toArray, List.set_cons_zero, List.set_cons_succ])
            refine wpAnyH_tk (i := 3) (v := ?vz13) 87 rfl rfl (by kernel_rfl) (by kernel_rfl) (by kernel_rfl) (fun _ _ _ h => h) (Or.inl ⟨by rfl, ?yz13⟩) hHeld ?rz13
            case yz13 => (intro w hSw; go_simp; try with_reducible rfl)
            (try simp only [Act.put, List.setIfInBounds_toArray, List.set_cons_zero, List.set_cons_succ])
            refine wpAnyH_tk (i := 4) (v := ?vz14) 88 rfl rfl (by kernel_rfl) (by kernel_rfl) (by kernel_rfl) (fun _ _ _ h => h) (Or.inl ⟨by rfl, ?yz14⟩) hHeld ?rz14
            case yz14 => (intro w hSw; go_simp; try with_reducible rfl)
            (try simp only [Act.put, List.setIfInBounds_toArray, List.set_cons_zero, List.set_cons_succ])
            refine wpAnyH_tk (i := 5) (v := ?vz15) 89 rfl rfl (by kernel_rfl) (by kernel_rfl) (by kernel_rfl) (fun _ _ _ h => h) (Or.inl ⟨by rfl, ?yz15⟩) hHeld ?rz15
            case yz15 => (intro w hSw; go_simp; try with_reducible rfl)
            (try simp only [Act.put, List.setIfInBounds_toArray, List.set_cons_zero, List.set_cons_succ])
            refine wpAnyH_tk (i := 6) (v := _) 90 rfl rfl (by kernel_rfl) (by kernel_rfl) (by kernel_rfl) (fun _ _ _ h => h) (show YieldsIf Try.prog _ _ _ (.pointer (some ⟨g, b * 12, none⟩)) _ from Or.inl ⟨(by rfl), fun w hSw => by go_simp; try omega⟩) hHeld ?_
            (try simp only [Act.put, List.setIfInBounds_toArray, List.set_cons_zero, List.set_cons_succ])
            refine wpAnyH_tk (i := 8) (v := ?vz16) 92 rfl rfl (by kernel_rfl) (by kernel_rfl) (by kernel_rfl) (fun _ _ _ h => h) (Or.inl ⟨by rfl, ?yz16⟩) hHeld ?rz16
            case yz16 => (intro w hSw; go_simp; try with_reducible rfl)
            (try simp only [Act.put, List.setIfInBounds_toArray, List.set_cons_zero, List.set_cons_succ])
            refine wpAnyH_tk (i := 9) (v := ?vz17) 93 rfl rfl (by kernel_rfl) (by kernel_rfl) (by kernel_rfl) (fun _ _ _ h => h) (Or.inl ⟨by rfl, ?yz17⟩) hHeld ?rz17
            case yz17 => (intro w hSw; go_simp; try with_reducible rfl)
            (try simp only [Act.put, List.setIfInBounds_toArray, List.set_cons_zero, List.set_cons_succ])
            refine wpAnyH_tk (i := 10) (v := _) 94 rfl rfl (by kernel_rfl) (by kernel_rfl) (by kernel_rfl) (fun _ _ _ h => h) (show YieldsIf Try.prog _ _ _ (.pointer (some ⟨g, a * 12, none⟩)) _ from Or.inl ⟨(by rfl), fun w hSw => by go_simp; try omega⟩) hHeld ?_
            (try simp only [Act.put, List.setIfInBounds_toArray, List.set_cons_zero, List.set_cons_succ])
            refine wpAnyH_ready (rs := [7, 11]) (by kernel_rfl) (by simp) (AllReadyH.cons rfl (fun K hK => ?_) (AllReadyH.cons rfl (fun K hK => ?_) AllReadyH.nil))
            · skip
              rw [if_pos (by rfl)]
              refine step_load58 91 rfl (.tmp 90) rfl ⟨g, b * 12, none⟩ rfl (lf m b) hlb2 HCB.out ?_
              refine hK.out _ _ (by exact hHeld) (fun hHeld => ?_)
              clear hK K
              (try simp only [Act.put, List.setIfInBounds_toArray, List.set_cons_zero, List.set_cons_succ])
              refine wpAnyH_one (i := 11) (by kernel_rfl) rfl (fun K hK => ?_)
              rw [if_pos (by rfl)]
              refine step_load58 95 rfl (.tmp 94) rfl ⟨g, a * 12, none⟩ rfl (lf m a) hla HCA.out ?_
              refine hK.out _ _ (by exact hHeld) (fun hHeld => ?_)
              clear hK K
              (try simp only [Act.put, List.setIfInBounds_toArray, List.set_cons_zero, List.set_cons_succ])
              refine wpAnyH_tk (i := 12) (v := _) 96 rfl rfl (by kernel_rfl) (by kernel_rfl) (by kernel_rfl) (fun _ _ _ h => h) (show YieldsIf Try.prog _ _ _ (.pointer (some ⟨g, a * 12, none⟩)) _ from Or.inl ⟨(by rfl), fun w hSw => by go_simp; try omega⟩) hHeld ?_
              (try simp only [Act.put, List.setIfInBounds_toArray, List.set_cons_zero, List.set_cons_succ])
              refine wpAnyH_one (i := 13) (by kernel_rfl) rfl (fun K hK => ?_)
              rw [if_pos (by rfl)]
              refine step_store58 (B := B) rfl (.tmp 96) (.tmp 91) rfl g a cm p rfl (lf m b) hlb2 rfl (Kd.R_drew HR.out) hap ?_; intro w5 hR5 hg5
              refine hK.out _ _ (by exact HMV.out w5 hg5) (fun hHeld => ?_)
              clear hK K
              (try simp only [Act.put, List.setIfInBounds_toArray, List.set_cons_zero, List.set_cons_succ])
              refine wpAnyH_tk (i := 14) (v := _) 97 rfl rfl (by kernel_rfl) (by kernel_rfl) (by kernel_rfl) (fun _ _ _ h => h) (show YieldsIf Try.prog _ _ _ (.pointer (some ⟨g, b * 12, none⟩)) _ from Or.inl ⟨(by rfl), fun w hSw => by go_simp; try omega⟩) hHeld ?_
              (try simp only [Act.put, List.setIfInBounds_toArray, List.set_cons_zero, List.set_cons_succ])
              refine wpAnyH_one (i := 15) (by kernel_rfl) rfl (fun K hK => ?_)
              rw [if_pos (by rfl)]
              refine step_store58 (B := B) rfl (.tmp 97) (.tmp 95) rfl g b cm p rfl (lf m a) hla rfl hR5 hbp ?_; intro w6 hR6 hg6; have HT6 := Aside0.mk (HMU.out w5 w6 hg5 hg6).1; have HK6 := Aside0.mk (HMU.out w5 w6 hg5 hg6).2
              refine hK.out _ _ (by exact HK6.out.below) (fun hHeld => ?_)
              clear hK K
              (try simp only [Act.put, List.setIfInBounds_toArray, List.set_cons_zero, List.set_cons_succ])
              refine wpAnyH_done (by kernel_rfl) ?_ _
              (go_wp2_with fail; go_roundw; (case rel => exact ⟨k + 1, by omega, by go_num, _, HSW, ⟨hR6⟩, HT6, HK6⟩); (case measure => simp [intOf]; omega))
            · skip
              rw [if_pos (by rfl)]
              refine step_load58 95 rfl (.tmp 94) rfl ⟨g, a * 12, none⟩ rfl (lf m a) hla HCA.out ?_
              refine hK.out _ _ (by exact hHeld) (fun hHeld => ?_)
              clear hK K
              (try simp only [Act.put, List.setIfInBounds_toArray, List.set_cons_zero, List.set_cons_succ])
              refine wpAnyH_one (i := 7) (by kernel_rfl) rfl (fun K hK => ?_)
              rw [if_pos (by rfl)]
              refine step_load58 91 rfl (.tmp 90) rfl ⟨g, b * 12, none⟩ rfl (lf m b) hlb2 HCB.out ?_
              refine hK.out _ _ (by exact hHeld) (fun hHeld => ?_)
              clear hK K
              (try simp only [Act.put, List.setIfInBounds_toArray, List.set_cons_zero, List.set_cons_succ])
              refine wpAnyH_tk (i := 12) (v := _) 96 rfl rfl (by kernel_rfl) (by kernel_rfl) (by kernel_rfl) (fun _ _ _ h => h) (show YieldsIf Try.prog _ _ _ (.pointer (some ⟨g, a * 12, none⟩)) _ from Or.inl ⟨(by rfl), fun w hSw => by go_simp; try omega⟩) hHeld ?_
              (try simp only [Act.put, List.setIfInBounds_toArray, List.set_cons_zero, List.set_cons_succ])
              refine wpAnyH_one (i := 13) (by kernel_rfl) rfl (fun K hK => ?_)
              rw [if_pos (by rfl)]
              refine step_store58 (B := B) rfl (.tmp 96) (.tmp 91) rfl g a cm p rfl (lf m b) hlb2 rfl (Kd.R_drew HR.out) hap ?_; intro w5 hR5 hg5
              refine hK.out _ _ (by exact HMV.out w5 hg5) (fun hHeld => ?_)
              clear hK K
              (try simp only [Act.put, List.setIfInBounds_toArray, List.set_cons_zero, List.set_cons_succ])
              refine wpAnyH_tk (i := 14) (v := _) 97 rfl rfl (by kernel_rfl) (by kernel_rfl) (by kernel_rfl) (fun _ _ _ h => h) (show YieldsIf Try.prog _ _ _ (.pointer (some ⟨g, b * 12, none⟩)) _ from Or.inl ⟨(by rfl), fun w hSw => by go_simp; try omega⟩) hHeld ?_
              (try simp only [Act.put, List.setIfInBounds_toArray, List.set_cons_zero, List.set_cons_succ])
              refine wpAnyH_one (i := 15) (by kernel_rfl) rfl (fun K hK => ?_)
              rw [if_pos (by rfl)]
              refine step_store58 (B := B) rfl (.tmp 97) (.tmp 95) rfl g b cm p rfl (lf m a) hla rfl hR5 hbp ?_; intro w6 hR6 hg6; have HT6 := Aside0.mk (HMU.out w5 w6 hg5 hg6).1; have HK6 := Aside0.mk (HMU.out w5 w6 hg5 hg6).2
              refine hK.out _ _ (by exact HK6.out.below) (fun hHeld => ?_)
              clear hK K
              (try simp only [Act.put, List.setIfInBounds_toArray, List.set_cons_zero, List.set_cons_succ])
              refine wpAnyH_done (by kernel_rfl) ?_ _
              (go_wp2_with fail; go_roundw; (case rel => exact ⟨k + 1, by omega, by go_num, _, HSW, ⟨hR6⟩, HT6, HK6⟩); (case measure => simp [intOf]; omega))
          · have hCm := (Kd.R_reads' HR.out).2.2
            rw [hml] at hCm
            have HCM := Aside0.mk hCm
            have HOK := Aside0.mk (HM.out)
            have hn4 : n ≤ 4096 := by omega
            have HRB := Aside0.mk (fun w' (hb : Below wr.heap.size wr w') => (Kd.R_below HR.out hb : RL w' B (.slice Am p cm) m))
            by_cases hko : k < od.length
            · have hp0 : p = 0 := by omega
              have hd : decide ((k : Int) < od.length) = true := by simp; omega
              have hd2 : decide (0 < (p : Int)) = false := by simp; omega
              have HP0 := Aside0.mk hp0
              clear hp0
              go_upto_region 16 with (fail)
              go_wp2_with fail
              have hof := of_calls wr n Am cm m (by rw [hml]; exact HCM.out) (by omega)
              rw [hml] at hof
              refine hof.mono ?_
              rintro e w4 ⟨v4, rfl, hb4, _, hv4⟩
              have hcode : codeOf (n : Int) m = 0 := codeOf_ok hn4 (Mix.ok (by rw [← HPG.out]; exact HOK.out) (by rw [← HPG.out]; exact hps) HP.out HNN.out)
              rw [hcode]
              obtain ⟨t2, lb2, db2, rfl, hT2, _, _, _, ht2, hlb2, hdb2⟩ := hv4 hcode
              rw [Int.toNat_natCast, ← HPG.out, HOK.out.places hps] at hT2
              have HT4 := Aside0.mk (HT.out.below' hb4)
              have HU4 := Aside0.mk hT2
              have H4 := Aside0.mk (HK.out.step hb4)
              have HR4 := Aside0.mk (HRB.out w4 hb4)
              clear hof hv4 hcode hT2 HT HRB HCM hb4
              obtain ⟨q, hq⟩ : ∃ q, q = ps.take n := ⟨_, rfl⟩
              have htl := take_len (n := n) (ps := ps) (by rw [← HPG.out]; exact hps)
              rw [← hq] at htl
              have HQ := Aside0.mk hq
              clear hq
              go_wp2_with fail
              refine (places_calls _ t lb db n ps _ HT4.out).mono ?_
              rintro e w5 ⟨g1, rfl, hB1, hg1, hb⟩
              rw [← HQ.out] at hB1
              have HT5 := Aside0.mk (HT4.out.below' hb)
              have HU5 := Aside0.mk (HU4.out.below' hb)
              have H5 := Aside0.mk ((H4.out.step hb).cons hB1)
              have HR5 := Aside0.mk (Kd.R_below HR4.out hb)
              clear hB1 hb HT4 HU4 H4 HR4
              go_wp2_with fail
              refine (places_calls _ t2 lb2 db2 n ps _ HU5.out).mono ?_
              rintro e w6 ⟨g2, rfl, hB2, hg2, hb⟩
              rw [← HQ.out] at hB2
              have HT6 := Aside0.mk (HT5.out.below' hb)
              have HU6 := Aside0.mk (HU5.out.below' hb)
              have H6 := Aside0.mk ((H5.out.step hb).cons hB2)
              have HR6 := Aside0.mk (Kd.R_below HR5.out hb)
              have HI1 := Aside0.mk (show CI w6 (some ⟨g1, 0, none⟩) n q by have := blk_reads H6.out.tail.head (by omega); rwa [htl] at this)
              have HI2 := Aside0.mk (show CI w6 (some ⟨g2, 0, none⟩) n q by have := blk_reads H6.out.head (by omega); rwa [htl] at this)
              clear hB2 hb HT5 HU5 H5 HR5
              go_wp2_with fail
              refine (same_calls _ _ n n q HI1.out _ n n q HI2.out (by omega) (by omega)).mono ?_
              rintro e w7 ⟨rfl, hb⟩
              rw [decide_eq_true rfl]
              have HT7 := Aside0.mk (HT6.out.below' hb)
              have HU7 := Aside0.mk (HU6.out.below' hb)
              have H7 := Aside0.mk (H6.out.step hb)
              have HR7 := Aside0.mk (Kd.R_below HR6.out hb)
              clear hb HT6 HU6 H6 HR6 HI1 HI2
              go_wp2_with fail
              refine (count_calls _ t lb db n ps _ HT7.out).mono ?_
              rintro e w8 ⟨rfl, hb⟩
              rw [← HQ.out]
              have HU8 := Aside0.mk (HU7.out.below' hb)
              have H8 := Aside0.mk (H7.out.step hb)
              have HR8 := Aside0.mk (Kd.R_below HR7.out hb)
              clear hb HT7 HU7 H7 HR7
              obtain ⟨s, hs⟩ : ∃ s, s = some0 q := ⟨_, rfl⟩
              have HS := Aside0.mk hs
              rw [← hs]
              clear hs
              go_wp2_with fail
              refine (count_calls _ t2 lb2 db2 n ps _ HU8.out).mono ?_
              rintro e w9 ⟨rfl, hb⟩
              rw [← HQ.out, ← HS.out]
              have H9 := Aside0.mk (H8.out.step hb)
              have HR9 := Aside0.mk (Kd.R_below HR8.out hb)
              have hss : (s != s) = false := by simp
              clear hb HU8 H8 HR8
              have hpz : ((p : Int) == 0) = true := by have := HP0.out; simp; omega
              go_wp2_with fail
              go_ret
              exact ⟨rfl, H9.out.below⟩
            · obtain rfl : k = od.length := by omega
              have hd : decide ((od.length : Int) < od.length) = false := by simp
              go_upto_region 16 with (fail)
              go_wp2_with fail
              have hof := of_calls wr n Am cm m (by rw [hml]; exact HCM.out) (by omega)
              rw [hml] at hof
              refine hof.mono ?_
              rintro e w4 ⟨v4, rfl, hb4, _, hv4⟩
              have hcode : codeOf (n : Int) m = 0 := codeOf_ok hn4 (Mix.ok (by rw [← HPG.out]; exact HOK.out) (by rw [← HPG.out]; exact hps) HP.out HNN.out)
              rw [hcode]
              obtain ⟨t2, lb2, db2, rfl, hT2, _, _, _, ht2, hlb2, hdb2⟩ := hv4 hcode
              rw [Int.toNat_natCast, ← HPG.out, HOK.out.places hps] at hT2
              have HT4 := Aside0.mk (HT.out.below' hb4)
              have HU4 := Aside0.mk hT2
              have H4 := Aside0.mk (HK.out.step hb4)
              have HR4 := Aside0.mk (HRB.out w4 hb4)
              clear hof hv4 hcode hT2 HT HRB HCM hb4
              obtain ⟨q, hq⟩ : ∃ q, q = ps.take n := ⟨_, rfl⟩
              have htl := take_len (n := n) (ps := ps) (by rw [← HPG.out]; exact hps)
              rw [← hq] at htl
              have HQ := Aside0.mk hq
              clear hq
              go_wp2_with fail
              refine (places_calls _ t lb db n ps _ HT4.out).mono ?_
              rintro e w5 ⟨g1, rfl, hB1, hg1, hb⟩
              rw [← HQ.out] at hB1
              have HT5 := Aside0.mk (HT4.out.below' hb)
              have HU5 := Aside0.mk (HU4.out.below' hb)
              have H5 := Aside0.mk ((H4.out.step hb).cons hB1)
              have HR5 := Aside0.mk (Kd.R_below HR4.out hb)
              clear hB1 hb HT4 HU4 H4 HR4
              go_wp2_with fail
              refine (places_calls _ t2 lb2 db2 n ps _ HU5.out).mono ?_
              rintro e w6 ⟨g2, rfl, hB2, hg2, hb⟩
              rw [← HQ.out] at hB2
              have HT6 := Aside0.mk (HT5.out.below' hb)
              have HU6 := Aside0.mk (HU5.out.below' hb)
              have H6 := Aside0.mk ((H5.out.step hb).cons hB2)
              have HR6 := Aside0.mk (Kd.R_below HR5.out hb)
              have HI1 := Aside0.mk (show CI w6 (some ⟨g1, 0, none⟩) n q by have := blk_reads H6.out.tail.head (by omega); rwa [htl] at this)
              have HI2 := Aside0.mk (show CI w6 (some ⟨g2, 0, none⟩) n q by have := blk_reads H6.out.head (by omega); rwa [htl] at this)
              clear hB2 hb HT5 HU5 H5 HR5
              go_wp2_with fail
              refine (same_calls _ _ n n q HI1.out _ n n q HI2.out (by omega) (by omega)).mono ?_
              rintro e w7 ⟨rfl, hb⟩
              rw [decide_eq_true rfl]
              have HT7 := Aside0.mk (HT6.out.below' hb)
              have HU7 := Aside0.mk (HU6.out.below' hb)
              have H7 := Aside0.mk (H6.out.step hb)
              have HR7 := Aside0.mk (Kd.R_below HR6.out hb)
              clear hb HT6 HU6 H6 HR6 HI1 HI2
              go_wp2_with fail
              refine (count_calls _ t lb db n ps _ HT7.out).mono ?_
              rintro e w8 ⟨rfl, hb⟩
              rw [← HQ.out]
              have HU8 := Aside0.mk (HU7.out.below' hb)
              have H8 := Aside0.mk (H7.out.step hb)
              have HR8 := Aside0.mk (Kd.R_below HR7.out hb)
              clear hb HT7 HU7 H7 HR7
              obtain ⟨s, hs⟩ : ∃ s, s = some0 q := ⟨_, rfl⟩
              have HS := Aside0.mk hs
              rw [← hs]
              clear hs
              go_wp2_with fail
              refine (count_calls _ t2 lb2 db2 n ps _ HU8.out).mono ?_
              rintro e w9 ⟨rfl, hb⟩
              rw [← HQ.out, ← HS.out]
              have H9 := Aside0.mk (H8.out.step hb)
              have HR9 := Aside0.mk (Kd.R_below HR8.out hb)
              have hss : (s != s) = false := by simp
              clear hb HU8 H8 HR8
              by_cases hp0 : p = 0
              · have hpz : ((p : Int) == 0) = true := by simp; omega
                clear hp0
                go_wp2_with fail
                go_ret
                exact ⟨rfl, H9.out.below⟩
              · have hpz : ((p : Int) == 0) = false := by simp; omega
                have hp1 : 1 ≤ p := by omega
                obtain ⟨g, cap, e, hgB, hgw, _⟩ := Kd.R_form HR9.out (by omega)
                injection e with e1 e2 e3
                subst e1
                clear e2 e3
                have HC9 := Aside0.mk (show CL w9 (some ⟨g, 0, none⟩) p m by have := (Kd.R_reads' HR9.out).2.2; rwa [hml] at this)
                by_cases hcm : cm = 1
                · subst hcm
                  have hCD := Aside0.mk (show CL w9 (some ⟨g, 0, none⟩) 0 (m.drop 1) by
                    have h0 : p = 1 := by omega
                    have h1 : m.drop 1 = [] := List.drop_eq_nil_of_le (by omega)
                    rw [h1]
                    exact ⟨rfl, by simp, fun h => by simp at h⟩)
                  go_wp2_with fail
                  have hof2 := of_calls w9 n (some ⟨g, 0, none⟩) (0) (m.drop 1) (by rw [show (m.drop 1).length = 0 by rw [List.length_drop]; omega]; exact hCD.out) (by rw [List.length_drop]; omega)
                  rw [show (m.drop 1).length = 0 by rw [List.length_drop]; omega] at hof2
                  refine hof2.mono ?_
                  rintro e w10 ⟨v10, rfl, hb10, _, _⟩
                  rw [codeOf_no hn4 (not_ok (by rw [List.length_drop, hml, ← HPG.out]; omega))]
                  have H10 := Aside0.mk (H9.out.step hb10)
                  have HC10 := Aside0.mk (show CL w10 (some ⟨g, 0, none⟩) p m from Kd.C_below HC9.out hb10)
                  have HR10 := Aside0.mk (Kd.R_below HR9.out hb10)
                  clear hof2 hb10 H9 HC9 HR9 hCD
                  go_upto_region 22 with (fail)
                  have hl0 : (lf m 0).ps.length = 10 := HOK.out.ten _ (lf_mem (by omega))
                  have HC0 := Aside0.mk (cells_at HR10.out 0 (by omega))
                  refine wp_region_held_drew (S := (fun w' => Below w10.heap.size w10 w')) (by kernel_rfl) (by exact pw_below_drewN (Below.refl _ _) 1) (fun hHeld => ?_)
                  refine wpAnyH_tk (i := 0) (v := ?vz18) 134 rfl rfl (by kernel_rfl) (by kernel_rfl) (by kernel_rfl) (fun _ _ _ h => h) (Or.inl ⟨by rfl, ?yz18⟩) hHeld ?rz18
                  case yz18 => (intro w hSw; go_simp; try with_reducible rfl)
                  (try simp only [Act.put, List.setIfInBounds_toArray, List.set_cons_zero, List.set_cons_succ])
                  refine wpAnyH_tk (i := 1) (v := ?vz19) 135 rfl rfl (by kernel_rfl) (by kernel_rfl) (by kernel_rfl) (fun _ _ _ h => h) (Or.inl ⟨by rfl, ?yz19⟩) hHeld ?rz19
                  case yz19 => (intro w hSw; go_simp; try with_reducible rfl)
                  (try simp only [Act.put, List.setIfInBounds_toArray, List.set_cons_zero, List.set_cons_succ])
                  refine wpAnyH_tk (i := 3) (v := ?vz20) 137 rfl rfl (by kernel_rfl) (by kernel_rfl) (by kernel_rfl) (fun _ _ _ h => h) (Or.inl ⟨by rfl, ?yz20⟩) hHeld ?rz20
                  case yz20 => (intro w hSw; go_simp; try with_reducible rfl)
                  (try simp only [Act.put, List.setIfInBounds_toArray, List.set_cons_zero, List.set_cons_succ])
                  refine wpAnyH_tk (i := 5) (v := ?vz21) 139 rfl rfl (by kernel_rfl) (by kernel_rfl) (by kernel_rfl) (fun _ _ _ h => h) (Or.inl ⟨by rfl, ?yz21⟩) hHeld ?rz21
                  case yz21 => (intro w hSw; go_simp; try with_reducible rfl)
                  (try simp only [Act.put, List.setIfInBounds_toArray, List.set_cons_zero, List.set_cons_succ])
                  refine wpAnyH_tk (i := 6) (v := _) 140 rfl rfl (by kernel_rfl) (by kernel_rfl) (by kernel_rfl) (fun _ _ _ h => h) (show YieldsIf Try.prog _ _ _ (.pointer (some ⟨g, 0, none⟩)) _ from Or.inl ⟨(by rfl), fun w hSw => by go_simp; try omega⟩) hHeld ?_
                  (try simp only [Act.put, List.setIfInBounds_toArray, List.set_cons_zero, List.set_cons_succ])
                  refine wpAnyH_tk (i := 7) (v := _) 141 rfl rfl (by kernel_rfl) (by kernel_rfl) (by kernel_rfl) (fun _ _ _ h => h) (yields_load58 (by rfl) (.tmp 140) rfl ⟨g, 0, none⟩ rfl (lf m 0) hl0 (fun w' h j u hu => pw_cell_below h (HC0.out j u hu))) hHeld ?_
                  (try simp only [Act.put, List.setIfInBounds_toArray, List.set_cons_zero, List.set_cons_succ])
                  refine wpAnyH_ready (rs := [2, 8]) (by kernel_rfl) (by simp) (AllReadyH.cons rfl (fun K hK => ?_) (AllReadyH.cons rfl (fun K hK => ?_) AllReadyH.nil))
                  · skip
                    rw [if_pos (by rfl)]
                    refine lit0_leaf 136 rfl rfl rfl (Below.refl _ _) (Nat.le_refl _) ?_; intro vA wA hA hAb hAg; (try replace hB := Kd.R_elder hB hA hAb); replace hA := Kd.R_lower hA hHeld.size; have hS1 := hHeld.trans (hAb.mono hHeld.size)
                    refine hK.out _ _ (by exact hS1) (fun hHeld => ?_)
                    clear hK K
                    (try simp only [Act.put, List.setIfInBounds_toArray, List.set_cons_zero, List.set_cons_succ])
                    refine wpAnyH_ready (rs := [4, 8]) (by kernel_rfl) (by simp) (AllReadyH.cons rfl (fun K hK => ?_) (AllReadyH.cons rfl (fun K hK => ?_) AllReadyH.nil))
                    · skip
                      rw [if_pos (by rfl)]
                      refine apps_leaf 138 rfl (.tmp 136) (.tmp 137) rfl rfl vA [] m _ _ _ rfl rfl hA (Kd.C_below HC10.out hHeld) (w0 := w10) (B := w10.heap.size) hHeld hHeld.size (by simp; omega) ?_; intro vD wD hD hDb hDg; (try replace hB := Kd.R_grown hB hDg (fun k hk => hk.2))
                      refine hK.out _ _ (by exact hDb) (fun hHeld => ?_)
                      clear hK K
                      (try simp only [Act.put, List.setIfInBounds_toArray, List.set_cons_zero, List.set_cons_succ])
                      refine wpAnyH_one (i := 8) (by kernel_rfl) rfl (fun K hK => ?_)
                      rw [if_pos (by rfl)]
                      refine lit1_leaf 142 rfl (.tmp 141) rfl rfl (lf m 0) hl0 rfl (Below.refl _ _) (Nat.le_refl _) ?_; intro vB wB hB hBb hBg; (try replace hB := Kd.R_newR hB hA); (try replace hA := Kd.R_below hA hBb); (try replace hD := Kd.R_below hD hBb); have hS2 := hHeld.trans (hBb.mono hHeld.size)
                      refine hK.out _ _ (by exact hS2) (fun hHeld => ?_)
                      clear hK K
                      (try simp only [Act.put, List.setIfInBounds_toArray, List.set_cons_zero, List.set_cons_succ])
                      refine wpAnyH_one (i := 9) (by kernel_rfl) rfl (fun K hK => ?_)
                      rw [if_pos (by rfl)]
                      obtain ⟨Ab, cb, rfl, hcb, hCB⟩ := Kd.R_reads hB; refine apps_leaf 143 rfl (.tmp 138) (.tmp 142) rfl rfl vD ([] ++ m) [lf m 0] _ _ _ rfl rfl hD hCB (w0 := w10) (B := w10.heap.size) hHeld hHeld.size (by simp; omega) ?_; intro vE wE hE hEb _; obtain ⟨Ae, ce, rfl, hce, hCE⟩ := Kd.R_reads hE; obtain ⟨q2, hq2⟩ : ∃ q2, q2 = ([] ++ m ++ [lf m 0]).length := ⟨_, rfl⟩; have HQ2 := Aside0.mk hq2; rw [← hq2] at hCE ⊢; clear hq2; have hq3 : q2 = p + 1 := (by have := HQ2.out; simp at this; omega); have HOF := Aside0.mk (of_calls wE n Ae ce ([] ++ m ++ [lf m 0]) (by rw [← HQ2.out]; exact hCE) (by rw [← HQ2.out]; omega)); rw [← HQ2.out] at HOF; have HQ3 := Aside0.mk hq3; clear hCE hCB hq3 hce hcb
                      refine hK.out _ _ (by exact hEb) (fun hHeld => ?_)
                      clear hK K
                      (try simp only [Act.put, List.setIfInBounds_toArray, List.set_cons_zero, List.set_cons_succ])
                      refine wpAnyH_one (i := 10) (by kernel_rfl) rfl (fun K hK => ?_)
                      go_simp
                      go_wp2_with ((rw [IntWalk.i64_in (n : Int) (by omega)]; go_at_call 31; refine HOF.out.mono ?_; rintro e wF ⟨v11, rfl, hb11, _, _⟩; rw [codeOf_no hn4 (not_ok (by rw [← HQ2.out, HQ3.out, ← HPG.out]; omega))]; have hS4 := hHeld.trans (hb11.mono hHeld.size)))
                      refine hK.out _ _ (by exact hS4) (fun hHeld => ?_)
                      clear hK K
                      refine wpAnyH_tk (i := 11) (v := ?vz22) 133 rfl rfl (by kernel_rfl) (by kernel_rfl) (by kernel_rfl) (fun _ _ _ h => h) (Or.inl ⟨by rfl, ?yz22⟩) hHeld ?rz22
                      case yz22 => (intro w hSw; go_simp; try with_reducible rfl)
                      (try simp only [Act.put, List.setIfInBounds_toArray, List.set_cons_zero, List.set_cons_succ])
                      refine wpAnyH_tk (i := 12) (v := ?vz23) 145 rfl rfl (by kernel_rfl) (by kernel_rfl) (by kernel_rfl) (fun _ _ _ h => h) (Or.inl ⟨by rfl, ?yz23⟩) hHeld ?rz23
                      case yz23 => (intro w hSw; go_simp; try with_reducible rfl)
                      (try simp only [Act.put, List.setIfInBounds_toArray, List.set_cons_zero, List.set_cons_succ])
                      refine wpAnyH_tk (i := 13) (v := ?vz24) 146 rfl rfl (by kernel_rfl) (by kernel_rfl) (by kernel_rfl) (fun _ _ _ h => h) (Or.inl ⟨by rfl, ?yz24⟩) hHeld ?rz24
                      case yz24 => (intro w hSw; go_simp; try with_reducible rfl)
                      (try simp only [Act.put, List.setIfInBounds_toArray, List.set_cons_zero, List.set_cons_succ])
                      refine wpAnyH_tk (i := 14) (v := ?vz25) 17 rfl rfl (by kernel_rfl) (by kernel_rfl) (by kernel_rfl) (fun _ _ _ h => h) (Or.inl ⟨by rfl, ?yz25⟩) hHeld ?rz25
                      case yz25 => (intro w hSw; go_simp; try with_reducible rfl)
                      (try simp only [Act.put, List.setIfInBounds_toArray, List.set_cons_zero, List.set_cons_succ])
                      refine wpAnyH_tk (i := 15) (v := ?vz26) 18 rfl rfl (by kernel_rfl) (by kernel_rfl) (by kernel_rfl) (fun _ _ _ h => h) (Or.inl ⟨by rfl, ?yz26⟩) hHeld ?rz26
                      case yz26 => (intro w hSw; go_simp; try with_reducible rfl)
                      (try simp only [Act.put, List.setIfInBounds_toArray, List.set_cons_zero, List.set_cons_succ])
                      refine wpAnyH_done (by kernel_rfl) ?_ _
                      (go_wp2_with fail; go_ret; exact ⟨rfl, H10.out.below.trans (hHeld.mono H10.out.size)⟩)
                    · skip
                      rw [if_pos (by rfl)]
                      refine lit1_leaf 142 rfl (.tmp 141) rfl rfl (lf m 0) hl0 rfl (Below.refl _ _) (Nat.le_refl _) ?_; intro vB wB hB hBb hBg; (try replace hB := Kd.R_newR hB hA); (try replace hA := Kd.R_below hA hBb); (try replace hD := Kd.R_below hD hBb); have hS2 := hHeld.trans (hBb.mono hHeld.size)
                      refine hK.out _ _ (by exact hS2) (fun hHeld => ?_)
                      clear hK K
                      (try simp only [Act.put, List.setIfInBounds_toArray, List.set_cons_zero, List.set_cons_succ])
                      refine wpAnyH_one (i := 4) (by kernel_rfl) rfl (fun K hK => ?_)
                      rw [if_pos (by rfl)]
                      refine apps_leaf 138 rfl (.tmp 136) (.tmp 137) rfl rfl vA [] m _ _ _ rfl rfl hA (Kd.C_below HC10.out hHeld) (w0 := w10) (B := w10.heap.size) hHeld hHeld.size (by simp; omega) ?_; intro vD wD hD hDb hDg; (try replace hB := Kd.R_grown hB hDg (fun k hk => hk.2))
                      refine hK.out _ _ (by exact hDb) (fun hHeld => ?_)
                      clear hK K
                      (try simp only [Act.put, List.setIfInBounds_toArray, List.set_cons_zero, List.set_cons_succ])
                      refine wpAnyH_one (i := 9) (by kernel_rfl) rfl (fun K hK => ?_)
                      rw [if_pos (by rfl)]
                      obtain ⟨Ab, cb, rfl, hcb, hCB⟩ := Kd.R_reads hB; refine apps_leaf 143 rfl (.tmp 138) (.tmp 142) rfl rfl vD ([] ++ m) [lf m 0] _ _ _ rfl rfl hD hCB (w0 := w10) (B := w10.heap.size) hHeld hHeld.size (by simp; omega) ?_; intro vE wE hE hEb _; obtain ⟨Ae, ce, rfl, hce, hCE⟩ := Kd.R_reads hE; obtain ⟨q2, hq2⟩ : ∃ q2, q2 = ([] ++ m ++ [lf m 0]).length := ⟨_, rfl⟩; have HQ2 := Aside0.mk hq2; rw [← hq2] at hCE ⊢; clear hq2; have hq3 : q2 = p + 1 := (by have := HQ2.out; simp at this; omega); have HOF := Aside0.mk (of_calls wE n Ae ce ([] ++ m ++ [lf m 0]) (by rw [← HQ2.out]; exact hCE) (by rw [← HQ2.out]; omega)); rw [← HQ2.out] at HOF; have HQ3 := Aside0.mk hq3; clear hCE hCB hq3 hce hcb
                      refine hK.out _ _ (by exact hEb) (fun hHeld => ?_)
                      clear hK K
                      (try simp only [Act.put, List.setIfInBounds_toArray, List.set_cons_zero, List.set_cons_succ])
                      refine wpAnyH_one (i := 10) (by kernel_rfl) rfl (fun K hK => ?_)
                      go_simp
                      go_wp2_with ((rw [IntWalk.i64_in (n : Int) (by omega)]; go_at_call 31; refine HOF.out.mono ?_; rintro e wF ⟨v11, rfl, hb11, _, _⟩; rw [codeOf_no hn4 (not_ok (by rw [← HQ2.out, HQ3.out, ← HPG.out]; omega))]; have hS4 := hHeld.trans (hb11.mono hHeld.size)))
                      refine hK.out _ _ (by exact hS4) (fun hHeld => ?_)
                      clear hK K
                      refine wpAnyH_tk (i := 11) (v := ?vz27) 133 rfl rfl (by kernel_rfl) (by kernel_rfl) (by kernel_rfl) (fun _ _ _ h => h) (Or.inl ⟨by rfl, ?yz27⟩) hHeld ?rz27
                      case yz27 => (intro w hSw; go_simp; try with_reducible rfl)
                      (try simp only [Act.put, List.setIfInBounds_toArray, List.set_cons_zero, List.set_cons_succ])
                      refine wpAnyH_tk (i := 12) (v := ?vz28) 145 rfl rfl (by kernel_rfl) (by kernel_rfl) (by kernel_rfl) (fun _ _ _ h => h) (Or.inl ⟨by rfl, ?yz28⟩) hHeld ?rz28
                      case yz28 => (intro w hSw; go_simp; try with_reducible rfl)
                      (try simp only [Act.put, List.setIfInBounds_toArray, List.set_cons_zero, List.set_cons_succ])
                      refine wpAnyH_tk (i := 13) (v := ?vz29) 146 rfl rfl (by kernel_rfl) (by kernel_rfl) (by kernel_rfl) (fun _ _ _ h => h) (Or.inl ⟨by rfl, ?yz29⟩) hHeld ?rz29
                      case yz29 => (intro w hSw; go_simp; try with_reducible rfl)
                      (try simp only [Act.put, List.setIfInBounds_toArray, List.set_cons_zero, List.set_cons_succ])
                      refine wpAnyH_tk (i := 14) (v := ?vz30) 17 rfl rfl (by kernel_rfl) (by kernel_rfl) (by kernel_rfl) (fun _ _ _ h => h) (Or.inl ⟨by rfl, ?yz30⟩) hHeld ?rz30
                      case yz30 => (intro w hSw; go_simp; try with_reducible rfl)
                      (try simp only [Act.put, List.setIfInBounds_toArray, List.set_cons_zero, List.set_cons_succ])
                      refine wpAnyH_tk (i := 15) (v := ?vz31) 18 rfl rfl (by kernel_rfl) (by kernel_rfl) (by kernel_rfl) (fun _ _ _ h => h) (Or.inl ⟨by rfl, ?yz31⟩) hHeld ?rz31
                      case yz31 => (intro w hSw; go_simp; try with_reducible rfl)
                      (try simp only [Act.put, List.setIfInBounds_toArray, List.set_cons_zero, List.set_cons_succ])
                      refine wpAnyH_done (by kernel_rfl) ?_ _
                      (go_wp2_with fail; go_ret; exact ⟨rfl, H10.out.below.trans (hHeld.mono H10.out.size)⟩)
                  · skip
                    rw [if_pos (by rfl)]
                    refine lit1_leaf 142 rfl (.tmp 141) rfl rfl (lf m 0) hl0 rfl (Below.refl _ _) (Nat.le_refl _) ?_; intro vB wB hB hBb hBg; (try replace hB := Kd.R_newR hB hA); (try replace hA := Kd.R_below hA hBb); (try replace hD := Kd.R_below hD hBb); have hS2 := hHeld.trans (hBb.mono hHeld.size)
                    refine hK.out _ _ (by exact hS2) (fun hHeld => ?_)
                    clear hK K
                    (try simp only [Act.put, List.setIfInBounds_toArray, List.set_cons_zero, List.set_cons_succ])
                    refine wpAnyH_one (i := 2) (by kernel_rfl) rfl (fun K hK => ?_)
                    rw [if_pos (by rfl)]
                    refine lit0_leaf 136 rfl rfl rfl (Below.refl _ _) (Nat.le_refl _) ?_; intro vA wA hA hAb hAg; (try replace hB := Kd.R_elder hB hA hAb); replace hA := Kd.R_lower hA hHeld.size; have hS1 := hHeld.trans (hAb.mono hHeld.size)
                    refine hK.out _ _ (by exact hS1) (fun hHeld => ?_)
                    clear hK K
                    (try simp only [Act.put, List.setIfInBounds_toArray, List.set_cons_zero, List.set_cons_succ])
                    refine wpAnyH_one (i := 4) (by kernel_rfl) rfl (fun K hK => ?_)
                    rw [if_pos (by rfl)]
                    refine apps_leaf 138 rfl (.tmp 136) (.tmp 137) rfl rfl vA [] m _ _ _ rfl rfl hA (Kd.C_below HC10.out hHeld) (w0 := w10) (B := w10.heap.size) hHeld hHeld.size (by simp; omega) ?_; intro vD wD hD hDb hDg; (try replace hB := Kd.R_grown hB hDg (fun k hk => hk.2))
                    refine hK.out _ _ (by exact hDb) (fun hHeld => ?_)
                    clear hK K
                    (try simp only [Act.put, List.setIfInBounds_toArray, List.set_cons_zero, List.set_cons_succ])
                    refine wpAnyH_one (i := 9) (by kernel_rfl) rfl (fun K hK => ?_)
                    rw [if_pos (by rfl)]
                    obtain ⟨Ab, cb, rfl, hcb, hCB⟩ := Kd.R_reads hB; refine apps_leaf 143 rfl (.tmp 138) (.tmp 142) rfl rfl vD ([] ++ m) [lf m 0] _ _ _ rfl rfl hD hCB (w0 := w10) (B := w10.heap.size) hHeld hHeld.size (by simp; omega) ?_; intro vE wE hE hEb _; obtain ⟨Ae, ce, rfl, hce, hCE⟩ := Kd.R_reads hE; obtain ⟨q2, hq2⟩ : ∃ q2, q2 = ([] ++ m ++ [lf m 0]).length := ⟨_, rfl⟩; have HQ2 := Aside0.mk hq2; rw [← hq2] at hCE ⊢; clear hq2; have hq3 : q2 = p + 1 := (by have := HQ2.out; simp at this; omega); have HOF := Aside0.mk (of_calls wE n Ae ce ([] ++ m ++ [lf m 0]) (by rw [← HQ2.out]; exact hCE) (by rw [← HQ2.out]; omega)); rw [← HQ2.out] at HOF; have HQ3 := Aside0.mk hq3; clear hCE hCB hq3 hce hcb
                    refine hK.out _ _ (by exact hEb) (fun hHeld => ?_)
                    clear hK K
                    (try simp only [Act.put, List.setIfInBounds_toArray, List.set_cons_zero, List.set_cons_succ])
                    refine wpAnyH_one (i := 10) (by kernel_rfl) rfl (fun K hK => ?_)
                    go_simp
                    go_wp2_with ((rw [IntWalk.i64_in (n : Int) (by omega)]; go_at_call 31; refine HOF.out.mono ?_; rintro e wF ⟨v11, rfl, hb11, _, _⟩; rw [codeOf_no hn4 (not_ok (by rw [← HQ2.out, HQ3.out, ← HPG.out]; omega))]; have hS4 := hHeld.trans (hb11.mono hHeld.size)))
                    refine hK.out _ _ (by exact hS4) (fun hHeld => ?_)
                    clear hK K
                    refine wpAnyH_tk (i := 11) (v := ?vz32) 133 rfl rfl (by kernel_rfl) (by kernel_rfl) (by kernel_rfl) (fun _ _ _ h => h) (Or.inl ⟨by rfl, ?yz32⟩) hHeld ?rz32
                    case yz32 => (intro w hSw; go_simp; try with_reducible rfl)
                    (try simp only [Act.put, List.setIfInBounds_toArray, List.set_cons_zero, List.set_cons_succ])
                    refine wpAnyH_tk (i := 12) (v := ?vz33) 145 rfl rfl (by kernel_rfl) (by kernel_rfl) (by kernel_rfl) (fun _ _ _ h => h) (Or.inl ⟨by rfl, ?yz33⟩) hHeld ?rz33
                    case yz33 => (intro w hSw; go_simp; try with_reducible rfl)
                    (try simp only [Act.put, List.setIfInBounds_toArray, List.set_cons_zero, List.set_cons_succ])
                    refine wpAnyH_tk (i := 13) (v := ?vz34) 146 rfl rfl (by kernel_rfl) (by kernel_rfl) (by kernel_rfl) (fun _ _ _ h => h) (Or.inl ⟨by rfl, ?yz34⟩) hHeld ?rz34
                    case yz34 => (intro w hSw; go_simp; try with_reducible rfl)
                    (try simp only [Act.put, List.setIfInBounds_toArray, List.set_cons_zero, List.set_cons_succ])
                    refine wpAnyH_tk (i := 14) (v := ?vz35) 17 rfl rfl (by kernel_rfl) (by kernel_rfl) (by kernel_rfl) (fun _ _ _ h => h) (Or.inl ⟨by rfl, ?yz35⟩) hHeld ?rz35
                    case yz35 => (intro w hSw; go_simp; try with_reducible rfl)
                    (try simp only [Act.put, List.setIfInBounds_toArray, List.set_cons_zero, List.set_cons_succ])
                    refine wpAnyH_tk (i := 15) (v := ?vz36) 18 rfl rfl (by kernel_rfl) (by kernel_rfl) (by kernel_rfl) (fun _ _ _ h => h) (Or.inl ⟨by rfl, ?yz36⟩) hHeld ?rz36
                    case yz36 => (intro w hSw; go_simp; try with_reducible rfl)
                    (try simp only [Act.put, List.setIfInBounds_toArray, List.set_cons_zero, List.set_cons_succ])
                    refine wpAnyH_done (by kernel_rfl) ?_ _
                    (go_wp2_with fail; go_ret; exact ⟨rfl, H10.out.below.trans (hHeld.mono H10.out.size)⟩)
                · have hCD := Aside0.mk (CL.drop1 HC9.out hp1 hml)
                  go_wp2_with fail
                  have hof2 := of_calls w9 n (some ⟨g, 12, none⟩) (cm - 1) (m.drop 1) (by rw [List.length_drop, hml]; exact hCD.out) (by rw [List.length_drop]; omega)
                  rw [List.length_drop, hml] at hof2
                  refine hof2.mono ?_
                  rintro e w10 ⟨v10, rfl, hb10, _, _⟩
                  rw [codeOf_no hn4 (not_ok (by rw [List.length_drop, hml, ← HPG.out]; omega))]
                  have H10 := Aside0.mk (H9.out.step hb10)
                  have HC10 := Aside0.mk (show CL w10 (some ⟨g, 0, none⟩) p m from Kd.C_below HC9.out hb10)
                  have HR10 := Aside0.mk (Kd.R_below HR9.out hb10)
                  clear hof2 hb10 H9 HC9 HR9 hCD
                  go_upto_region 22 with (fail)
                  have hl0 : (lf m 0).ps.length = 10 := HOK.out.ten _ (lf_mem (by omega))
                  have HC0 := Aside0.mk (cells_at HR10.out 0 (by omega))
                  refine wp_region_held_drew (S := (fun w' => Below w10.heap.size w10 w')) (by kernel_rfl) (by exact pw_below_drewN (Below.refl _ _) 1) (fun hHeld => ?_)
                  refine wpAnyH_tk (i := 0) (v := ?vz37) 134 rfl rfl (by kernel_rfl) (by kernel_rfl) (by kernel_rfl) (fun _ _ _ h => h) (Or.inl ⟨by rfl, ?yz37⟩) hHeld ?rz37
                  case yz37 => (intro w hSw; go_simp; try with_reducible rfl)
                  (try simp only [Act.put, List.setIfInBounds_toArray, List.set_cons_zero, List.set_cons_succ])
                  refine wpAnyH_tk (i := 1) (v := ?vz38) 135 rfl rfl (by kernel_rfl) (by kernel_rfl) (by kernel_rfl) (fun _ _ _ h => h) (Or.inl ⟨by rfl, ?yz38⟩) hHeld ?rz38
                  case yz38 => (intro w hSw; go_simp; try with_reducible rfl)
                  (try simp only [Act.put, List.setIfInBounds_toArray, List.set_cons_zero, List.set_cons_succ])
                  refine wpAnyH_tk (i := 3) (v := ?vz39) 137 rfl rfl (by kernel_rfl) (by kernel_rfl) (by kernel_rfl) (fun _ _ _ h => h) (Or.inl ⟨by rfl, ?yz39⟩) hHeld ?rz39
                  case yz39 => (intro w hSw; go_simp; try with_reducible rfl)
                  (try simp only [Act.put, List.setIfInBounds_toArray, List.set_cons_zero, List.set_cons_succ])
                  refine wpAnyH_tk (i := 5) (v := ?vz40) 139 rfl rfl (by kernel_rfl) (by kernel_rfl) (by kernel_rfl) (fun _ _ _ h => h) (Or.inl ⟨by rfl, ?yz40⟩) hHeld ?rz40
                  case yz40 => (intro w hSw; go_simp; try with_reducible rfl)
                  (try simp only [Act.put, List.setIfInBounds_toArray, List.set_cons_zero, List.set_cons_succ])
                  refine wpAnyH_tk (i := 6) (v := _) 140 rfl rfl (by kernel_rfl) (by kernel_rfl) (by kernel_rfl) (fun _ _ _ h => h) (show YieldsIf Try.prog _ _ _ (.pointer (some ⟨g, 0, none⟩)) _ from Or.inl ⟨(by rfl), fun w hSw => by go_simp; try omega⟩) hHeld ?_
                  (try simp only [Act.put, List.setIfInBounds_toArray, List.set_cons_zero, List.set_cons_succ])
                  refine wpAnyH_tk (i := 7) (v := _) 141 rfl rfl (by kernel_rfl) (by kernel_rfl) (by kernel_rfl) (fun _ _ _ h => h) (yields_load58 (by rfl) (.tmp 140) rfl ⟨g, 0, none⟩ rfl (lf m 0) hl0 (fun w' h j u hu => pw_cell_below h (HC0.out j u hu))) hHeld ?_
                  (try simp only [Act.put, List.setIfInBounds_toArray, List.set_cons_zero, List.set_cons_succ])
                  refine wpAnyH_ready (rs := [2, 8]) (by kernel_rfl) (by simp) (AllReadyH.cons rfl (fun K hK => ?_) (AllReadyH.cons rfl (fun K hK => ?_) AllReadyH.nil))
                  · skip
                    rw [if_pos (by rfl)]
                    refine lit0_leaf 136 rfl rfl rfl (Below.refl _ _) (Nat.le_refl _) ?_; intro vA wA hA hAb hAg; (try replace hB := Kd.R_elder hB hA hAb); replace hA := Kd.R_lower hA hHeld.size; have hS1 := hHeld.trans (hAb.mono hHeld.size)
                    refine hK.out _ _ (by exact hS1) (fun hHeld => ?_)
                    clear hK K
                    (try simp only [Act.put, List.setIfInBounds_toArray, List.set_cons_zero, List.set_cons_succ])
                    refine wpAnyH_ready (rs := [4, 8]) (by kernel_rfl) (by simp) (AllReadyH.cons rfl (fun K hK => ?_) (AllReadyH.cons rfl (fun K hK => ?_) AllReadyH.nil))
                    · skip
                      rw [if_pos (by rfl)]
                      refine apps_leaf 138 rfl (.tmp 136) (.tmp 137) rfl rfl vA [] m _ _ _ rfl rfl hA (Kd.C_below HC10.out hHeld) (w0 := w10) (B := w10.heap.size) hHeld hHeld.size (by simp; omega) ?_; intro vD wD hD hDb hDg; (try replace hB := Kd.R_grown hB hDg (fun k hk => hk.2))
                      refine hK.out _ _ (by exact hDb) (fun hHeld => ?_)
                      clear hK K
                      (try simp only [Act.put, List.setIfInBounds_toArray, List.set_cons_zero, List.set_cons_succ])
                      refine wpAnyH_one (i := 8) (by kernel_rfl) rfl (fun K hK => ?_)
                      rw [if_pos (by rfl)]
                      refine lit1_leaf 142 rfl (.tmp 141) rfl rfl (lf m 0) hl0 rfl (Below.refl _ _) (Nat.le_refl _) ?_; intro vB wB hB hBb hBg; (try replace hB := Kd.R_newR hB hA); (try replace hA := Kd.R_below hA hBb); (try replace hD := Kd.R_below hD hBb); have hS2 := hHeld.trans (hBb.mono hHeld.size)
                      refine hK.out _ _ (by exact hS2) (fun hHeld => ?_)
                      clear hK K
                      (try simp only [Act.put, List.setIfInBounds_toArray, List.set_cons_zero, List.set_cons_succ])
                      refine wpAnyH_one (i := 9) (by kernel_rfl) rfl (fun K hK => ?_)
                      rw [if_pos (by rfl)]
                      obtain ⟨Ab, cb, rfl, hcb, hCB⟩ := Kd.R_reads hB; refine apps_leaf 143 rfl (.tmp 138) (.tmp 142) rfl rfl vD ([] ++ m) [lf m 0] _ _ _ rfl rfl hD hCB (w0 := w10) (B := w10.heap.size) hHeld hHeld.size (by simp; omega) ?_; intro vE wE hE hEb _; obtain ⟨Ae, ce, rfl, hce, hCE⟩ := Kd.R_reads hE; obtain ⟨q2, hq2⟩ : ∃ q2, q2 = ([] ++ m ++ [lf m 0]).length := ⟨_, rfl⟩; have HQ2 := Aside0.mk hq2; rw [← hq2] at hCE ⊢; clear hq2; have hq3 : q2 = p + 1 := (by have := HQ2.out; simp at this; omega); have HOF := Aside0.mk (of_calls wE n Ae ce ([] ++ m ++ [lf m 0]) (by rw [← HQ2.out]; exact hCE) (by rw [← HQ2.out]; omega)); rw [← HQ2.out] at HOF; have HQ3 := Aside0.mk hq3; clear hCE hCB hq3 hce hcb
                      refine hK.out _ _ (by exact hEb) (fun hHeld => ?_)
                      clear hK K
                      (try simp only [Act.put, List.setIfInBounds_toArray, List.set_cons_zero, List.set_cons_succ])
                      refine wpAnyH_one (i := 10) (by kernel_rfl) rfl (fun K hK => ?_)
                      go_simp
                      go_wp2_with ((rw [IntWalk.i64_in (n : Int) (by omega)]; go_at_call 31; refine HOF.out.mono ?_; rintro e wF ⟨v11, rfl, hb11, _, _⟩; rw [codeOf_no hn4 (not_ok (by rw [← HQ2.out, HQ3.out, ← HPG.out]; omega))]; have hS4 := hHeld.trans (hb11.mono hHeld.size)))
                      refine hK.out _ _ (by exact hS4) (fun hHeld => ?_)
                      clear hK K
                      refine wpAnyH_tk (i := 11) (v := ?vz41) 133 rfl rfl (by kernel_rfl) (by kernel_rfl) (by kernel_rfl) (fun _ _ _ h => h) (Or.inl ⟨by rfl, ?yz41⟩) hHeld ?rz41
                      case yz41 => (intro w hSw; go_simp; try with_reducible rfl)
                      (try simp only [Act.put, List.setIfInBounds_toArray, List.set_cons_zero, List.set_cons_succ])
                      refine wpAnyH_tk (i := 12) (v := ?vz42) 145 rfl rfl (by kernel_rfl) (by kernel_rfl) (by kernel_rfl) (fun _ _ _ h => h) (Or.inl ⟨by rfl, ?yz42⟩) hHeld ?rz42
                      case yz42 => (intro w hSw; go_simp; try with_reducible rfl)
                      (try simp only [Act.put, List.setIfInBounds_toArray, List.set_cons_zero, List.set_cons_succ])
                      refine wpAnyH_tk (i := 13) (v := ?vz43) 146 rfl rfl (by kernel_rfl) (by kernel_rfl) (by kernel_rfl) (fun _ _ _ h => h) (Or.inl ⟨by rfl, ?yz43⟩) hHeld ?rz43
                      case yz43 => (intro w hSw; go_simp; try with_reducible rfl)
                      (try simp only [Act.put, List.setIfInBounds_toArray, List.set_cons_zero, List.set_cons_succ])
                      refine wpAnyH_tk (i := 14) (v := ?vz44) 17 rfl rfl (by kernel_rfl) (by kernel_rfl) (by kernel_rfl) (fun _ _ _ h => h) (Or.inl ⟨by rfl, ?yz44⟩) hHeld ?rz44
                      case yz44 => (intro w hSw; go_simp; try with_reducible rfl)
                      (try simp only [Act.put, List.setIfInBounds_toArray, List.set_cons_zero, List.set_cons_succ])
                      refine wpAnyH_tk (i := 15) (v := ?vz45) 18 rfl rfl (by kernel_rfl) (by kernel_rfl) (by kernel_rfl) (fun _ _ _ h => h) (Or.inl ⟨by rfl, ?yz45⟩) hHeld ?rz45
                      case yz45 => (intro w hSw; go_simp; try with_reducible rfl)
                      (try simp only [Act.put, List.setIfInBounds_toArray, List.set_cons_zero, List.set_cons_succ])
                      refine wpAnyH_done (by kernel_rfl) ?_ _
                      (go_wp2_with fail; go_ret; exact ⟨rfl, H10.out.below.trans (hHeld.mono H10.out.size)⟩)
                    · skip
                      rw [if_pos (by rfl)]
                      refine lit1_leaf 142 rfl (.tmp 141) rfl rfl (lf m 0) hl0 rfl (Below.refl _ _) (Nat.le_refl _) ?_; intro vB wB hB hBb hBg; (try replace hB := Kd.R_newR hB hA); (try replace hA := Kd.R_below hA hBb); (try replace hD := Kd.R_below hD hBb); have hS2 := hHeld.trans (hBb.mono hHeld.size)
                      refine hK.out _ _ (by exact hS2) (fun hHeld => ?_)
                      clear hK K
                      (try simp only [Act.put, List.setIfInBounds_toArray, List.set_cons_zero, List.set_cons_succ])
                      refine wpAnyH_one (i := 4) (by kernel_rfl) rfl (fun K hK => ?_)
                      rw [if_pos (by rfl)]
                      refine apps_leaf 138 rfl (.tmp 136) (.tmp 137) rfl rfl vA [] m _ _ _ rfl rfl hA (Kd.C_below HC10.out hHeld) (w0 := w10) (B := w10.heap.size) hHeld hHeld.size (by simp; omega) ?_; intro vD wD hD hDb hDg; (try replace hB := Kd.R_grown hB hDg (fun k hk => hk.2))
                      refine hK.out _ _ (by exact hDb) (fun hHeld => ?_)
                      clear hK K
                      (try simp only [Act.put, List.setIfInBounds_toArray, List.set_cons_zero, List.set_cons_succ])
                      refine wpAnyH_one (i := 9) (by kernel_rfl) rfl (fun K hK => ?_)
                      rw [if_pos (by rfl)]
                      obtain ⟨Ab, cb, rfl, hcb, hCB⟩ := Kd.R_reads hB; refine apps_leaf 143 rfl (.tmp 138) (.tmp 142) rfl rfl vD ([] ++ m) [lf m 0] _ _ _ rfl rfl hD hCB (w0 := w10) (B := w10.heap.size) hHeld hHeld.size (by simp; omega) ?_; intro vE wE hE hEb _; obtain ⟨Ae, ce, rfl, hce, hCE⟩ := Kd.R_reads hE; obtain ⟨q2, hq2⟩ : ∃ q2, q2 = ([] ++ m ++ [lf m 0]).length := ⟨_, rfl⟩; have HQ2 := Aside0.mk hq2; rw [← hq2] at hCE ⊢; clear hq2; have hq3 : q2 = p + 1 := (by have := HQ2.out; simp at this; omega); have HOF := Aside0.mk (of_calls wE n Ae ce ([] ++ m ++ [lf m 0]) (by rw [← HQ2.out]; exact hCE) (by rw [← HQ2.out]; omega)); rw [← HQ2.out] at HOF; have HQ3 := Aside0.mk hq3; clear hCE hCB hq3 hce hcb
                      refine hK.out _ _ (by exact hEb) (fun hHeld => ?_)
                      clear hK K
                      (try simp only [Act.put, List.setIfInBounds_toArray, List.set_cons_zero, List.set_cons_succ])
                      refine wpAnyH_one (i := 10) (by kernel_rfl) rfl (fun K hK => ?_)
                      go_simp
                      go_wp2_with ((rw [IntWalk.i64_in (n : Int) (by omega)]; go_at_call 31; refine HOF.out.mono ?_; rintro e wF ⟨v11, rfl, hb11, _, _⟩; rw [codeOf_no hn4 (not_ok (by rw [← HQ2.out, HQ3.out, ← HPG.out]; omega))]; have hS4 := hHeld.trans (hb11.mono hHeld.size)))
                      refine hK.out _ _ (by exact hS4) (fun hHeld => ?_)
                      clear hK K
                      refine wpAnyH_tk (i := 11) (v := ?vz46) 133 rfl rfl (by kernel_rfl) (by kernel_rfl) (by kernel_rfl) (fun _ _ _ h => h) (Or.inl ⟨by rfl, ?yz46⟩) hHeld ?rz46
                      case yz46 => (intro w hSw; go_simp; try with_reducible rfl)
                      (try simp only [Act.put, List.setIfInBounds_toArray, List.set_cons_zero, List.set_cons_succ])
                      refine wpAnyH_tk (i := 12) (v := ?vz47) 145 rfl rfl (by kernel_rfl) (by kernel_rfl) (by kernel_rfl) (fun _ _ _ h => h) (Or.inl ⟨by rfl, ?yz47⟩) hHeld ?rz47
                      case yz47 => (intro w hSw; go_simp; try with_reducible rfl)
                      (try simp only [Act.put, List.setIfInBounds_toArray, List.set_cons_zero, List.set_cons_succ])
                      refine wpAnyH_tk (i := 13) (v := ?vz48) 146 rfl rfl (by kernel_rfl) (by kernel_rfl) (by kernel_rfl) (fun _ _ _ h => h) (Or.inl ⟨by rfl, ?yz48⟩) hHeld ?rz48
                      case yz48 => (intro w hSw; go_simp; try with_reducible rfl)
                      (try simp only [Act.put, List.setIfInBounds_toArray, List.set_cons_zero, List.set_cons_succ])
                      refine wpAnyH_tk (i := 14) (v := ?vz49) 17 rfl rfl (by kernel_rfl) (by kernel_rfl) (by kernel_rfl) (fun _ _ _ h => h) (Or.inl ⟨by rfl, ?yz49⟩) hHeld ?rz49
                      case yz49 => (intro w hSw; go_simp; try with_reducible rfl)
                      (try simp only [Act.put, List.setIfInBounds_toArray, List.set_cons_zero, List.set_cons_succ])
                      refine wpAnyH_tk (i := 15) (v := ?vz50) 18 rfl rfl (by kernel_rfl) (by kernel_rfl) (by kernel_rfl) (fun _ _ _ h => h) (Or.inl ⟨by rfl, ?yz50⟩) hHeld ?rz50
                      case yz50 => (intro w hSw; go_simp; try with_reducible rfl)
                      (try simp only [Act.put, List.setIfInBounds_toArray, List.set_cons_zero, List.set_cons_succ])
                      refine wpAnyH_done (by kernel_rfl) ?_ _
                      (go_wp2_with fail; go_ret; exact ⟨rfl, H10.out.below.trans (hHeld.mono H10.out.size)⟩)
                  · skip
                    rw [if_pos (by rfl)]
                    refine lit1_leaf 142 rfl (.tmp 141) rfl rfl (lf m 0) hl0 rfl (Below.refl _ _) (Nat.le_refl _) ?_; intro vB wB hB hBb hBg; (try replace hB := Kd.R_newR hB hA); (try replace hA := Kd.R_below hA hBb); (try replace hD := Kd.R_below hD hBb); have hS2 := hHeld.trans (hBb.mono hHeld.size)
                    refine hK.out _ _ (by exact hS2) (fun hHeld => ?_)
                    clear hK K
                    (try simp only [Act.put, List.setIfInBounds_toArray, List.set_cons_zero, List.set_cons_succ])
                    refine wpAnyH_one (i := 2) (by kernel_rfl) rfl (fun K hK => ?_)
                    rw [if_pos (by rfl)]
                    refine lit0_leaf 136 rfl rfl rfl (Below.refl _ _) (Nat.le_refl _) ?_; intro vA wA hA hAb hAg; (try replace hB := Kd.R_elder hB hA hAb); replace hA := Kd.R_lower hA hHeld.size; have hS1 := hHeld.trans (hAb.mono hHeld.size)
                    refine hK.out _ _ (by exact hS1) (fun hHeld => ?_)
                    clear hK K
                    (try simp only [Act.put, List.setIfInBounds_toArray, List.set_cons_zero, List.set_cons_succ])
                    refine wpAnyH_one (i := 4) (by kernel_rfl) rfl (fun K hK => ?_)
                    rw [if_pos (by rfl)]
                    refine apps_leaf 138 rfl (.tmp 136) (.tmp 137) rfl rfl vA [] m _ _ _ rfl rfl hA (Kd.C_below HC10.out hHeld) (w0 := w10) (B := w10.heap.size) hHeld hHeld.size (by simp; omega) ?_; intro vD wD hD hDb hDg; (try replace hB := Kd.R_grown hB hDg (fun k hk => hk.2))
                    refine hK.out _ _ (by exact hDb) (fun hHeld => ?_)
                    clear hK K
                    (try simp only [Act.put, List.setIfInBounds_toArray, List.set_cons_zero, List.set_cons_succ])
                    refine wpAnyH_one (i := 9) (by kernel_rfl) rfl (fun K hK => ?_)
                    rw [if_pos (by rfl)]
                    obtain ⟨Ab, cb, rfl, hcb, hCB⟩ := Kd.R_reads hB; refine apps_leaf 143 rfl (.tmp 138) (.tmp 142) rfl rfl vD ([] ++ m) [lf m 0] _ _ _ rfl rfl hD hCB (w0 := w10) (B := w10.heap.size) hHeld hHeld.size (by simp; omega) ?_; intro vE wE hE hEb _; obtain ⟨Ae, ce, rfl, hce, hCE⟩ := Kd.R_reads hE; obtain ⟨q2, hq2⟩ : ∃ q2, q2 = ([] ++ m ++ [lf m 0]).length := ⟨_, rfl⟩; have HQ2 := Aside0.mk hq2; rw [← hq2] at hCE ⊢; clear hq2; have hq3 : q2 = p + 1 := (by have := HQ2.out; simp at this; omega); have HOF := Aside0.mk (of_calls wE n Ae ce ([] ++ m ++ [lf m 0]) (by rw [← HQ2.out]; exact hCE) (by rw [← HQ2.out]; omega)); rw [← HQ2.out] at HOF; have HQ3 := Aside0.mk hq3; clear hCE hCB hq3 hce hcb
                    refine hK.out _ _ (by exact hEb) (fun hHeld => ?_)
                    clear hK K
                    (try simp only [Act.put, List.setIfInBounds_toArray, List.set_cons_zero, List.set_cons_succ])
                    refine wpAnyH_one (i := 10) (by kernel_rfl) rfl (fun K hK => ?_)
                    go_simp
                    go_wp2_with ((rw [IntWalk.i64_in (n : Int) (by omega)]; go_at_call 31; refine HOF.out.mono ?_; rintro e wF ⟨v11, rfl, hb11, _, _⟩; rw [codeOf_no hn4 (not_ok (by rw [← HQ2.out, HQ3.out, ← HPG.out]; omega))]; have hS4 := hHeld.trans (hb11.mono hHeld.size)))
                    refine hK.out _ _ (by exact hS4) (fun hHeld => ?_)
                    clear hK K
                    refine wpAnyH_tk (i := 11) (v := ?vz51) 133 rfl rfl (by kernel_rfl) (by kernel_rfl) (by kernel_rfl) (fun _ _ _ h => h) (Or.inl ⟨by rfl, ?yz51⟩) hHeld ?rz51
                    case yz51 => (intro w hSw; go_simp; try with_reducible rfl)
                    (try simp only [Act.put, List.setIfInBounds_toArray, List.set_cons_zero, List.set_cons_succ])
                    refine wpAnyH_tk (i := 12) (v := ?vz52) 145 rfl rfl (by kernel_rfl) (by kernel_rfl) (by kernel_rfl) (fun _ _ _ h => h) (Or.inl ⟨by rfl, ?yz52⟩) hHeld ?rz52
                    case yz52 => (intro w hSw; go_simp; try with_reducible rfl)
                    (try simp only [Act.put, List.setIfInBounds_toArray, List.set_cons_zero, List.set_cons_succ])
                    refine wpAnyH_tk (i := 13) (v := ?vz53) 146 rfl rfl (by kernel_rfl) (by kernel_rfl) (by kernel_rfl) (fun _ _ _ h => h) (Or.inl ⟨by rfl, ?yz53⟩) hHeld ?rz53
                    case yz53 => (intro w hSw; go_simp; try with_reducible rfl)
                    (try simp only [Act.put, List.setIfInBounds_toArray, List.set_cons_zero, List.set_cons_succ])
                    refine wpAnyH_tk (i := 14) (v := ?vz54) 17 rfl rfl (by kernel_rfl) (by kernel_rfl) (by kernel_rfl) (fun _ _ _ h => h) (Or.inl ⟨by rfl, ?yz54⟩) hHeld ?rz54
                    case yz54 => (intro w hSw; go_simp; try with_reducible rfl)
                    (try simp only [Act.put, List.setIfInBounds_toArray, List.set_cons_zero, List.set_cons_succ])
                    refine wpAnyH_tk (i := 15) (v := ?vz55) 18 rfl rfl (by kernel_rfl) (by kernel_rfl) (by kernel_rfl) (fun _ _ _ h => h) (Or.inl ⟨by rfl, ?yz55⟩) hHeld ?rz55
                    case yz55 => (intro w hSw; go_simp; try with_reducible rfl)
                    (try simp only [Act.put, List.setIfInBounds_toArray, List.set_cons_zero, List.set_cons_succ])
                    refine wpAnyH_done (by kernel_rfl) ?_ _
                    (go_wp2_with fail; go_ret; exact ⟨rfl, H10.out.below.trans (hHeld.mono H10.out.size)⟩)
end Go.Proofs.Ytkkmmbbnaafhlaa.Tab
