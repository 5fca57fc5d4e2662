/- The walk of layer 17's document's answer Size. -/
import Derived.Test.YtipbgldfomejpaaSnapRWalks2
namespace Go.Proofs.Ytipbgldfomejpaa.Snap
set_option linter.unusedSimpArgs false
set_option linter.unusedVariables false
open Go.RowKit Go.Proofs.YtipbgldfomejpaaW.PrintWords Go.Proofs.YtipbgldfomejpaaW.PrintLast Go.Proofs.YtipbgldfomejpaaW.PrintMore Arr

theorem sizeTo_mono (all : All) (gone k : Nat) (hg : gone ≤ k) : ∀ d, sizeTo all gone k ≤ sizeTo all gone (k + d)
  | 0 => Nat.le_refl _
  | d + 1 => by
    have h1 := sizeTo_mono all gone k hg d
    have h2 := sizeTo_succ all gone (k + d) (by omega)
    rw [show k + (d + 1) = k + d + 1 by omega]
    omega
theorem cnt_mono (l : List Old) (k : Nat) : ∀ d, k + d ≤ l.length → cnt l k ≤ cnt l (k + d)
  | 0, _ => Nat.le_refl _
  | d + 1, h => by
    have h1 := cnt_mono l k d (by omega)
    have h2 := cnt_succ l (k + d) (by omega)
    rw [show k + (d + 1) = k + d + 1 by omega]
    omega
theorem cnt_all (l : List Old) : cnt l l.length = (firsts l).length := by unfold cnt; rw [List.take_length]
theorem size_bound {all : All} {gone k q : Nat} (hg : gone ≤ k) (hk : k < all.length) (hq : q ≤ (al all k).length) : sizeTo all gone k + cnt (al all k) q ≤ (canon all gone).length := by
  have h1 := cnt_mono (al all k) q ((al all k).length - q) (by omega)
  rw [show q + ((al all k).length - q) = (al all k).length by omega, cnt_all] at h1
  have h2 := sizeTo_succ all gone k hg
  have h3 := sizeTo_mono all gone (k + 1) (by omega) (all.length - (k + 1))
  rw [show k + 1 + (all.length - (k + 1)) = all.length by omega, ← canon_len] at h3
  omega
theorem cutTo32 (A : Option Addr) (n c j : Nat) (hm : j ≤ n) (hc : n ≤ c) (W : World) : (Instr.slice 32 (.slice A n c) none (some (.int .i64 (j : Int))) none).run Try.prog W = .ok (.slice A j c) W := by
  obtain ⟨i, hi, _⟩ := Option.map_eq_some_iff.1 size29
  exact cut_to 32 29 .i64 Try.underlying32 hi A n c (j : Int) (by omega) (by omega) hc W
theorem info29' : ∃ i, Try.prog.info? 29 = some i := by
  obtain ⟨i, hi, _⟩ := Option.map_eq_some_iff.1 size29
  exact ⟨i, hi⟩
set_option maxRecDepth 10000 in
set_option maxHeartbeats 8000000 in
theorem rsize_calls (w : World) (A : Option Addr) (c : Nat) (all : All) (gone : Nat) (hA : AllAt w A all) (hgl : gone ≤ all.length) (hs : (canon all gone).length ≤ 100000) : Calls Try.prog 24 #[.agg (docV A all.length c gone).toArray] w fun e w' => e = .returned (.int .i64 (canon all gone).length) ∧ Below w.heap.size w w' := by
  have HA0 := Aside0.mk hA
  have hm := hA.max
  have HK := Aside0.mk (Keeps.refl w)
  clear hA
  show Calls Try.prog 24 #[.agg #[.slice A all.length c, .int .i64 gone]] w _
  have HSZ := Aside0.mk (canon_len all gone)
  obtain ⟨F, hF⟩ : ∃ F, F = (canon all gone).length := ⟨_, rfl⟩
  rw [← hF] at HSZ hs ⊢
  have HF := Aside0.mk hF
  clear hF
  go_enter Try.func24, Try.ntmps24
  go_upto_region 1 with (first | ((with_reducible refine gate_dst (N := 1) rfl ?_); refine box45 rfl (.tmp 0) rfl A all.length c gone rfl ?_; intro w1 dg h1 h2 h3; have HK2 := Aside0.mk (HK.out.new h3 h2); clear h2 h3))
  clear HK
  have e0 : w1.cell? ⟨dg, 1, none⟩ = some (.int .i64 gone) := HK2.out.head.cell rfl
  go_wp2_with fail
  clear e0
  go_loopw [3, 4] (fun n i wr => ∃ k : Nat, gone ≤ k ∧ k ≤ all.length ∧ i = .int .i64 k ∧ (∃ t : Nat, n = .int .i64 t ∧ Aside0 (t = sizeTo all gone k)) ∧ Aside0 (Keeps w [(dg, 45, docV A all.length c gone)] wr)) (fun _ i _ => all.length - (intOf i).toNat)
  case atStart => exact ⟨gone, Nat.le_refl _, hgl, rfl, ⟨0, rfl, ⟨(sizeTo_lo all gone gone (Nat.le_refl _)).symm⟩⟩, HK2⟩
  case round =>
    clear HK2
    obtain ⟨k, hgk, hk, rfl, ⟨t, rfl, HT⟩, HK2⟩ := hrel
    have e0 : wr.cell? ⟨dg, 0, none⟩ = some (.slice A all.length c) := HK2.out.head.cell rfl
    by_cases hlt : k < all.length
    · have hd : decide ((k : Int) < all.length) = true := by simp; omega
      obtain ⟨ad, Ao, co, hAe, hc0, hl, hCO⟩ := HA0.out.elem k hlt
      subst hAe
      have HCO := Aside0.mk hCO
      have HC0 := Aside0.mk hc0
      obtain ⟨l, hle⟩ : ∃ l, l = al all k := ⟨_, rfl⟩
      have HSB := Aside0.mk (fun q (hq : q ≤ (al all k).length) => size_bound (gone := gone) hgk hlt hq)
      have HSS := Aside0.mk (sizeTo_succ all gone k hgk)
      rw [← hle, ← HF.out, ← HT.out] at HSB
      rw [← hle, ← HT.out] at HSS
      rw [← hle] at HCO HC0 hl
      clear hle hc0 hCO
      have hlm := Kd.C_max HCO.out
      go_wp2_with fail
      go_loopw [3, 5] (fun n j wr => ∃ q : Nat, q ≤ l.length ∧ j = .int .i64 q ∧ (∃ t' : Nat, n = .int .i64 t' ∧ Aside0 (t' = t + cnt l q)) ∧ Aside0 (Keeps w [(dg, 45, docV (some ad) all.length c gone)] wr)) (fun _ j _ => l.length - (intOf j).toNat)
      case atStart => exact ⟨0, by omega, rfl, ⟨t, rfl, ⟨rfl⟩⟩, HK2⟩
      case round =>
        clear e0 HK2
        obtain ⟨q, hq, rfl, ⟨t', rfl, HT'⟩, HK2⟩ := hrel
        have e0 : wr.cell? ⟨dg, 0, none⟩ = some (.slice (some ad) all.length c) := HK2.out.head.cell rfl
        have e1 : wr.cell? (ad.add k) = some (.slice Ao l.length co) := bel_cell HK2.out.below HC0.out
        by_cases hqt : q < l.length
        · have hd2 : decide ((q : Int) < l.length) = true := by simp; omega
          have hxx := at29 HCO.out q hqt
          obtain ⟨ax, hA, hcx, _⟩ := hxx
          subst hA
          have HCT := Aside0.mk (Kd.C_take HCO.out (Nat.le_of_lt hqt))
          have hqq : (l.take q).length = q := by rw [List.length_take]; omega
          obtain ⟨B, hBe⟩ : ∃ B, B = (og l q).blk := ⟨_, rfl⟩
          have HB0 := Aside0.mk (show w.cell? (ax.add (q * 34)) = some (.int .i64 B) by rw [hBe]; exact hcx 0 _ rfl)
          have hcut := cutTo32 (some ax) l.length co q (by omega) hl
          have HCL := Aside0.mk (fun (w' : World) (hb : Below w.heap.size w w') => (show Calls Try.prog 34 #[.slice (some ax) q co, .int .i64 B] w' (IEnd w' (l.take q) B) from by
            have h := rin_calls w' (some ax) co (l.take q) (Kd.C_below HCT.out hb) B
            rw [hqq] at h
            exact h))
          have HCN := Aside0.mk (cnt_succ l q hqt)
          rw [← hBe] at HCN
          unfold IEnd at HCL
          have hbd := HSB.out (q + 1) (by omega)
          obtain ⟨s2, hs⟩ : ∃ s2, s2 = t + cnt l (q + 1) := ⟨_, rfl⟩
          have HSN := Aside0.mk hs
          rw [← hs] at hbd
          obtain ⟨x, hx⟩ : ∃ x, x = (inL (l.take q) B).getD old0 := ⟨_, rfl⟩
          obtain ⟨y, hy⟩ : ∃ y, y = (inL (l.take q) B).isSome := ⟨_, rfl⟩
          simp only [← hx, ← hy] at HCL
          rw [← hy] at HCN
          have HS2 := Aside0.mk (show s2 = t' + if y then 0 else 1 by rw [hs, HCN.out, HT'.out]; omega)
          clear hcx hx hy hs hqq hBe
          rcases y with _ | _
          · have hs2 : s2 = t' + 1 := HS2.out
            go_upto_region 8 with (fail)
            refine wp_region_held_drew (S := (fun w' => Keeps w [(dg, 45, docV (some ad) all.length c gone)] w')) (by kernel_rfl) (by exact HK2.out.drew) (fun hHeld => ?_)
            refine wpAnyH_tk (i := 0) (v := ?vz1) 28 rfl rfl (by kernel_rfl) (by kernel_rfl) (by kernel_rfl) (fun _ _ _ h => h) (Or.inl ⟨by rfl, ?yz1⟩) hHeld ?rz1
            case yz1 => (intro w hSw; go_simp; try with_reducible rfl)
            (try simp only [Act.put, List.setIfInBounds_toArray, List.set_cons_zero, List.set_cons_succ])
            refine wpAnyH_tk (i := 1) (v := _) 29 rfl rfl (by kernel_rfl) (by kernel_rfl) (by kernel_rfl) (fun _ _ _ h => h) (yields_cell (by rfl) 43 (.tmp 28) rfl ⟨dg, 0, none⟩ rfl (v := .slice (some ad) all.length c) (fun w h => h.head.cell rfl) Try.underlying43 rfl) hHeld ?_
            (try simp only [Act.put, List.setIfInBounds_toArray, List.set_cons_zero, List.set_cons_succ])
            refine wpAnyH_tk (i := 2) (v := ?vz2) 30 rfl rfl (by kernel_rfl) (by kernel_rfl) (by kernel_rfl) (fun _ _ _ h => h) (Or.inl ⟨by rfl, ?yz2⟩) hHeld ?rz2
            case yz2 => (intro w hSw; go_simp; try with_reducible rfl)
            (try simp only [Act.put, List.setIfInBounds_toArray, List.set_cons_zero, List.set_cons_succ])
            refine wpAnyH_tk (i := 3) (v := _) 31 rfl rfl (by kernel_rfl) (by kernel_rfl) (by kernel_rfl) (fun _ _ _ h => h) (show YieldsIf Try.prog _ _ _ (.pointer (some (ad.add k))) _ from Or.inl ⟨(by rfl), fun w hSw => by go_simp; try omega⟩) hHeld ?_
            (try simp only [Act.put, List.setIfInBounds_toArray, List.set_cons_zero, List.set_cons_succ])
            refine wpAnyH_tk (i := 4) (v := _) 32 rfl rfl (by kernel_rfl) (by kernel_rfl) (by kernel_rfl) (fun _ _ _ h => h) (yields_cell (by rfl) 32 (.tmp 31) rfl (ad.add k) rfl (v := .slice (some ax) l.length co) (fun w h => bel_cell h.below HC0.out) Try.underlying32 rfl) hHeld ?_
            (try simp only [Act.put, List.setIfInBounds_toArray, List.set_cons_zero, List.set_cons_succ])
            refine wpAnyH_tk (i := 5) (v := ?vz3) 33 rfl rfl (by kernel_rfl) (by kernel_rfl) (by kernel_rfl) (fun _ _ _ h => h) (Or.inl ⟨by rfl, ?yz3⟩) hHeld ?rz3
            case yz3 => (intro w hSw; go_simp; try with_reducible rfl)
            (try simp only [Act.put, List.setIfInBounds_toArray, List.set_cons_zero, List.set_cons_succ])
            refine wpAnyH_tk (i := 6) (v := _) 34 rfl rfl (by kernel_rfl) (by kernel_rfl) (by kernel_rfl) (fun _ _ _ h => h) (show YieldsIf Try.prog _ _ _ (.slice (some ax) q co) _ from Or.inl ⟨(by rfl), fun w hSw => by go_simp; try with_reducible rfl⟩) hHeld ?_
            (try simp only [Act.put, List.setIfInBounds_toArray, List.set_cons_zero, List.set_cons_succ])
            refine wpAnyH_tk (i := 7) (v := ?vz4) 35 rfl rfl (by kernel_rfl) (by kernel_rfl) (by kernel_rfl) (fun _ _ _ h => h) (Or.inl ⟨by rfl, ?yz4⟩) hHeld ?rz4
            case yz4 => (intro w hSw; go_simp; try with_reducible rfl)
            (try simp only [Act.put, List.setIfInBounds_toArray, List.set_cons_zero, List.set_cons_succ])
            refine wpAnyH_tk (i := 8) (v := _) 36 rfl rfl (by kernel_rfl) (by kernel_rfl) (by kernel_rfl) (fun _ _ _ h => h) (yields_cell (by rfl) 43 (.tmp 35) rfl ⟨dg, 0, none⟩ rfl (v := .slice (some ad) all.length c) (fun w h => h.head.cell rfl) Try.underlying43 rfl) hHeld ?_
            (try simp only [Act.put, List.setIfInBounds_toArray, List.set_cons_zero, List.set_cons_succ])
            refine wpAnyH_tk (i := 9) (v := ?vz5) 37 rfl rfl (by kernel_rfl) (by kernel_rfl) (by kernel_rfl) (fun _ _ _ h => h) (Or.inl ⟨by rfl, ?yz5⟩) hHeld ?rz5
            case yz5 => (intro w hSw; go_simp; try with_reducible rfl)
            (try simp only [Act.put, List.setIfInBounds_toArray, List.set_cons_zero, List.set_cons_succ])
            refine wpAnyH_tk (i := 10) (v := _) 38 rfl rfl (by kernel_rfl) (by kernel_rfl) (by kernel_rfl) (fun _ _ _ h => h) (show YieldsIf Try.prog _ _ _ (.pointer (some (ad.add k))) _ from Or.inl ⟨(by rfl), fun w hSw => by go_simp; try omega⟩) hHeld ?_
            (try simp only [Act.put, List.setIfInBounds_toArray, List.set_cons_zero, List.set_cons_succ])
            refine wpAnyH_tk (i := 11) (v := _) 39 rfl rfl (by kernel_rfl) (by kernel_rfl) (by kernel_rfl) (fun _ _ _ h => h) (yields_cell (by rfl) 32 (.tmp 38) rfl (ad.add k) rfl (v := .slice (some ax) l.length co) (fun w h => bel_cell h.below HC0.out) Try.underlying32 rfl) hHeld ?_
            (try simp only [Act.put, List.setIfInBounds_toArray, List.set_cons_zero, List.set_cons_succ])
            refine wpAnyH_tk (i := 12) (v := ?vz6) 40 rfl rfl (by kernel_rfl) (by kernel_rfl) (by kernel_rfl) (fun _ _ _ h => h) (Or.inl ⟨by rfl, ?yz6⟩) hHeld ?rz6
            case yz6 => (intro w hSw; go_simp; try with_reducible rfl)
            (try simp only [Act.put, List.setIfInBounds_toArray, List.set_cons_zero, List.set_cons_succ])
            refine wpAnyH_tk (i := 13) (v := _) 41 rfl rfl (by kernel_rfl) (by kernel_rfl) (by kernel_rfl) (fun _ _ _ h => h) (show YieldsIf Try.prog _ _ _ (.pointer (some (ax.add (q * 34)))) _ from Or.inl ⟨(by rfl), fun w hSw => by go_simp; try omega⟩) hHeld ?_
            (try simp only [Act.put, List.setIfInBounds_toArray, List.set_cons_zero, List.set_cons_succ])
            refine wpAnyH_tk (i := 14) (v := ?vz7) 42 rfl rfl (by kernel_rfl) (by kernel_rfl) (by kernel_rfl) (fun _ _ _ h => h) (Or.inl ⟨by rfl, ?yz7⟩) hHeld ?rz7
            case yz7 => (intro w hSw; go_simp; try with_reducible rfl)
            (try simp only [Act.put, List.setIfInBounds_toArray, List.set_cons_zero, List.set_cons_succ])
            refine wpAnyH_tk (i := 15) (v := _) 43 rfl rfl (by kernel_rfl) (by kernel_rfl) (by kernel_rfl) (fun _ _ _ h => h) (yields_cell (by rfl) 3 (.tmp 42) rfl (ax.add (q * 34)) rfl (v := .int .i64 B) (fun w h => bel_cell h.below HB0.out) Try.underlying3 rfl) hHeld ?_
            (try simp only [Act.put, List.setIfInBounds_toArray, List.set_cons_zero, List.set_cons_succ])
            refine wpAnyH_ready (rs := [16, 20]) (by kernel_rfl) (by simp) (AllReadyH.cons rfl (fun K hK => ?_) (AllReadyH.cons rfl (fun K hK => ?_) AllReadyH.nil))
            · skip
              go_simp
              go_wp2_with ((go_at_call 34; refine (HCL.out _ hHeld.below).mono ?_; rintro e w7 ⟨rfl, hxl, hB⟩))
              refine hK.out _ _ (by exact hHeld.step hB) (fun hHeld => ?_)
              clear hK K
              refine wpAnyH_tk (i := 17) (v := ?vz8) 27 rfl rfl (by kernel_rfl) (by kernel_rfl) (by kernel_rfl) (fun _ _ _ h => h) (Or.inl ⟨by rfl, ?yz8⟩) hHeld ?rz8
              case yz8 => (intro w hSw; go_simp; try with_reducible rfl)
              (try simp only [Act.put, List.setIfInBounds_toArray, List.set_cons_zero, List.set_cons_succ])
              refine wpAnyH_tk (i := 18) (v := ?vz9) 45 rfl rfl (by kernel_rfl) (by kernel_rfl) (by kernel_rfl) (fun _ _ _ h => h) (Or.inl ⟨by rfl, ?yz9⟩) hHeld ?rz9
              case yz9 => (intro w hSw; go_simp; try with_reducible rfl)
              (try simp only [Act.put, List.setIfInBounds_toArray, List.set_cons_zero, List.set_cons_succ])
              refine wpAnyH_tk (i := 19) (v := ?vz10) 46 rfl rfl (by kernel_rfl) (by kernel_rfl) (by kernel_rfl) (fun _ _ _ h => h) (Or.inl ⟨by rfl, ?yz10⟩) hHeld ?rz10
              case yz10 => (intro w hSw; go_simp; try with_reducible rfl)
              (try simp only [Act.put, List.setIfInBounds_toArray, List.set_cons_zero, List.set_cons_succ])
              refine wpAnyH_one (i := 20) (by kernel_rfl) rfl (fun K hK => ?_)
              rw [if_pos (by rfl)]
              refine step_alloc29 6 rfl rfl ?_; intro w8 yg h11 h12 h13; have hyd : dg ≠ yg := Nat.ne_of_lt (Nat.lt_of_lt_of_le hHeld.head.lt h11); have hyw := Nat.le_trans hHeld.size h11
              refine hK.out _ _ (by exact hHeld.fresh h13) (fun hHeld => ?_)
              clear hK K
              (try simp only [Act.put, List.setIfInBounds_toArray, List.set_cons_zero, List.set_cons_succ])
              refine wpAnyH_one (i := 21) (by kernel_rfl) rfl (fun K hK => ?_)
              rw [if_pos (by rfl)]
              refine step_store29 rfl (.tmp 6) (.tmp 45) rfl yg rfl x hxl rfl (M := old0) rfl (by first | exact h12 | exact OB.below h12 hB) ?_; intro w9 h14 h15 h16
              refine hK.out _ _ (by exact hHeld.grown h15 hyw (by simp; exact hyd)) (fun hHeld => ?_)
              clear hK K
              (try simp only [Act.put, List.setIfInBounds_toArray, List.set_cons_zero, List.set_cons_succ])
              refine wpAnyH_tk (i := 22) (v := ?vz11) 7 rfl rfl (by kernel_rfl) (by kernel_rfl) (by kernel_rfl) (fun _ _ _ h => h) (Or.inl ⟨by rfl, ?yz11⟩) hHeld ?rz11
              case yz11 => (intro w hSw; go_simp; try with_reducible rfl)
              (try simp only [Act.put, List.setIfInBounds_toArray, List.set_cons_zero, List.set_cons_succ])
              refine wpAnyH_done (by kernel_rfl) ?_ _
              (have HK9 := Aside0.mk hHeld; clear hHeld hcut h12 h14; go_wp2_with fail; go_roundw; (case rel => exact ⟨q + 1, by omega, by go_num, ⟨s2, by rw [hs2]; go_num, HSN⟩, HK9⟩); (case measure => simp [intOf]; omega))
            · skip
              rw [if_pos (by rfl)]
              refine step_alloc29 6 rfl rfl ?_; intro w8 yg h11 h12 h13; have hyd : dg ≠ yg := Nat.ne_of_lt (Nat.lt_of_lt_of_le hHeld.head.lt h11); have hyw := Nat.le_trans hHeld.size h11
              refine hK.out _ _ (by exact hHeld.fresh h13) (fun hHeld => ?_)
              clear hK K
              (try simp only [Act.put, List.setIfInBounds_toArray, List.set_cons_zero, List.set_cons_succ])
              refine wpAnyH_one (i := 16) (by kernel_rfl) rfl (fun K hK => ?_)
              go_simp
              go_wp2_with ((go_at_call 34; refine (HCL.out _ hHeld.below).mono ?_; rintro e w7 ⟨rfl, hxl, hB⟩))
              refine hK.out _ _ (by exact hHeld.step hB) (fun hHeld => ?_)
              clear hK K
              refine wpAnyH_tk (i := 17) (v := ?vz12) 27 rfl rfl (by kernel_rfl) (by kernel_rfl) (by kernel_rfl) (fun _ _ _ h => h) (Or.inl ⟨by rfl, ?yz12⟩) hHeld ?rz12
              case yz12 => (intro w hSw; go_simp; try with_reducible rfl)
              (try simp only [Act.put, List.setIfInBounds_toArray, List.set_cons_zero, List.set_cons_succ])
              refine wpAnyH_tk (i := 18) (v := ?vz13) 45 rfl rfl (by kernel_rfl) (by kernel_rfl) (by kernel_rfl) (fun _ _ _ h => h) (Or.inl ⟨by rfl, ?yz13⟩) hHeld ?rz13
              case yz13 => (intro w hSw; go_simp; try with_reducible rfl)
              (try simp only [Act.put, List.setIfInBounds_toArray, List.set_cons_zero, List.set_cons_succ])
              refine wpAnyH_tk (i := 19) (v := ?vz14) 46 rfl rfl (by kernel_rfl) (by kernel_rfl) (by kernel_rfl) (fun _ _ _ h => h) (Or.inl ⟨by rfl, ?yz14⟩) hHeld ?rz14
              case yz14 => (intro w hSw; go_simp; try with_reducible rfl)
              (try simp only [Act.put, List.setIfInBounds_toArray, List.set_cons_zero, List.set_cons_succ])
              refine wpAnyH_one (i := 21) (by kernel_rfl) rfl (fun K hK => ?_)
              rw [if_pos (by rfl)]
              refine step_store29 rfl (.tmp 6) (.tmp 45) rfl yg rfl x hxl rfl (M := old0) rfl (by first | exact h12 | exact OB.below h12 hB) ?_; intro w9 h14 h15 h16
              refine hK.out _ _ (by exact hHeld.grown h15 hyw (by simp; exact hyd)) (fun hHeld => ?_)
              clear hK K
              (try simp only [Act.put, List.setIfInBounds_toArray, List.set_cons_zero, List.set_cons_succ])
              refine wpAnyH_tk (i := 22) (v := ?vz15) 7 rfl rfl (by kernel_rfl) (by kernel_rfl) (by kernel_rfl) (fun _ _ _ h => h) (Or.inl ⟨by rfl, ?yz15⟩) hHeld ?rz15
              case yz15 => (intro w hSw; go_simp; try with_reducible rfl)
              (try simp only [Act.put, List.setIfInBounds_toArray, List.set_cons_zero, List.set_cons_succ])
              refine wpAnyH_done (by kernel_rfl) ?_ _
              (have HK9 := Aside0.mk hHeld; clear hHeld hcut h12 h14; go_wp2_with fail; go_roundw; (case rel => exact ⟨q + 1, by omega, by go_num, ⟨s2, by rw [hs2]; go_num, HSN⟩, HK9⟩); (case measure => simp [intOf]; omega))
          · have hs2 : s2 = t' + 0 := HS2.out
            go_upto_region 8 with (fail)
            refine wp_region_held_drew (S := (fun w' => Keeps w [(dg, 45, docV (some ad) all.length c gone)] w')) (by kernel_rfl) (by exact HK2.out.drew) (fun hHeld => ?_)
            refine wpAnyH_tk (i := 0) (v := ?vz16) 28 rfl rfl (by kernel_rfl) (by kernel_rfl) (by kernel_rfl) (fun _ _ _ h => h) (Or.inl ⟨by rfl, ?yz16⟩) hHeld ?rz16
            case yz16 => (intro w hSw; go_simp; try with_reducible rfl)
            (try simp only [Act.put, List.setIfInBounds_toArray, List.set_cons_zero, List.set_cons_succ])
            refine wpAnyH_tk (i := 1) (v := _) 29 rfl rfl (by kernel_rfl) (by kernel_rfl) (by kernel_rfl) (fun _ _ _ h => h) (yields_cell (by rfl) 43 (.tmp 28) rfl ⟨dg, 0, none⟩ rfl (v := .slice (some ad) all.length c) (fun w h => h.head.cell rfl) Try.underlying43 rfl) hHeld ?_
            (try simp only [Act.put, List.setIfInBounds_toArray, List.set_cons_zero, List.set_cons_succ])
            refine wpAnyH_tk (i := 2) (v := ?vz17) 30 rfl rfl (by kernel_rfl) (by kernel_rfl) (by kernel_rfl) (fun _ _ _ h => h) (Or.inl ⟨by rfl, ?yz17⟩) hHeld ?rz17
            case yz17 => (intro w hSw; go_simp; try with_reducible rfl)
            (try simp only [Act.put, List.setIfInBounds_toArray, List.set_cons_zero, List.set_cons_succ])
            refine wpAnyH_tk (i := 3) (v := _) 31 rfl rfl (by kernel_rfl) (by kernel_rfl) (by kernel_rfl) (fun _ _ _ h => h) (show YieldsIf Try.prog _ _ _ (.pointer (some (ad.add k))) _ from Or.inl ⟨(by rfl), fun w hSw => by go_simp; try omega⟩) hHeld ?_
            (try simp only [Act.put, List.setIfInBounds_toArray, List.set_cons_zero, List.set_cons_succ])
            refine wpAnyH_tk (i := 4) (v := _) 32 rfl rfl (by kernel_rfl) (by kernel_rfl) (by kernel_rfl) (fun _ _ _ h => h) (yields_cell (by rfl) 32 (.tmp 31) rfl (ad.add k) rfl (v := .slice (some ax) l.length co) (fun w h => bel_cell h.below HC0.out) Try.underlying32 rfl) hHeld ?_
            (try simp only [Act.put, List.setIfInBounds_toArray, List.set_cons_zero, List.set_cons_succ])
            refine wpAnyH_tk (i := 5) (v := ?vz18) 33 rfl rfl (by kernel_rfl) (by kernel_rfl) (by kernel_rfl) (fun _ _ _ h => h) (Or.inl ⟨by rfl, ?yz18⟩) hHeld ?rz18
            case yz18 => (intro w hSw; go_simp; try with_reducible rfl)
            (try simp only [Act.put, List.setIfInBounds_toArray, List.set_cons_zero, List.set_cons_succ])
            refine wpAnyH_tk (i := 6) (v := _) 34 rfl rfl (by kernel_rfl) (by kernel_rfl) (by kernel_rfl) (fun _ _ _ h => h) (show YieldsIf Try.prog _ _ _ (.slice (some ax) q co) _ from Or.inl ⟨(by rfl), fun w hSw => by go_simp; try with_reducible rfl⟩) hHeld ?_
            (try simp only [Act.put, List.setIfInBounds_toArray, List.set_cons_zero, List.set_cons_succ])
            refine wpAnyH_tk (i := 7) (v := ?vz19) 35 rfl rfl (by kernel_rfl) (by kernel_rfl) (by kernel_rfl) (fun _ _ _ h => h) (Or.inl ⟨by rfl, ?yz19⟩) hHeld ?rz19
            case yz19 => (intro w hSw; go_simp; try with_reducible rfl)
            (try simp only [Act.put, List.setIfInBounds_toArray, List.set_cons_zero, List.set_cons_succ])
            refine wpAnyH_tk (i := 8) (v := _) 36 rfl rfl (by kernel_rfl) (by kernel_rfl) (by kernel_rfl) (fun _ _ _ h => h) (yields_cell (by rfl) 43 (.tmp 35) rfl ⟨dg, 0, none⟩ rfl (v := .slice (some ad) all.length c) (fun w h => h.head.cell rfl) Try.underlying43 rfl) hHeld ?_
            (try simp only [Act.put, List.setIfInBounds_toArray, List.set_cons_zero, List.set_cons_succ])
            refine wpAnyH_tk (i := 9) (v := ?vz20) 37 rfl rfl (by kernel_rfl) (by kernel_rfl) (by kernel_rfl) (fun _ _ _ h => h) (Or.inl ⟨by rfl, ?yz20⟩) hHeld ?rz20
            case yz20 => (intro w hSw; go_simp; try with_reducible rfl)
            (try simp only [Act.put, List.setIfInBounds_toArray, List.set_cons_zero, List.set_cons_succ])
            refine wpAnyH_tk (i := 10) (v := _) 38 rfl rfl (by kernel_rfl) (by kernel_rfl) (by kernel_rfl) (fun _ _ _ h => h) (show YieldsIf Try.prog _ _ _ (.pointer (some (ad.add k))) _ from Or.inl ⟨(by rfl), fun w hSw => by go_simp; try omega⟩) hHeld ?_
            (try simp only [Act.put, List.setIfInBounds_toArray, List.set_cons_zero, List.set_cons_succ])
            refine wpAnyH_tk (i := 11) (v := _) 39 rfl rfl (by kernel_rfl) (by kernel_rfl) (by kernel_rfl) (fun _ _ _ h => h) (yields_cell (by rfl) 32 (.tmp 38) rfl (ad.add k) rfl (v := .slice (some ax) l.length co) (fun w h => bel_cell h.below HC0.out) Try.underlying32 rfl) hHeld ?_
            (try simp only [Act.put, List.setIfInBounds_toArray, List.set_cons_zero, List.set_cons_succ])
            refine wpAnyH_tk (i := 12) (v := ?vz21) 40 rfl rfl (by kernel_rfl) (by kernel_rfl) (by kernel_rfl) (fun _ _ _ h => h) (Or.inl ⟨by rfl, ?yz21⟩) hHeld ?rz21
            case yz21 => (intro w hSw; go_simp; try with_reducible rfl)
            (try simp only [Act.put, List.setIfInBounds_toArray, List.set_cons_zero, List.set_cons_succ])
            refine wpAnyH_tk (i := 13) (v := _) 41 rfl rfl (by kernel_rfl) (by kernel_rfl) (by kernel_rfl) (fun _ _ _ h => h) (show YieldsIf Try.prog _ _ _ (.pointer (some (ax.add (q * 34)))) _ from Or.inl ⟨(by rfl), fun w hSw => by go_simp; try omega⟩) hHeld ?_
            (try simp only [Act.put, List.setIfInBounds_toArray, List.set_cons_zero, List.set_cons_succ])
            refine wpAnyH_tk (i := 14) (v := ?vz22) 42 rfl rfl (by kernel_rfl) (by kernel_rfl) (by kernel_rfl) (fun _ _ _ h => h) (Or.inl ⟨by rfl, ?yz22⟩) hHeld ?rz22
            case yz22 => (intro w hSw; go_simp; try with_reducible rfl)
            (try simp only [Act.put, List.setIfInBounds_toArray, List.set_cons_zero, List.set_cons_succ])
            refine wpAnyH_tk (i := 15) (v := _) 43 rfl rfl (by kernel_rfl) (by kernel_rfl) (by kernel_rfl) (fun _ _ _ h => h) (yields_cell (by rfl) 3 (.tmp 42) rfl (ax.add (q * 34)) rfl (v := .int .i64 B) (fun w h => bel_cell h.below HB0.out) Try.underlying3 rfl) hHeld ?_
            (try simp only [Act.put, List.setIfInBounds_toArray, List.set_cons_zero, List.set_cons_succ])
            refine wpAnyH_ready (rs := [16, 20]) (by kernel_rfl) (by simp) (AllReadyH.cons rfl (fun K hK => ?_) (AllReadyH.cons rfl (fun K hK => ?_) AllReadyH.nil))
            · skip
              go_simp
              go_wp2_with ((go_at_call 34; refine (HCL.out _ hHeld.below).mono ?_; rintro e w7 ⟨rfl, hxl, hB⟩))
              refine hK.out _ _ (by exact hHeld.step hB) (fun hHeld => ?_)
              clear hK K
              refine wpAnyH_tk (i := 17) (v := ?vz23) 27 rfl rfl (by kernel_rfl) (by kernel_rfl) (by kernel_rfl) (fun _ _ _ h => h) (Or.inl ⟨by rfl, ?yz23⟩) hHeld ?rz23
              case yz23 => (intro w hSw; go_simp; try with_reducible rfl)
              (try simp only [Act.put, List.setIfInBounds_toArray, List.set_cons_zero, List.set_cons_succ])
              refine wpAnyH_tk (i := 18) (v := ?vz24) 45 rfl rfl (by kernel_rfl) (by kernel_rfl) (by kernel_rfl) (fun _ _ _ h => h) (Or.inl ⟨by rfl, ?yz24⟩) hHeld ?rz24
              case yz24 => (intro w hSw; go_simp; try with_reducible rfl)
              (try simp only [Act.put, List.setIfInBounds_toArray, List.set_cons_zero, List.set_cons_succ])
              refine wpAnyH_tk (i := 19) (v := ?vz25) 46 rfl rfl (by kernel_rfl) (by kernel_rfl) (by kernel_rfl) (fun _ _ _ h => h) (Or.inl ⟨by rfl, ?yz25⟩) hHeld ?rz25
              case yz25 => (intro w hSw; go_simp; try with_reducible rfl)
              (try simp only [Act.put, List.setIfInBounds_toArray, List.set_cons_zero, List.set_cons_succ])
              refine wpAnyH_one (i := 20) (by kernel_rfl) rfl (fun K hK => ?_)
              rw [if_pos (by rfl)]
              refine step_alloc29 6 rfl rfl ?_; intro w8 yg h11 h12 h13; have hyd : dg ≠ yg := Nat.ne_of_lt (Nat.lt_of_lt_of_le hHeld.head.lt h11); have hyw := Nat.le_trans hHeld.size h11
              refine hK.out _ _ (by exact hHeld.fresh h13) (fun hHeld => ?_)
              clear hK K
              (try simp only [Act.put, List.setIfInBounds_toArray, List.set_cons_zero, List.set_cons_succ])
              refine wpAnyH_one (i := 21) (by kernel_rfl) rfl (fun K hK => ?_)
              rw [if_pos (by rfl)]
              refine step_store29 rfl (.tmp 6) (.tmp 45) rfl yg rfl x hxl rfl (M := old0) rfl (by first | exact h12 | exact OB.below h12 hB) ?_; intro w9 h14 h15 h16
              refine hK.out _ _ (by exact hHeld.grown h15 hyw (by simp; exact hyd)) (fun hHeld => ?_)
              clear hK K
              (try simp only [Act.put, List.setIfInBounds_toArray, List.set_cons_zero, List.set_cons_succ])
              refine wpAnyH_tk (i := 22) (v := ?vz26) 7 rfl rfl (by kernel_rfl) (by kernel_rfl) (by kernel_rfl) (fun _ _ _ h => h) (Or.inl ⟨by rfl, ?yz26⟩) hHeld ?rz26
              case yz26 => (intro w hSw; go_simp; try with_reducible rfl)
              (try simp only [Act.put, List.setIfInBounds_toArray, List.set_cons_zero, List.set_cons_succ])
              refine wpAnyH_done (by kernel_rfl) ?_ _
              (have HK9 := Aside0.mk hHeld; clear hHeld hcut h12 h14; go_wp2_with fail; go_roundw; (case rel => exact ⟨q + 1, by omega, by go_num, ⟨s2, by rw [hs2]; go_num, HSN⟩, HK9⟩); (case measure => simp [intOf]; omega))
            · skip
              rw [if_pos (by rfl)]
              refine step_alloc29 6 rfl rfl ?_; intro w8 yg h11 h12 h13; have hyd : dg ≠ yg := Nat.ne_of_lt (Nat.lt_of_lt_of_le hHeld.head.lt h11); have hyw := Nat.le_trans hHeld.size h11
              refine hK.out _ _ (by exact hHeld.fresh h13) (fun hHeld => ?_)
              clear hK K
              (try simp only [Act.put, List.setIfInBounds_toArray, List.set_cons_zero, List.set_cons_succ])
              refine wpAnyH_one (i := 16) (by kernel_rfl) rfl (fun K hK => ?_)
              go_simp
              go_wp2_with ((go_at_call 34; refine (HCL.out _ hHeld.below).mono ?_; rintro e w7 ⟨rfl, hxl, hB⟩))
              refine hK.out _ _ (by exact hHeld.step hB) (fun hHeld => ?_)
              clear hK K
              refine wpAnyH_tk (i := 17) (v := ?vz27) 27 rfl rfl (by kernel_rfl) (by kernel_rfl) (by kernel_rfl) (fun _ _ _ h => h) (Or.inl ⟨by rfl, ?yz27⟩) hHeld ?rz27
              case yz27 => (intro w hSw; go_simp; try with_reducible rfl)
              (try simp only [Act.put, List.setIfInBounds_toArray, List.set_cons_zero, List.set_cons_succ])
              refine wpAnyH_tk (i := 18) (v := ?vz28) 45 rfl rfl (by kernel_rfl) (by kernel_rfl) (by kernel_rfl) (fun _ _ _ h => h) (Or.inl ⟨by rfl, ?yz28⟩) hHeld ?rz28
              case yz28 => (intro w hSw; go_simp; try with_reducible rfl)
              (try simp only [Act.put, List.setIfInBounds_toArray, List.set_cons_zero, List.set_cons_succ])
              refine wpAnyH_tk (i := 19) (v := ?vz29) 46 rfl rfl (by kernel_rfl) (by kernel_rfl) (by kernel_rfl) (fun _ _ _ h => h) (Or.inl ⟨by rfl, ?yz29⟩) hHeld ?rz29
              case yz29 => (intro w hSw; go_simp; try with_reducible rfl)
              (try simp only [Act.put, List.setIfInBounds_toArray, List.set_cons_zero, List.set_cons_succ])
              refine wpAnyH_one (i := 21) (by kernel_rfl) rfl (fun K hK => ?_)
              rw [if_pos (by rfl)]
              refine step_store29 rfl (.tmp 6) (.tmp 45) rfl yg rfl x hxl rfl (M := old0) rfl (by first | exact h12 | exact OB.below h12 hB) ?_; intro w9 h14 h15 h16
              refine hK.out _ _ (by exact hHeld.grown h15 hyw (by simp; exact hyd)) (fun hHeld => ?_)
              clear hK K
              (try simp only [Act.put, List.setIfInBounds_toArray, List.set_cons_zero, List.set_cons_succ])
              refine wpAnyH_tk (i := 22) (v := ?vz30) 7 rfl rfl (by kernel_rfl) (by kernel_rfl) (by kernel_rfl) (fun _ _ _ h => h) (Or.inl ⟨by rfl, ?yz30⟩) hHeld ?rz30
              case yz30 => (intro w hSw; go_simp; try with_reducible rfl)
              (try simp only [Act.put, List.setIfInBounds_toArray, List.set_cons_zero, List.set_cons_succ])
              refine wpAnyH_done (by kernel_rfl) ?_ _
              (have HK9 := Aside0.mk hHeld; clear hHeld hcut h12 h14; go_wp2_with fail; go_roundw; (case rel => exact ⟨q + 1, by omega, by go_num, ⟨s2, by rw [hs2]; go_num, HSN⟩, HK9⟩); (case measure => simp [intOf]; omega))
        · obtain rfl : q = l.length := by omega
          have hd2 : decide ((l.length : Int) < l.length) = false := by simp
          go_wp2_with fail
          go_roundw
          case rel => exact ⟨k + 1, by omega, by omega, by go_num, ⟨t', rfl, ⟨by rw [HT'.out, HSS.out, cnt_all]⟩⟩, HK2⟩
          case measure => simp [intOf]; omega
    · obtain rfl : k = all.length := by omega
      have hd : decide ((all.length : Int) < all.length) = false := by simp
      go_wp2_with fail
      go_ret
      exact ⟨by rw [HSZ.out, HT.out]; rfl, HK2.out.below⟩
end Go.Proofs.Ytipbgldfomejpaa.Snap
