/- The walk of layer 9's document's Of. -/
import Derived.Test.YtkkmmbbnaafhlaaTabOf2
namespace Go.Proofs.Ytkkmmbbnaafhlaa.Tab
set_option linter.unusedSimpArgs false
set_option linter.unusedVariables false
open Go.RowKit Go.Proofs.YtkkmmbbnaafhlaaW.PrintWords Go.Proofs.YtkkmmbbnaafhlaaW.PrintLast Go.Proofs.YtkkmmbbnaafhlaaW.PrintMore Arr

def RefEnd (w : World) (n : Int) (ls : List Leaf) (e : Ending) (w' : World) : Prop := ∃ v, e = .returned (.tuple #[v, .int .i64 (codeOf n ls)]) ∧ Below w.heap.size w w' ∧ (codeOf n ls = 0 → RI w' w.heap.size v ((psOf ls (pg n.toNat)).take n.toNat))
theorem refEnd_no {w w' : World} {n : Nat} {ls : List Leaf} (v : Value) (hn : n ≤ 4096) (h : ¬ Ok31 n ls) (hb : Below w.heap.size w w') : RefEnd w (n : Int) ls (.returned (.tuple #[v, .int .i64 7])) w' :=
  ⟨_, by rw [codeOf_no hn h], hb, fun h2 => by rw [codeOf_no hn h] at h2; cases h2⟩
theorem CL.idx {w w' : World} {A : Option Addr} {n : Nat} {ls : List Leaf} (h : CL w A n ls) (i : Nat) (h1 : i < n) (hb : Below w.heap.size w w') : ∃ ad, A = some ad ∧ w'.cell? ⟨(ad.add (i * 12)).block, (ad.add (i * 12)).off + 1, none⟩ = some (.int .i64 (lf ls i).idx) := by
  obtain ⟨ad, e, hc, _⟩ := CL.at h i h1
  exact ⟨ad, e, by rw [← add_j ad (i * 12) 1 (by decide)]; exact pw_cell_below hb (hc 1 _ rfl)⟩
theorem CL.plc {w w' : World} {A : Option Addr} {n : Nat} {ls : List Leaf} (h : CL w A n ls) (i : Nat) (h1 : i < n) (hb : Below w.heap.size w w') (r : Nat) (hr : r < 10) : ∃ ad, A = some ad ∧ w'.cell? ⟨(ad.add (i * 12)).block, (ad.add (i * 12)).off + 2 + r, none⟩ = some (.int .i64 ((lf ls i).ps.getD r 0)) := by
  obtain ⟨ad, e, hc, hl⟩ := CL.at h i h1
  exact ⟨ad, e, by rw [Nat.add_assoc, ← add_j ad (i * 12) (2 + r) (by omega)]; exact pw_cell_below hb (hc (2 + r) _ (leafC_ps _ hl r hr))⟩
theorem plc_at {ls : List Leaf} {k r : Nat} {L : Leaf} (h : lastL ls (k : Int) = some L) (hr : r < 10) : plc ls (10 * k + r) = L.ps.getD r 0 := by
  unfold Tab.plc
  rw [show (10 * k + r) / 10 = k by omega, show (10 * k + r) % 10 = r by omega, h]
  rfl
theorem take_out {ls : List Leaf} {j m k r : Nat} {L : Leaf} (h : lastL ls (k : Int) = some L) (hr : r < 10) (hk : k < j) : (psOf ls j).take (min (10 * k + (r + 1)) m) = (psOf ls j).take (min (10 * k + r) m) ++ (if 10 * k + r < m then [L.ps.getD r 0] else []) := by
  by_cases e : 10 * k + r < m
  · rw [if_pos e, show min (10 * k + (r + 1)) m = 10 * k + r + 1 by omega, show min (10 * k + r) m = 10 * k + r by omega, take_rd _ _ (by rw [psOf_length]; omega), psOf_getD _ _ _ (by omega), plc_at h hr]
  · rw [if_neg e, show min (10 * k + (r + 1)) m = m by omega, show min (10 * k + r) m = m by omega, List.append_nil]
set_option maxRecDepth 10000 in
set_option maxHeartbeats 8000000 in
theorem refof_calls (w : World) (n : Int) (A : Option Addr) (c : Nat) (ls : List Leaf) (hC : CL w A ls.length ls) (hl : ls.length ≤ 1000) : Calls Try.prog 32 #[.int .i64 n, .slice A ls.length c] w (RefEnd w n ls) := by
  have HW := Aside0.mk (Keeps.refl w)
  have HC := Aside0.mk hC
  clear hC
  by_cases harg : n < 0 ∨ 4096 < n
  · have HCODE := Aside0.mk (codeOf_arg ls harg)
    go_enter Try.func32, Try.ntmps32
    by_cases h0 : n < 0
    · have hd : decide (n < 0) = true := by simp; omega
      go_wp2_with fail
      go_ret2
      exact ⟨_, by rw [HCODE.out]; rfl, HW.out.below, fun h => by rw [HCODE.out] at h; cases h⟩
    · have hd : decide (n < 0) = false := by simp; omega
      have hd2 : decide (4096 < n) = true := by simp; omega
      go_wp2_with fail
      go_ret2
      exact ⟨_, by rw [HCODE.out]; rfl, HW.out.below, fun h => by rw [HCODE.out] at h; cases h⟩
  · obtain ⟨m, rfl⟩ : ∃ m : Nat, n = m := ⟨n.toNat, by omega⟩
    have hm : m ≤ 4096 := by omega
    have hd : decide ((m : Int) < 0) = false := by simp
    have hd2 : decide (4096 < (m : Int)) = false := by simp; omega
    have hpl := pg_le hm
    obtain ⟨p, hp⟩ : ∃ p, p = pg m := ⟨_, rfl⟩
    rw [← hp] at hpl
    have hp1 : m ≤ 10 * p := by rw [hp]; unfold pg; omega
    have hp2 : p = 0 ∨ 10 * (p - 1) < m := by rw [hp]; unfold pg; omega
    have HPG := Aside0.mk hp
    clear harg hp
    go_enter Try.func32, Try.ntmps32
    go_wp2_with fail
    go_loop [6] (fun s => ∃ j : Nat, j ≤ p ∧ s = .int .i64 j) (fun s => p - (intOf s).toNat)
    case atStart => exact ⟨0, by omega, rfl⟩
    case round =>
      obtain ⟨j, hj, rfl⟩ := hrel
      by_cases hlt : 10 * j < m
      · have hd : decide (10 * (j : Int) < m) = true := by simp; omega
        go_wp2_with fail
        go_round
        case rel => exact ⟨j + 1, by omega, by go_num⟩
        case measure => simp [intOf]; omega
      · have hd : decide (10 * (j : Int) < m) = false := by simp; omega
        obtain rfl : j = p := by omega
        by_cases hlen : ls.length = j
        · have hne : ((ls.length : Int) != (j : Int)) = false := by simp; omega
          have HN := Aside0.mk (Kd.R_nil (Kd.int .i64) 3 w w.heap.size (fun _ => True))
          have HLN := Aside0.mk hlen
          have HB0 := Aside0.mk (show ∀ i : Nat, i < 0 → ∃ L, lastL ls (i : Int) = some L ∧ goodPs m (i : Int) L.ps from fun i h => by omega)
          have HT0 := Aside0.mk (show RI w w.heap.size (.slice none 0 0) ((psOf ls j).take (min (10 * 0) m)) by simpa using HN.out)
          clear hlen
          go_wp2_with fail
          go_loopw [7, 8] (fun v i wr => ∃ k : Nat, k ≤ j ∧ i = .int .i64 k ∧ Aside0 (∀ i : Nat, i < k → ∃ L, lastL ls (i : Int) = some L ∧ goodPs m (i : Int) L.ps) ∧ Aside0 (RI wr w.heap.size v ((psOf ls j).take (min (10 * k) m))) ∧ Aside0 (Below w.heap.size w wr)) (fun _ i _ => j - (intOf i).toNat)
          case atStart => exact ⟨0, by omega, rfl, HB0, HT0, ⟨HW.out.below⟩⟩
          case round =>
            clear HB0 HT0 HN
            obtain ⟨k, hk, rfl, HG, HO, HX⟩ := hrel
            by_cases hkj : k < j
            · have hd3 : decide ((k : Int) < j) = true := by simp; omega
              go_wp2_with fail
              go_loop [9, 10] (fun f a => ∃ b : Nat, b ≤ ls.length ∧ a = .int .i64 b ∧ ∃ fv : Int, f = .int .i64 fv ∧ Aside0 (Fnd ls (k : Int) b fv)) (fun _ a => ls.length - (intOf a).toNat)
              case atStart => exact ⟨0, by omega, rfl, _, rfl, ⟨Fnd.zero ls _⟩⟩
              case round =>
                obtain ⟨b, hb, rfl, fv, rfl, HF⟩ := hrel
                by_cases hbl : b < ls.length
                · have hd4 : decide ((b : Int) < ls.length) = true := by simp; omega
                  obtain ⟨ad, hA, hci⟩ := CL.idx HC.out b hbl HX.out
                  subst hA
                  obtain ⟨y, hy⟩ : ∃ y, y = (lf ls b).idx := ⟨_, rfl⟩
                  rw [← hy] at hci
                  have HY := Aside0.mk hy
                  clear hy
                  by_cases hyk : y = (k : Int)
                  · have hyk2 : (y == (k : Int)) = true := by simp; exact hyk
                    have HYK := Aside0.mk hyk
                    clear hyk
                    go_wp2_with fail
                    go_round
                    case rel => exact ⟨b + 1, by omega, by go_num, _, rfl, ⟨HF.out.yes hbl (by rw [← HY.out]; exact HYK.out)⟩⟩
                    case measure => simp [intOf]; omega
                  · have hyk2 : (y == (k : Int)) = false := by simp; exact hyk
                    go_wp2_with fail
                    go_round
                    case rel => exact ⟨b + 1, by omega, by go_num, _, rfl, ⟨HF.out.no hbl (by rw [← HY.out]; exact hyk)⟩⟩
                    case measure => simp [intOf]; omega
                · obtain rfl : b = ls.length := by omega
                  have hd4 : decide ((ls.length : Int) < ls.length) = false := by simp
                  have hf := HF.out
                  rw [Fnd, List.take_length] at hf
                  rcases hf with ⟨hf1, hf2, _⟩ | ⟨a, ha, hf1, hf2, hf3⟩
                  · subst hf1
                    have HNO := Aside0.mk (show ¬ Ok31 m ls from fun h => by
                      obtain ⟨L, hL, _⟩ := ((ok_both m ls).1 h).2 k (by rw [← HPG.out]; exact hkj)
                      rw [hf2] at hL
                      cases hL)
                    clear hf2 HF
                    go_wp2_with fail
                    go_ret2
                    exact refEnd_no _ hm HNO.out HX.out
                  · subst hf1
                    have HL := Aside0.mk hf2
                    have HLI := Aside0.mk hf3
                    have HOKL := Aside0.mk (fun (h : Ok31 m ls) => (by
                      obtain ⟨L, hL, hg⟩ := ((ok_both m ls).1 h).2 k (by rw [← HPG.out]; exact hkj)
                      rw [hf2] at hL
                      injection hL with hL
                      rw [hL]
                      exact hg : goodPs m (k : Int) (lf ls a).ps))
                    clear hf2 hf3 HF
                    have hd5 : decide ((a : Int) < 0) = false := by simp
                    have HO2 := Aside0.mk (show RI wr w.heap.size u7 ((psOf ls j).take (min (10 * k + 0) m)) from HO.out)
                    go_wp2_with fail
                    go_loopw [7, 11] (fun v i w2 => ∃ r : Nat, r ≤ 10 ∧ i = .int .i64 r ∧ Aside0 (∀ k', k' < r → 0 ≤ (lf ls a).ps.getD k' 0 ∧ (0 < (lf ls a).ps.getD k' 0 → (k : Int) * 10 + k' < (m : Int))) ∧ Aside0 (RI w2 w.heap.size v ((psOf ls j).take (min (10 * k + r) m))) ∧ Aside0 (Below w.heap.size w w2)) (fun _ i _ => 10 - (intOf i).toNat)
                    case atStart => exact ⟨0, by omega, rfl, ⟨fun k h => by omega⟩, HO2, HX⟩
                    case round =>
                      clear HO2 HX HO
                      obtain ⟨r, hr, rfl, HGP, HO, HX⟩ := hrel
                      by_cases hr10 : r < 10
                      · have hd6 : decide ((r : Int) < 10) = true := by simp; omega
                        obtain ⟨ad, hA, hcp⟩ := CL.plc HC.out a ha HX.out r hr10
                        subst hA
                        have HTO := Aside0.mk (take_out (m := m) HL.out hr10 hkj)
                        obtain ⟨v, hv⟩ : ∃ v, v = (lf ls a).ps.getD r 0 := ⟨_, rfl⟩
                        rw [← hv] at hcp HTO
                        have HV := Aside0.mk hv
                        clear hv
                        have HNX := Aside0.mk (fun (h1 : 0 ≤ v) (h2 : 0 < v → (k : Int) * 10 + r < (m : Int)) => (fun k' hk' => by
                          by_cases e : k' = r
                          · rw [e, ← HV.out]; exact ⟨h1, h2⟩
                          · exact HGP.out k' (by omega) : ∀ k', k' < r + 1 → 0 ≤ (lf ls a).ps.getD k' 0 ∧ (0 < (lf ls a).ps.getD k' 0 → (k : Int) * 10 + k' < (m : Int))))
                        have hlen2 : ((psOf ls j).take (min (10 * k + r) m)).length ≤ 5000 := by rw [List.length_take]; omega
                        by_cases hvn : v < 0
                        · have hd7 : decide (v < 0) = true := by simp; omega
                          go_wp2_with fail
                          go_ret2
                          exact refEnd_no _ hm (fun h => by have := (HOKL.out h r hr10).1; rw [← HV.out] at this; omega) HX.out
                        · have hd7 : decide (v < 0) = false := by simp; omega
                          by_cases hin : 10 * k + r < m
                          · have hd8 : decide ((m : Int) ≤ 10 * (k : Int) + (r : Int)) = false := by simp; omega
                            have hd9 : decide (10 * (k : Int) + (r : Int) < (m : Int)) = true := by simp; omega
                            rw [if_pos hin] at HTO
                            by_cases hvz : 0 < v
                            · have hd10 : decide (0 < v) = true := by simp; omega
                              go_wp2_with (first | ((with_reducible refine gate_dst (N := 84) rfl ?_); refine app_i64 (w0 := w) (B := w.heap.size) rfl (.tmp 81) (.tmp 83) rfl u7 _ v rfl rfl HO.out HX.out HX.out.size (by omega) ?_; intro v3 w3 h7 h8 h9; have H7 := Aside0.mk h7; have H8 := Aside0.mk h8; clear h7 h8))
                              go_roundw
                              case rel => exact ⟨r + 1, by omega, by go_num, ⟨HNX.out (by omega) (fun _ => by omega)⟩, ⟨by rw [HTO.out]; exact H7.out⟩, H8⟩
                              case measure => simp [intOf]; omega
                            · have hd10 : decide (0 < v) = false := by simp; omega
                              go_wp2_with (first | ((with_reducible refine gate_dst (N := 84) rfl ?_); refine app_i64 (w0 := w) (B := w.heap.size) rfl (.tmp 81) (.tmp 83) rfl u7 _ v rfl rfl HO.out HX.out HX.out.size (by omega) ?_; intro v3 w3 h7 h8 h9; have H7 := Aside0.mk h7; have H8 := Aside0.mk h8; clear h7 h8))
                              go_roundw
                              case rel => exact ⟨r + 1, by omega, by go_num, ⟨HNX.out (by omega) (fun _ => by omega)⟩, ⟨by rw [HTO.out]; exact H7.out⟩, H8⟩
                              case measure => simp [intOf]; omega
                          · have hd8 : decide ((m : Int) ≤ 10 * (k : Int) + (r : Int)) = true := by simp; omega
                            have hd9 : decide (10 * (k : Int) + (r : Int) < (m : Int)) = false := by simp; omega
                            rw [if_neg hin, List.append_nil] at HTO
                            by_cases hvz : 0 < v
                            · have hd10 : decide (0 < v) = true := by simp; omega
                              go_wp2_with fail
                              go_ret2
                              exact refEnd_no _ hm (fun h => by have := (HOKL.out h r hr10).2 (by rw [← HV.out]; exact hvz); omega) HX.out
                            · have hd10 : decide (0 < v) = false := by simp; omega
                              go_wp2_with fail
                              go_roundw
                              case rel => exact ⟨r + 1, by omega, by go_num, ⟨HNX.out (by omega) (fun h => by omega)⟩, ⟨by rw [HTO.out]; exact HO.out⟩, HX⟩
                              case measure => simp [intOf]; omega
                      · obtain rfl : r = 10 := by omega
                        have hd6 : decide (((10 : Nat) : Int) < 10) = false := by simp
                        go_wp2_with fail
                        go_roundw
                        case rel => exact ⟨k + 1, by omega, by go_num, ⟨fun i hi => by
                          by_cases e : i = k
                          · rw [e]
                            exact ⟨_, HL.out, HGP.out⟩
                          · exact HG.out i (by omega)⟩, ⟨by rw [show 10 * (k + 1) = 10 * k + 10 by omega]; exact HO.out⟩, HX⟩
                        case measure => simp [intOf]; omega
            · obtain rfl : k = j := by omega
              have hd3 : decide ((k : Int) < k) = false := by simp
              have HOK := Aside0.mk (show Ok31 m ls from (ok_both m ls).2 ⟨by rw [HLN.out, HPG.out], fun i hi => HG.out i (by rw [HPG.out]; exact hi)⟩)
              go_wp2_with fail
              go_ret2
              exact ⟨_, by rw [codeOf_ok hm HOK.out]; rfl, HX.out, fun _ => by
                rw [Int.toNat_natCast, ← HPG.out]
                have := HO.out
                rwa [show min (10 * k) m = m by omega] at this⟩
        · have hne : ((ls.length : Int) != (j : Int)) = true := by simp; omega
          have HNO := Aside0.mk (show ¬ Ok31 m ls from fun h => hlen (by have := ((ok_both m ls).1 h).1; rw [this, HPG.out]))
          clear hlen
          go_wp2_with fail
          go_ret2
          exact refEnd_no _ hm HNO.out HW.out.below
end Go.Proofs.Ytkkmmbbnaafhlaa.Tab
