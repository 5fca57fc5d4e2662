/- Layer 25's laws: TextReads. -/
import Derived.Test.YtagpldkgkchfcaaDoorTxtLaws4
namespace Go.Proofs.YtagpldkgkchfcaaDoor.Txt
set_option linter.unusedSimpArgs false
set_option linter.unusedVariables false
open Go.RowKit Go.Proofs.YtagpldkgkchfcaaDoorW.PrintWords Go.Proofs.YtagpldkgkchfcaaDoorW.PrintLast Go.Proofs.YtagpldkgkchfcaaDoorW.PrintMore Arr PTextPrints

theorem fromF_succ : ∀ (k : Nat) (s : Bs), fromF (k + 1) s = fromF k s + first (s.drop (fromF k s)) + 1
  | 0, s => by simp [fromF]
  | k + 1, s => by
    have h := fromF_succ k (s.drop (first s + 1))
    have e : fromF (k + 1) s = first s + 1 + fromF k (s.drop (first s + 1)) := rfl
    have e2 : fromF (k + 1 + 1) s = first s + 1 + fromF (k + 1) (s.drop (first s + 1)) := rfl
    rw [e2, h, e, List.drop_drop]
    omega
theorem fromF_mono (s : Bs) (j : Nat) : ∀ d : Nat, fromF j s ≤ fromF (j + d) s
  | 0 => Nat.le_refl _
  | d + 1 => by
    have h1 := fromF_mono s j d
    have h2 := fromF_succ (j + d) s
    rw [show j + (d + 1) = j + d + 1 by omega]
    omega
theorem str_back (s : ByteArray) : str s.data.toList = s := by
  unfold str
  rfl
set_option maxRecDepth 10000 in
set_option maxHeartbeats 1000000 in
theorem law_reads (w : World) (hE : Env w) (s : ByteArray) (hs : s.size ≤ 9223372036854775807) : Calls Tryd.prog 3 #[.string s] w fun e w' => e = .returned (.bool true) ∧ Below w.heap.size w w' := by
  have HK := Aside0.mk (Keeps.refl w)
  have HE := Aside0.mk hE
  have HAW := Aside0.mk (fun W hW => awake_calls W (hE.below hW))
  clear hE
  by_cases hb : s.size ≤ 3000
  · have hd0 : decide ((s.size : Int) > 3000) = false := by simp; omega
    have hz : s.data.toList.length = s.size := (Lib.size_eq s).symm
    rcases hp : parseOf s.data.toList with l | n
    · have HP := Aside0.mk hp
      have hsm := parse_small hp
      have HKW := Aside0.mk (show ∀ x ∈ l, x.keep.length ≤ 1000000 from fun x hx => by have := hsm.2 x hx; omega)
      have hl3 : l.length ≤ 3000 := by omega
      have HRP := Aside0.mk (parse_iff.1 hp).1
      clear hp hsm
      go_enter Tryd.func3, Tryd.ntmps3
      go_wp2_with (first | (go_at_call 10; refine (HAW.out _ HK.out.below).mono ?_; rintro e w1 ⟨rfl, hbb⟩; have HK1 := Aside0.mk (HK.out.step hbb); clear hbb) | (go_at_call 11; refine (parse_calls _ (HE.out.keeps HK1.out) s (by omega)).mono ?_; unfold ParseEnd; rw [HP.out]; rintro e w2 ⟨v, rfl, hv, hgv, hbb⟩; obtain ⟨A, c, rfl, hc, hC⟩ := Kd.R_reads hv; have HK2 := Aside0.mk (HK1.out.step hbb); have HC := Aside0.mk hC; have HG := Aside0.mk hgv; clear hbb hv hgv hC) | (go_at_call 12; refine (rprint_calls _ A c l ⟨HC.out, HG.out, by omega, HKW.out⟩).mono ?_; unfold RPrintEnd; rw [HRP.out]; rintro e w3 ⟨s3, rfl, h3, hbb⟩; obtain rfl : s3 = s := (by have := h3 _ rfl; rwa [str_back] at this); have HK3 := Aside0.mk (HK2.out.step hbb); clear hbb h3))
      go_ret
      exact ⟨by simp, HK3.out.below⟩
    · have HP := Aside0.mk hp
      obtain ⟨h1, h2, h3, ⟨l0, h4⟩, h5, h6⟩ := reads_err _ 1 n s.data.toList (Nat.le_refl _) hp
      obtain ⟨N, rfl⟩ : ∃ N, n = N + 1 := ⟨n - 1, by omega⟩
      rw [show N + 1 - 1 = N by omega] at h3 h4 h5 h6
      obtain ⟨cnt, hcnt⟩ : ∃ c, c = s.data.toList.count 10 := ⟨_, rfl⟩
      have hcs : cnt ≤ s.size := by rw [hcnt, ← hz]; exact List.count_le_length
      rw [← hcnt] at h2
      have HCN := Aside0.mk hcnt
      have HFM := Aside0.mk (fun j (hj : j < N) => show fromF j s.data.toList + first (s.data.toList.drop (fromF j s.data.toList)) < s.size ∧ fromF (j + 1) s.data.toList = fromF j s.data.toList + first (s.data.toList.drop (fromF j s.data.toList)) + 1 from by
        have h7 := fromF_mono s.data.toList (j + 1) (N - (j + 1))
        rw [show j + 1 + (N - (j + 1)) = N by omega] at h7
        have h8 := fromF_succ j s.data.toList
        exact ⟨by omega, h8⟩)
      have hn1 : decide (((N : Int) + 1) < 1) = false := by simp; omega
      have hn2 : decide (((N : Int) + 1) > (cnt : Int) + 1) = false := by simp; omega
      obtain ⟨F, hF⟩ : ∃ F, F = fromF N s.data.toList := ⟨_, rfl⟩
      rw [← hF] at h3 h4 h5 h6
      have H4 := Aside0.mk h4
      have H5 := Aside0.mk h5
      have H6 := Aside0.mk h6
      have HF := Aside0.mk hF
      clear hp hcnt h4 h5 h6 hF
      go_enter Tryd.func3, Tryd.ntmps3
      go_wp2_with (first | (go_at_call 10; refine (HAW.out _ HK.out.below).mono ?_; rintro e w1 ⟨rfl, hbb⟩; have HK1 := Aside0.mk (HK.out.step hbb); clear hbb) | (go_at_call 11; refine (parse_calls _ (HE.out.keeps HK1.out) s (by omega)).mono ?_; unfold ParseEnd; rw [HP.out]; rintro e w2 ⟨rfl, hbb⟩; have HK2 := Aside0.mk (HK1.out.step hbb); clear hbb) | (go_at_call 13; refine (lines_calls _ s (by omega)).mono ?_; rintro e w3 ⟨rfl, hbb⟩; rw [← HCN.out]; have HK3 := Aside0.mk (HK2.out.step hbb); clear hbb))
      go_loopw [8, 9] (fun vf vk wr => ∃ j : Nat, j ≤ N ∧ fromF j s.data.toList ≤ s.size ∧ vk = .int .i64 ((j : Int) + 1) ∧ vf = .int .i64 (fromF j s.data.toList : Nat) ∧ Aside0 (Keeps w [] wr)) (fun _ vk _ => N + 1 - (intOf vk).toNat)
      case atStart => exact ⟨0, by omega, by simp [fromF], rfl, rfl, HK3⟩
      case round =>
        clear HK3 HK2 HK1
        obtain ⟨j, hj, hfs, rfl, rfl, HB⟩ := hrel
        rename World => wr
        by_cases hlt : j < N
        · have hd : decide ((j : Int) + 1 < (N : Int) + 1) = true := by simp; omega
          obtain ⟨hq1, hq2⟩ := HFM.out j hlt
          obtain ⟨f, hf⟩ : ∃ f, f = fromF j s.data.toList := ⟨_, rfl⟩
          rw [← hf] at hq1 hq2 hfs ⊢
          obtain ⟨q, hq⟩ : ∃ q, q = first (s.data.toList.drop f) := ⟨_, rfl⟩
          rw [← hq] at hq1 hq2
          obtain ⟨p, hp⟩ : ∃ p, p = f + q := ⟨_, rfl⟩
          have hpf : f ≤ p := by omega
          have hps : p < s.size := by omega
          have HQ2 := Aside0.mk (show fromF (j + 1) s.data.toList = p + 1 by omega)
          have HNE := Aside0.mk (fun m (h1 : f ≤ m) (h2 : m < p) => show s.data.toList.getD m 0 ≠ 10 from by
            have := first_lt (s.data.toList.drop f) (m - f) (by rw [← hq]; omega)
            rwa [drop_at, show f + (m - f) = m by omega] at this)
          have HAT := Aside0.mk (show s.data.toList.getD p 0 = 10 from by have := first_at (s.data.toList.drop f) (by rw [← hq, List.length_drop, hz]; omega); rwa [← hq, drop_at, ← hp] at this)
          clear hq1 hq2 hf hq hp
          go_wp2_with fail
          go_loopw [8] (fun i wr => ∃ m : Nat, f ≤ m ∧ m ≤ p ∧ i = .int .i64 m ∧ Aside0 (Keeps w [] wr)) (fun i _ => p - (intOf i).toNat)
          case atStart => exact ⟨f, by omega, by omega, rfl, HB⟩
          case round =>
            clear HB
            obtain ⟨m, hm0, hm, rfl, HB⟩ := hrel
            rename World => wr
            have hms : m < s.size := by omega
            have hd2 : decide ((m : Int) < s.size) = true := by simp; omega
            obtain ⟨b, hb2⟩ : ∃ b : UInt8, b = s.data.toList.getD m 0 := ⟨_, rfl⟩
            have hsk : ∀ h : m < s.size, s[m]'h = b := fun h => by
              rw [hb2, List.getD_eq_getElem?_getD, List.getElem?_eq_getElem (by rw [← Lib.size_eq]; exact h)]; rfl
            by_cases hjq : m < p
            · have hbn : b ≠ 10 := by rw [hb2]; exact HNE.out m hm0 hjq
              have e1 : ((b.toNat : Int) == 10) = false := by
                rw [beq_eq_false_iff_ne]
                intro h
                exact hbn (UInt8.toNat_inj.1 (by show b.toNat = 10; omega))
              have e2 : ¬ (b.toNat : Int) = 10 := by simpa using e1
              clear hb2 hbn
              go_wp2_with fail
              go_roundw
              case rel => exact ⟨m + 1, by omega, by omega, by go_num, HB⟩
              case measure => simp [intOf]; omega
            · obtain rfl : m = p := by omega
              have hbn : b = 10 := by rw [hb2]; exact HAT.out
              subst hbn
              clear hb2
              go_wp2_with fail
              go_roundw
              case rel => exact ⟨j + 1, by omega, by rw [HQ2.out]; omega, by go_num, by rw [HQ2.out]; go_num, HB⟩
              case measure => simp [intOf]; omega
        · obtain rfl : j = N := by omega
          have hd : decide ((j : Int) + 1 < (j : Int) + 1) = false := by simp
          rw [← HF.out] at hfs ⊢
          have hd2 : decide ((F : Int) > s.size) = false := by simp; omega
          obtain ⟨q, hq⟩ : ∃ q, q = first (s.data.toList.drop F) := ⟨_, rfl⟩
          have hqs : F + q ≤ s.size := by
            have := first_le (s.data.toList.drop F)
            rw [← hq, List.length_drop, hz] at this
            omega
          obtain ⟨p, hp⟩ : ∃ p, p = F + q := ⟨_, rfl⟩
          have hpf : F ≤ p := by omega
          rw [← hp] at hqs
          have HNE := Aside0.mk (fun m (h1 : F ≤ m) (h2 : m < p) => show s.data.toList.getD m 0 ≠ 10 from by
            have := first_lt (s.data.toList.drop F) (m - F) (by rw [← hq]; omega)
            rwa [drop_at, show F + (m - F) = m by omega] at this)
          have HAT := Aside0.mk (fun (h : p < s.size) => show s.data.toList.getD p 0 = 10 from by have := first_at (s.data.toList.drop F) (by rw [← hq, List.length_drop, hz]; omega); rwa [← hq, drop_at, ← hp] at this)
          obtain ⟨S1, hS1⟩ : ∃ S1, S1 = s.extract 0 F := ⟨_, rfl⟩
          have HP1 := Aside0.mk (show parseOf S1.data.toList = .ok l0 by rw [hS1, sub_data, Nat.sub_zero, List.drop_zero]; exact H4.out)
          have hS1z : S1.size ≤ 3000 := by rw [hS1, ByteArray.size_extract]; omega
          have HS1 := Aside0.mk hS1
          clear hS1
          have h5 := H5.out
          have h6 := H6.out
          rw [← hq, List.length_drop, hz] at h5 h6
          obtain ⟨S2, hS2⟩ : ∃ S2, S2 = s.extract F (if p < s.size then p + 1 else p) := ⟨_, rfl⟩
          have HP2 := Aside0.mk (show parseOf S2.data.toList = .err 1 by
            rw [hS2, sub_data]
            by_cases h : p < s.size
            · rw [if_pos h, show p + 1 - F = q + 1 by omega]
              exact h5 (by omega)
            · rw [if_neg h, show p - F = q by omega]
              exact h6 (by omega))
          have hS2z : S2.size ≤ 3000 := by rw [hS2, ByteArray.size_extract]; split <;> omega
          have HS2 := Aside0.mk hS2
          clear hS2 h5 h6 hq hp H4 H5 H6
          go_wp2_with fail
          go_loopw [10] (fun i wr => ∃ m : Nat, F ≤ m ∧ m ≤ p ∧ i = .int .i64 m ∧ Aside0 (Keeps w [] wr)) (fun i _ => p - (intOf i).toNat)
          case atStart => exact ⟨F, by omega, by omega, rfl, HB⟩
          case round =>
            clear HB
            obtain ⟨m, hm0, hm, rfl, HB⟩ := hrel
            rename World => wr
            by_cases hjq : m < p
            · have hms : m < s.size := by omega
              have hd3 : decide ((m : Int) < s.size) = true := by simp; omega
              obtain ⟨b, hb2⟩ : ∃ b : UInt8, b = s.data.toList.getD m 0 := ⟨_, rfl⟩
              have hsk : ∀ h : m < s.size, s[m]'h = b := fun h => by
                rw [hb2, List.getD_eq_getElem?_getD, List.getElem?_eq_getElem (by rw [← Lib.size_eq]; exact h)]; rfl
              have hbn : b ≠ 10 := by rw [hb2]; exact HNE.out m hm0 hjq
              have e1 : ((b.toNat : Int) == 10) = false := by
                rw [beq_eq_false_iff_ne]
                intro h
                exact hbn (UInt8.toNat_inj.1 (by show b.toNat = 10; omega))
              have e2 : ¬ (b.toNat : Int) = 10 := by simpa using e1
              clear hb2 hbn
              go_wp2_with fail
              go_roundw
              case rel => exact ⟨m + 1, by omega, by omega, by go_num, HB⟩
              case measure => simp [intOf]; omega
            · obtain rfl : m = p := by omega
              by_cases hms : m < s.size
              · have hd3 : decide ((m : Int) < s.size) = true := by simp; omega
                have HS3 := Aside0.mk (show S2 = s.extract F (m + 1) by rw [HS2.out, if_pos hms])
                obtain ⟨b, hb2⟩ : ∃ b : UInt8, b = s.data.toList.getD m 0 := ⟨_, rfl⟩
                have hsk : ∀ h : m < s.size, s[m]'h = b := fun h => by
                  rw [hb2, List.getD_eq_getElem?_getD, List.getElem?_eq_getElem (by rw [← Lib.size_eq]; exact h)]; rfl
                have hbn : b = 10 := by rw [hb2]; exact HAT.out hms
                subst hbn
                clear hb2
                go_wp2_with (first | (go_at_call 11; first | (rw [← HS3.out]; refine (parse_calls _ (HE.out.keeps HK4.out) S2 (by omega)).mono ?_; unfold ParseEnd; rw [HP2.out]; rintro e w5 ⟨rfl, hbb⟩; have HK5 := Aside0.mk (HK4.out.step hbb); clear hbb) | (rw [← HS1.out]; refine (parse_calls _ (HE.out.keeps HB.out) S1 (by omega)).mono ?_; unfold ParseEnd; rw [HP1.out]; rintro e w4 ⟨v, rfl, hv, hgv, hbb⟩; obtain ⟨A4, c4, rfl, hc4, hC4⟩ := Kd.R_reads hv; have HK4 := Aside0.mk (HB.out.step hbb); clear hbb hv hgv hC4)))
                go_ret
                exact ⟨rfl, HK5.out.below⟩
              · obtain rfl : m = s.size := by omega
                have hd3 : decide ((s.size : Int) < s.size) = false := by simp
                have HS3 := Aside0.mk (show S2 = s.extract F s.size by rw [HS2.out, if_neg hms])
                go_wp2_with (first | (go_at_call 11; first | (rw [← HS3.out]; refine (parse_calls _ (HE.out.keeps HK4.out) S2 (by omega)).mono ?_; unfold ParseEnd; rw [HP2.out]; rintro e w5 ⟨rfl, hbb⟩; have HK5 := Aside0.mk (HK4.out.step hbb); clear hbb) | (rw [← HS1.out]; refine (parse_calls _ (HE.out.keeps HB.out) S1 (by omega)).mono ?_; unfold ParseEnd; rw [HP1.out]; rintro e w4 ⟨v, rfl, hv, hgv, hbb⟩; obtain ⟨A4, c4, rfl, hc4, hC4⟩ := Kd.R_reads hv; have HK4 := Aside0.mk (HB.out.step hbb); clear hbb hv hgv hC4)))
                go_ret
                exact ⟨rfl, HK5.out.below⟩
  · have hd0 : decide ((s.size : Int) > 3000) = true := by simp; omega
    go_enter Tryd.func3, Tryd.ntmps3
    go_wp2_with (first | (go_at_call 10; first | (refine (HAW.out _ HK1.out.below).mono ?_; rintro e w2 ⟨rfl, hbb⟩; have HK2 := Aside0.mk (HK1.out.step hbb); clear hbb) | (refine (HAW.out _ HK.out.below).mono ?_; rintro e w1 ⟨rfl, hbb⟩; have HK1 := Aside0.mk (HK.out.step hbb); clear hbb)))
    go_ret
    exact ⟨rfl, HK2.out.below⟩
end Go.Proofs.YtagpldkgkchfcaaDoor.Txt
