/- Layer 25's laws: TextLines. -/
import Derived.Test.YtagpldkgkchfcaaDoorTxtSmall
namespace Go.Proofs.YtagpldkgkchfcaaDoor.Txt
set_option linter.unusedSimpArgs false
set_option linter.unusedVariables false
open Go.RowKit Go.Proofs.YtagpldkgkchfcaaDoorW.PrintWords Go.Proofs.YtagpldkgkchfcaaDoorW.PrintLast Go.Proofs.YtagpldkgkchfcaaDoorW.PrintMore Arr PTextPrints

theorem drop_sg (l : List Step) (k : Nat) (h : k < l.length) : l.drop k = sg l k :: l.drop (k + 1) := by
  rw [List.drop_eq_getElem_cons h]
  unfold sg
  rw [List.getD_eq_getElem?_getD, List.getElem?_eq_getElem h]
  rfl
theorem cutOne41 (A : Option Addr) (n c j : Nat) (hm : j + 1 ≤ n) (hc : n ≤ c) : ∃ A', (∀ W : World, (Instr.slice 23 (.slice A n c) (some (.int .i64 (j : Int))) (some (.int .i64 ((j : Int) + 1))) none).run Tryd.prog W = .ok (.slice A' 1 (c - j)) W) ∧
    ∀ (w : World) (gs : List Step), gs.length = n → k41.C w A n gs → k41.C w A' 1 ((gs.take (j + 1)).drop j) := by
  obtain ⟨i, hi, hz⟩ := Option.map_eq_some_iff.1 info41
  simp only [Prod.mk.injEq] at hz
  have hsz : i.size = 42 := by rw [hz.2.1, k41_sz]
  refine ⟨if c = j then A else A.map (·.add (j * 42)), fun W => ?_, fun w gs hl hC => ?_⟩
  · have := cut_mid 23 41 .i64 .i64 Tryd.underlying23 hi 42 hsz A n c (j : Int) ((j : Int) + 1) (by omega) (by omega) (by omega) hc W
    rw [this]
    have e1 : ((j : Int) + 1).toNat - ((j : Int)).toNat = 1 := by omega
    rw [e1, Int.toNat_natCast]
  · subst hl
    have := Kd.C_mid (k := k41) (lo := j) (hi := j + 1) hC (by omega) hm hc
    have e : ((gs.take (j + 1)).drop j).length = 1 := by rw [List.length_drop, List.length_take]; omega
    rw [e, k41_sz] at this
    exact this
theorem take_drop41 (gs : List Step) (i : Nat) (h : i < gs.length) : (gs.take (i + 1)).drop i = [sg gs i] := by
  rw [List.drop_take, drop_sg gs i h]
  simp
theorem sub_data (s : ByteArray) (a b : Nat) : (s.extract a b).data.toList = (s.data.toList.drop a).take (b - a) := by
  rw [ByteArray.data_extract, Array.toList_extract, List.extract_eq_take_drop]
theorem drop_at (s : Bs) (a m : Nat) : (s.drop a).getD m 0 = s.getD (a + m) 0 := by
  rw [List.getD_eq_getElem?_getD, List.getD_eq_getElem?_getD, List.getElem?_drop]
set_option maxRecDepth 10000 in
set_option maxHeartbeats 1000000 in
theorem law_lines (w : World) (hE : Env w) (s : ByteArray) (hs : s.size ≤ 9223372036854775807) : Calls Tryd.prog 4 #[.string s] w fun e w' => e = .returned (.bool true) ∧ Below w.heap.size w w' := by
  have HK := Aside0.mk (Keeps.refl w)
  have HE := Aside0.mk hE
  have HAW := Aside0.mk (fun W hW => awake_calls W (hE.below hW))
  clear hE
  by_cases hb : s.size ≤ 3000
  · have hd0 : decide ((s.size : Int) > 3000) = false := by simp; omega
    rcases hp : parseOf s.data.toList with l | n
    · have HP := Aside0.mk hp
      have hsm := parse_small hp
      have HCT := Aside0.mk (lines_count l 1 _ hp)
      have hz : s.data.toList.length = s.size := (Lib.size_eq s).symm
      have HKW := Aside0.mk (show ∀ x ∈ l, x.keep.length ≤ 1000000 from fun x hx => by have := hsm.2 x hx; omega)
      have hl3 : l.length ≤ 3000 := by omega
      clear hp hsm
      go_enter Tryd.func4, Tryd.ntmps4
      go_wp2_with (first | (go_at_call 10; refine (HAW.out _ HK.out.below).mono ?_; rintro e w1 ⟨rfl, hbb⟩; have HK1 := Aside0.mk (HK.out.step hbb); clear hbb) | (go_at_call 11; refine (parse_calls _ (HE.out.keeps HK1.out) s (by omega)).mono ?_; unfold ParseEnd; rw [HP.out]; rintro e w2 ⟨v, rfl, hv, hgv, hbb⟩; obtain ⟨A, c, rfl, hc, hC⟩ := Kd.R_reads hv; have HK2 := Aside0.mk (HK1.out.step hbb); have HC := Aside0.mk hC; have HG := Aside0.mk hgv; clear hbb hv hgv hC) | (go_at_call 13; refine (lines_calls _ s (by omega)).mono ?_; rintro e w3 ⟨rfl, hbb⟩; rw [HCT.out]; have HK3 := Aside0.mk (HK2.out.step hbb); have HC3 := Aside0.mk (Kd.C_below HC.out hbb); clear hbb))
      go_loopw [6, 7, 8, 9, 10, 11] (fun vf i _ _ _ _ wr => ∃ (k f : Nat), k ≤ l.length ∧ f ≤ s.size ∧ i = .int .i64 k ∧ vf = .int .i64 f ∧ Aside0 (parseOf (s.data.toList.drop f) = .ok (l.drop k)) ∧ Aside0 (Keeps w [] wr) ∧ Aside0 (k41.C wr A l.length l)) (fun _ i _ _ _ _ _ => l.length - (intOf i).toNat)
      case atStart => exact ⟨0, 0, by omega, by omega, rfl, rfl, ⟨by simpa using HP.out⟩, HK3, HC3⟩
      case round =>
        clear HK3 HC3 HK2 HK1 HC
        obtain ⟨k, f, hk, hf, rfl, rfl, HF, HB, HC⟩ := hrel
        rename World => wr
        by_cases hlt : k < l.length
        · have hd : decide ((k : Int) < l.length) = true := by simp; omega
          have hro := HF.out
          rw [drop_sg l k hlt] at hro
          obtain ⟨hr1, hr2, hr3⟩ := reads_ok hro
          rw [List.drop_drop] at hr3
          obtain ⟨q, hq⟩ : ∃ q, q = first (s.data.toList.drop f) := ⟨_, rfl⟩
          rw [← hq] at hr1 hr2 hr3
          rw [List.length_drop, hz] at hr1
          obtain ⟨p, hp⟩ : ∃ p, p = f + q := ⟨_, rfl⟩
          have hpf : f ≤ p := by omega
          have hps : p < s.size := by omega
          have HR3 := Aside0.mk (show parseOf (s.data.toList.drop (p + 1)) = .ok (l.drop (k + 1)) by rw [hp]; exact hr3)
          have HNE := Aside0.mk (fun m (h1 : f ≤ m) (h2 : m < p) => show s.data.toList.getD m 0 ≠ 10 from by
            have := first_lt (s.data.toList.drop f) (m - f) (by rw [← hq]; omega)
            rwa [drop_at, show f + (m - f) = m by omega] at this)
          have HAT := Aside0.mk (show s.data.toList.getD p 0 = 10 from by have := first_at (s.data.toList.drop f) (by rw [← hq, List.length_drop, hz]; exact hr1); rwa [← hq, drop_at, ← hp] at this)
          obtain ⟨S1, hS1⟩ : ∃ S1, S1 = s.extract f (p + 1) := ⟨_, rfl⟩
          have HP1 := Aside0.mk (show parseOf S1.data.toList = .ok [sg l k] by rw [hS1, sub_data, show p + 1 - f = q + 1 by omega]; exact hr2)
          have HS1 := Aside0.mk hS1
          obtain ⟨A', hcut, hcutC⟩ := cutOne41 A l.length c k (by omega) hc
          have HCC := Aside0.mk (hcutC _ l rfl HC.out)
          rw [take_drop41 l k hlt] at HCC
          have hS1z : S1.size ≤ 3000 := by rw [hS1, ByteArray.size_extract]; omega
          have hgx := HG.out _ (sg_mem l k hlt)
          have hkx := HKW.out _ (sg_mem l k hlt)
          obtain ⟨x, hx⟩ : ∃ x, x = sg l k := ⟨_, rfl⟩
          rw [← hx] at HCC HP1 hgx hkx
          have HGX := Aside0.mk (show ∀ y ∈ [x], Good y from fun y hy => by obtain rfl := List.mem_singleton.1 hy; exact hgx)
          have HKX := Aside0.mk (show ∀ y ∈ [x], y.keep.length ≤ 1000000 from fun y hy => by obtain rfl := List.mem_singleton.1 hy; exact hkx)
          clear hro hr2 hr3 hq hcutC hS1 hx hgx hkx hr1 hp
          go_wp2_with fail
          go_loopw [8] (fun i wr => ∃ m : Nat, f ≤ m ∧ m ≤ p ∧ i = .int .i64 m ∧ Aside0 (Keeps w [] wr) ∧ Aside0 (k41.C wr A l.length l) ∧ Aside0 (k41.C wr A' 1 [x])) (fun i _ => p - (intOf i).toNat)
          case atStart => exact ⟨f, by omega, by omega, rfl, HB, HC, HCC⟩
          case round =>
            clear HB HC HCC
            obtain ⟨m, hm0, hm, rfl, HB, HC, HCC⟩ := hrel
            rename World => wr
            have hms : m < s.size := by omega
            have hd2 : decide ((m : Int) < s.size) = true := by simp; omega
            obtain ⟨b, hb2⟩ : ∃ b : UInt8, b = s.data.toList.getD m 0 := ⟨_, rfl⟩
            have hsk : ∀ h : m < s.size, s[m]'h = b := fun h => by
              rw [hb2, List.getD_eq_getElem?_getD, List.getElem?_eq_getElem (by rw [← Lib.size_eq]; exact h)]; rfl
            by_cases hjq : m < p
            · have hbn : b ≠ 10 := by rw [hb2]; exact HNE.out m hm0 hjq
              have e1 : ((b.toNat : Int) == 10) = false := by
                rw [beq_eq_false_iff_ne]
                intro h
                exact hbn (UInt8.toNat_inj.1 (by show b.toNat = 10; omega))
              have e2 : ¬ (b.toNat : Int) = 10 := by simpa using e1
              clear hb2 hbn
              go_wp2_with fail
              go_roundw
              case rel => exact ⟨m + 1, by omega, by omega, by go_num, HB, HC, HCC⟩
              case measure => simp [intOf]; omega
            · obtain rfl : m = p := by omega
              have hbn : b = 10 := by rw [hb2]; exact HAT.out
              subst hbn
              clear hb2
              have hd3 : decide ((m : Int) ≥ s.size) = false := by simp; omega
              go_wp2_with (first | (go_at_call 11; rw [← HS1.out]; refine (parse_calls _ (HE.out.keeps HB.out) S1 (by omega)).mono ?_; unfold ParseEnd; rw [HP1.out]; rintro e w4 ⟨v, rfl, hv, hgv, hbb⟩; obtain ⟨A4, c4, rfl, hc4, hC4⟩ := Kd.R_reads hv; have HK4 := Aside0.mk (HB.out.step hbb); have HD := Aside0.mk hC4; have HC4 := Aside0.mk (Kd.C_below HC.out hbb); have HCC4 := Aside0.mk (Kd.C_below HCC.out hbb); clear hbb hv hgv hC4) | (go_at_call 14; refine (rsame_calls _ A4 A' c4 (c - k) [x] [x] ⟨HD.out, HGX.out, by simp, HKX.out⟩ ⟨HCC4.out, HGX.out, by simp, HKX.out⟩).mono ?_; rintro e w5 ⟨rfl, hbb⟩; rw [show decide ([x] = [x]) = true from decide_eq_true rfl]; have HK5 := Aside0.mk (HK4.out.step hbb); have HC5 := Aside0.mk (Kd.C_below HC4.out hbb); clear hbb))
              go_roundw
              case rel => exact ⟨k + 1, m + 1, by omega, by omega, by go_num, by go_num, HR3, HK5, HC5⟩
              case measure => simp [intOf]; omega
        · obtain rfl : k = l.length := by omega
          have hd : decide ((l.length : Int) < l.length) = false := by simp
          have hfs : f = s.size := by
            have h0 := HF.out
            rw [List.drop_length] at h0
            have h1 := congrArg List.length (reads_nil h0)
            rw [List.length_drop, hz, List.length_nil] at h1
            omega
          subst hfs
          go_wp2_with fail
          go_ret
          exact ⟨by simp, HB.out.below⟩
    · have HP := Aside0.mk hp
      clear hp
      go_enter Tryd.func4, Tryd.ntmps4
      go_wp2_with (first | (go_at_call 10; refine (HAW.out _ HK.out.below).mono ?_; rintro e w1 ⟨rfl, hbb⟩; have HK1 := Aside0.mk (HK.out.step hbb); clear hbb) | (go_at_call 11; refine (parse_calls _ (HE.out.keeps HK1.out) s (by omega)).mono ?_; unfold ParseEnd; rw [HP.out]; rintro e w2 ⟨rfl, hbb⟩; have HK2 := Aside0.mk (HK1.out.step hbb); clear hbb))
      go_ret
      exact ⟨rfl, HK2.out.below⟩
  · have hd0 : decide ((s.size : Int) > 3000) = true := by simp; omega
    go_enter Tryd.func4, Tryd.ntmps4
    go_wp2_with (first | (go_at_call 10; first | (refine (HAW.out _ HK1.out.below).mono ?_; rintro e w2 ⟨rfl, hbb⟩; have HK2 := Aside0.mk (HK1.out.step hbb); clear hbb) | (refine (HAW.out _ HK.out.below).mono ?_; rintro e w1 ⟨rfl, hbb⟩; have HK1 := Aside0.mk (HK.out.step hbb); clear hbb)))
    go_ret
    exact ⟨rfl, HK2.out.below⟩
end Go.Proofs.YtagpldkgkchfcaaDoor.Txt
