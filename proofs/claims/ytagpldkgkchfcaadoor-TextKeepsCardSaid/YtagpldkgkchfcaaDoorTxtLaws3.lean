/- Layer 25's laws: TextBack. -/
import Derived.Test.YtagpldkgkchfcaaDoorTxtLaws2
namespace Go.Proofs.YtagpldkgkchfcaaDoor.Txt
set_option linter.unusedSimpArgs false
set_option linter.unusedVariables false
open Go.RowKit Go.Proofs.YtagpldkgkchfcaaDoorW.PrintWords Go.Proofs.YtagpldkgkchfcaaDoorW.PrintLast Go.Proofs.YtagpldkgkchfcaaDoorW.PrintMore Arr PTextPrints

theorem parse_back {l : List Step} (hg : ∀ x ∈ l, Good x) (hp : ∀ x ∈ l, plainB x = true) : parseOf (printOf l) = .ok l := by
  obtain ⟨s, hs⟩ := refPrint_all l (fun x hx => by rw [← plain_iff x (hg x hx).good]; exact hp x hx)
  rw [print_ref l s (fun x hx => (hg x hx).good) hs]
  exact parse_iff.2 ⟨hs, fun x hx => (hg x hx).good⟩
theorem rsteps_of {w w' : World} {B : Nat} {A : Option Addr} {n c : Nat} {l m : List Step} (h : RO w B (.slice A n c) l) (hg : ∀ x ∈ l, Good x) (hf : l.length ≤ 1000000) (hk : ∀ x ∈ l, x.keep.length ≤ 1000000) : RSteps w A l := ⟨(Kd.R_reads' h).2.2, hg, hf, hk⟩
set_option maxRecDepth 10000 in
set_option maxHeartbeats 1000000 in
theorem law_back (w : World) (hE : Env w) (A : Option Addr) (c : Nat) (l : List Step) (hC : k41.C w A l.length l) (hg : ∀ x ∈ l, Good x) (hfw : l.length ≤ 281474976710656) (hkw : ∀ x ∈ l, x.keep.length ≤ 281474976710656) : Calls Tryd.prog 7 #[.slice A l.length c] w fun e w' => e = .returned (.bool true) ∧ Below w.heap.size w w' := by
  have HK := Aside0.mk (Keeps.refl w)
  have HE := Aside0.mk hE
  have HAW := Aside0.mk (fun W hW => awake_calls W (hE.below hW))
  have HFW := Aside0.mk (fun W hW => few_calls W A c l (Kd.C_below hC hW) hfw hkw)
  by_cases hf : fewB l = true
  · have HST := Aside0.mk (few_steps hC hg hf)
    have HFB := Aside0.mk hf
    have HGD := Aside0.mk hg
    have hl4 := HST.out.few
    clear hf hC hg hfw hkw hE
    go_enter Tryd.func7, Tryd.ntmps7
    go_wp2_with (first | (go_at_call 10; refine (HAW.out _ HK.out.below).mono ?_; rintro e w1 ⟨rfl, hbb⟩; have HK1 := Aside0.mk (HK.out.step hbb); clear hbb) | (go_at_call 15; refine (HFW.out _ HK1.out.below).mono ?_; rintro e w2 ⟨rfl, hbb⟩; rw [HFB.out]; have HK2 := Aside0.mk (HK1.out.step hbb); clear hbb))
    go_loopw [3] (fun i wr => ∃ k : Nat, k ≤ l.length ∧ i = .int .i64 k ∧ Aside0 (∀ j, j < k → plainB (sg l j) = true) ∧ Aside0 (Keeps w [] wr)) (fun i _ => l.length - (intOf i).toNat)
    case atStart => exact ⟨0, by omega, rfl, ⟨fun j hj => by omega⟩, HK2⟩
    case round =>
      obtain ⟨k, hk, rfl, HP, HB⟩ := hrel
      rename World => wr
      by_cases hlt : k < l.length
      · have hd : decide ((k : Int) < l.length) = true := by simp; omega
        obtain ⟨ad, Ak, ck, hA, hcx, hxl, hkc, hkC⟩ := at41 HST.out.cells k hlt
        subst hA
        have hG := HST.out.good _ (sg_mem l k hlt)
        have hK := HST.out.keep _ (sg_mem l k hlt)
        have HPN := Aside0.mk (fun (h : plainB (sg l k) = true) => (show ∀ j, j < k + 1 → plainB (sg l j) = true from fun j hj => by
          rcases Nat.lt_or_ge j k with h' | h'
          · exact HP.out j h'
          · obtain rfl : j = k := by omega
            exact h))
        obtain ⟨x, hx⟩ : ∃ x, x = sg l k := ⟨_, rfl⟩
        rw [← hx] at hcx hxl hkc hkC hG hK HPN
        have HCX := Aside0.mk (fun j' u (hu : (stepC x (.slice Ak x.keep.length ck))[j']? = some u) => pw_cell_below HB.out.below (hcx j' u hu))
        have HKC := Aside0.mk hkC
        have HG := Aside0.mk hG
        have HXL := Aside0.mk hxl
        clear hcx hkC hG hx hxl
        by_cases hpl : plainB x = true
        · have HPL := Aside0.mk hpl
          have HP2 := Aside0.mk (HPN.out hpl)
          clear hpl
          go_wp2_with (first | ((with_reducible refine gate_dst (N := 24) rfl ?_); refine load41 rfl (.tmp 23) rfl (ad.add (k * 42)) rfl x _ HXL.out HCX.out ?_) | (go_at_call 17; refine (plain_calls _ (HE.out.keeps HB.out) x HG.out Ak ck (Kd.C_below HKC.out HB.out.below) hkc (by omega)).mono ?_; unfold PlainEnd; rw [HPL.out]; rintro e w6 ⟨rfl, hbb⟩; have HB6 := Aside0.mk (HB.out.step hbb); clear hbb))
          go_roundw
          case rel => exact ⟨k + 1, by omega, by go_num, HP2, HB6⟩
          case measure => simp [intOf]; omega
        · have HPL := Aside0.mk (show plainB x = false by simpa using hpl)
          clear hpl
          go_wp2_with (first | ((with_reducible refine gate_dst (N := 24) rfl ?_); refine load41 rfl (.tmp 23) rfl (ad.add (k * 42)) rfl x _ HXL.out HCX.out ?_) | (go_at_call 17; refine (plain_calls _ (HE.out.keeps HB.out) x HG.out Ak ck (Kd.C_below HKC.out HB.out.below) hkc (by omega)).mono ?_; unfold PlainEnd; rw [HPL.out]; rintro e w6 ⟨rfl, hbb⟩; have HB6 := Aside0.mk (HB.out.step hbb); clear hbb))
          go_ret
          exact ⟨rfl, HB6.out.below⟩
      · obtain rfl : k = l.length := by omega
        have hd : decide ((l.length : Int) < l.length) = false := by simp
        have HALL := Aside0.mk (show ∀ x ∈ l, plainB x = true from fun x hx => by
          obtain ⟨i, hi, rfl⟩ := List.getElem_of_mem hx
          have := HP.out i hi
          unfold sg at this
          rwa [List.getD_eq_getElem?_getD, List.getElem?_eq_getElem hi] at this)
        have HPB := Aside0.mk (parse_back HGD.out HALL.out)
        have hpl := print_len_take HST.out l.length
        rw [List.take_length] at hpl
        obtain ⟨S, hS⟩ : ∃ S, S = str (printOf l) := ⟨_, rfl⟩
        have HSZ := Aside0.mk (show S.size ≤ 2147483648 by rw [hS, Lib.size_eq, str_data]; omega)
        have HPO := Aside0.mk (show parseOf S.data.toList = .ok l by rw [hS, str_data]; exact HPB.out)
        have HS := Aside0.mk hS
        have HMM := Aside0.mk (show decide (l = l) = true from decide_eq_true rfl)
        clear hS hpl
        go_wp2_with (first | (go_at_call 18; refine (print_calls _ (HE.out.keeps HB.out) A c l (HST.out.below HB.out.below)).mono ?_; unfold PrintEnd; rw [← HS.out]; rintro e w6 ⟨rfl, hbb⟩; have HB6 := Aside0.mk (HB.out.step hbb); clear hbb) | (go_at_call 11; refine (parse_calls _ (HE.out.keeps HB6.out) S HSZ.out).mono ?_; unfold ParseEnd; rw [HPO.out]; rintro e w7 ⟨v, rfl, hv, hgv, hbb⟩; obtain ⟨Av, cv, rfl, hcv, hCv⟩ := Kd.R_reads hv; have HB7 := Aside0.mk (HB6.out.step hbb); have HCV := Aside0.mk hCv; clear hbb hv hgv hcv hCv) | (go_at_call 14; refine (rsame_calls _ A Av c cv l l (HST.out.rsteps.below HB7.out.below) ⟨HCV.out, HGD.out, by omega, fun x hx => by have := HST.out.keep x hx; omega⟩).mono ?_; rintro e w8 ⟨rfl, hbb⟩; rw [show decide (l = l) = true from decide_eq_true rfl]; have HB8 := Aside0.mk (HB7.out.step hbb); clear hbb))
        go_ret
        exact ⟨rfl, HB8.out.below⟩
  · have HFB := Aside0.mk (show fewB l = false by simpa using hf)
    clear hf hC hg hfw hkw hE
    go_enter Tryd.func7, Tryd.ntmps7
    go_wp2_with (first | (go_at_call 10; first | (refine (HAW.out _ HK2.out.below).mono ?_; rintro e w3 ⟨rfl, hbb⟩; have HK3 := Aside0.mk (HK2.out.step hbb); clear hbb) | (refine (HAW.out _ HK.out.below).mono ?_; rintro e w1 ⟨rfl, hbb⟩; have HK1 := Aside0.mk (HK.out.step hbb); clear hbb)) | (go_at_call 15; refine (HFW.out _ HK1.out.below).mono ?_; rintro e w2 ⟨rfl, hbb⟩; rw [HFB.out]; have HK2 := Aside0.mk (HK1.out.step hbb); clear hbb))
    go_ret
    exact ⟨rfl, HK3.out.below⟩
theorem row_back (w : World) (hE : Env w) (A : Option Addr) (c : Nat) (l : List Step) (hlc : l.length ≤ c) (hC : k41.C w A l.length l) (hg : l.length * Tryd.prog.bytesOf 41 ≤ reachBytes ∧ ∀ x ∈ l, gStep x) : Calls Tryd.prog 7 #[.slice A l.length c] w fun e w' => e = .returned (.bool true) ∧ Below w.heap.size w w' := by
  obtain ⟨h1, h2, h3⟩ := args_good hC hg
  exact law_back w hE A c l hC h1 h2 h3
end Go.Proofs.YtagpldkgkchfcaaDoor.Txt
