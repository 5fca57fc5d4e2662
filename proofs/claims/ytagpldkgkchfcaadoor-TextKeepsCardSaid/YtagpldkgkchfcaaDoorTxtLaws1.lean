/- Layer 25's laws: TextPrints. -/
import Derived.Test.YtagpldkgkchfcaaDoorTxtEnv
namespace Go.Proofs.YtagpldkgkchfcaaDoor.Txt
set_option linter.unusedSimpArgs false
set_option linter.unusedVariables false
open Go.RowKit Go.Proofs.YtagpldkgkchfcaaDoorW.PrintWords Go.Proofs.YtagpldkgkchfcaaDoorW.PrintLast Go.Proofs.YtagpldkgkchfcaaDoorW.PrintMore Arr PTextPrints

theorem Env.keeps {w w1 : World} (h : Env w) {bs : List (Nat × TypeId × List Value)} (hk : Keeps w bs w1) : Env w1 := h.below hk.below
set_option maxRecDepth 10000 in
set_option maxHeartbeats 1000000 in
theorem law_prints (w : World) (hE : Env w) (A : Option Addr) (c : Nat) (l : List Step) (hC : k41.C w A l.length l) (hg : ∀ x ∈ l, Good x) (hfw : l.length ≤ 281474976710656) (hkw : ∀ x ∈ l, x.keep.length ≤ 281474976710656) : Calls Tryd.prog 6 #[.slice A l.length c] w fun e w' => e = .returned (.bool true) ∧ Below w.heap.size w w' := by
  have HK := Aside0.mk (Keeps.refl w)
  have HE := Aside0.mk hE
  have HAW := Aside0.mk (awake_calls w hE)
  have HFW := Aside0.mk (fun W hW => few_calls W A c l (Kd.C_below hC hW) hfw hkw)
  by_cases hf : fewB l = true
  · have HST := Aside0.mk (few_steps hC hg hf)
    have HFB := Aside0.mk hf
    rcases hr : refPrint l with _ | s
    · have HR := Aside0.mk hr
      clear hr hf hC hg hfw hkw hE
      go_enter Tryd.func6, Tryd.ntmps6
      go_wp2_with (first | (go_at_call 10; refine HAW.out.mono ?_; rintro e w1 ⟨rfl, hbb⟩; have HK1 := Aside0.mk (HK.out.step hbb); clear hbb) | (go_at_call 15; refine (HFW.out _ HK1.out.below).mono ?_; rintro e w2 ⟨rfl, hbb⟩; rw [HFB.out]; have HK2 := Aside0.mk (HK1.out.step hbb); clear hbb) | (go_at_call 12; refine (rprint_calls _ A c l (HST.out.below HK2.out.below).rsteps).mono ?_; unfold RPrintEnd; rw [HR.out]; rintro e w3 ⟨s3, rfl, _, hbb⟩; have HK3 := Aside0.mk (HK2.out.step hbb); clear hbb))
      go_ret
      exact ⟨rfl, HK3.out.below⟩
    · have HR := Aside0.mk hr
      have HPR := Aside0.mk (print_ref l s (fun x hx => (hg x hx).good) hr)
      obtain ⟨S, hS⟩ : ∃ S, S = str s := ⟨_, rfl⟩
      have HS := Aside0.mk hS
      clear hr hf hC hg hfw hkw hE hS
      go_enter Tryd.func6, Tryd.ntmps6
      go_wp2_with (first | (go_at_call 10; refine HAW.out.mono ?_; rintro e w1 ⟨rfl, hbb⟩; have HK1 := Aside0.mk (HK.out.step hbb); clear hbb) | (go_at_call 15; refine (HFW.out _ HK1.out.below).mono ?_; rintro e w2 ⟨rfl, hbb⟩; rw [HFB.out]; have HK2 := Aside0.mk (HK1.out.step hbb); clear hbb) | (go_at_call 12; refine (rprint_calls _ A c l (HST.out.below HK2.out.below).rsteps).mono ?_; unfold RPrintEnd; rw [HR.out]; rintro e w3 ⟨s3, rfl, h3, hbb⟩; obtain rfl : s3 = S := (by rw [HS.out]; exact h3 s rfl); have HK3 := Aside0.mk (HK2.out.step hbb); clear hbb h3) | (go_at_call 18; refine (print_calls _ (HE.out.keeps HK3.out) A c l (HST.out.below HK3.out.below)).mono ?_; unfold PrintEnd; rw [HPR.out, ← HS.out]; rintro e w4 ⟨rfl, hbb⟩; have HK4 := Aside0.mk (HK3.out.step hbb); clear hbb))
      go_ret
      exact ⟨by simp, HK4.out.below⟩
  · have hf2 : fewB l = false := by simpa using hf
    have HFB := Aside0.mk hf2
    have HAW2 := Aside0.mk (fun W hW => awake_calls W (hE.below hW))
    clear hf hf2 hC hg hfw hkw hE
    go_enter Tryd.func6, Tryd.ntmps6
    go_wp2_with (first | (go_at_call 10; first | (refine (HAW2.out _ HK2.out.below).mono ?_; rintro e w3 ⟨rfl, hbb⟩; have HK3 := Aside0.mk (HK2.out.step hbb); clear hbb) | (refine HAW.out.mono ?_; rintro e w1 ⟨rfl, hbb⟩; have HK1 := Aside0.mk (HK.out.step hbb); clear hbb)) | (go_at_call 15; refine (HFW.out _ HK1.out.below).mono ?_; rintro e w2 ⟨rfl, hbb⟩; rw [HFB.out]; have HK2 := Aside0.mk (HK1.out.step hbb); clear hbb))
    go_ret
    exact ⟨rfl, HK3.out.below⟩
theorem row_prints (w : World) (hE : Env w) (A : Option Addr) (c : Nat) (l : List Step) (hlc : l.length ≤ c) (hC : k41.C w A l.length l) (hg : l.length * Tryd.prog.bytesOf 41 ≤ reachBytes ∧ ∀ x ∈ l, gStep x) : Calls Tryd.prog 6 #[.slice A l.length c] w fun e w' => e = .returned (.bool true) ∧ Below w.heap.size w w' := by
  obtain ⟨h1, h2, h3⟩ := args_good hC hg
  exact law_prints w hE A c l hC h1 h2 h3
end Go.Proofs.YtagpldkgkchfcaaDoor.Txt
