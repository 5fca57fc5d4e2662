/- The walks of layer 2's statements, further. -/
import Derived.Test.YtbeodbelmnaeoaaCrcLaws
import Derived.Test.YtbeodbelmnaeoaaCrcPlain2
namespace Go.Proofs.Ytbeodbelmnaeoaa.CrcLaws
open Go.RowKit Go.Proofs.YtbeodbelmnaeoaaW.PrintWords Go.Proofs.YtbeodbelmnaeoaaW.PrintLast Go.Proofs.YtbeodbelmnaeoaaW.PrintMore PlainWord CrcPlain CrcMem CrcWalks CrcRef Arr

theorem drawn_below {w w' : World} (h : Drawn0 w w') : Below w.heap.size w w' := h.below
theorem NewB.get {w : World} {l : List Int} {e : Ending} {w' : World} (h : NewB w l e w') : ∃ A c, e = .returned (.slice A l.length c) ∧ l.length ≤ c ∧ CB w' A l.length l ∧ Below w.heap.size w w' := by
  obtain ⟨v, rfl, h1, h2⟩ := h
  obtain ⟨A, c, rfl, h3, h4⟩ := RB.reads h1
  exact ⟨A, c, rfl, h3, h4, h2⟩
set_option maxHeartbeats 2000000 in
theorem seals_walk (W : World) (A : Option Addr) (c : Nat) (l : List Int) (_hlc : l.length ≤ c) (hC : CB W A l.length l) (hg : ∀ x ∈ l, (Lit.int .u8 x).wf = true) :
    Calls Try.prog 10 #[.slice A l.length c] W (Holds W) := by
  have HC := Aside0.mk hC
  have HB := Aside0.mk (Bytes.of_wf hg)
  clear hC hg
  by_cases h : 500 < l.length
  · go_enter Try.func10, Try.ntmps10
    go_wp2_with fail
    refine (awake_calls _).mono ?_
    rintro e w1 ⟨rfl, h1⟩
    have H1 := Aside0.mk h1
    clear h1
    go_wp2_with fail
    refine (awake_calls _).mono ?_
    rintro e w2 ⟨rfl, h2⟩
    have H2 := Aside0.mk (H1.out.trans (h2.mono H1.out.size))
    clear h2
    go_wp2_with fail
    go_ret
    exact ⟨rfl, H2.out⟩
  · go_enter Try.func10, Try.ntmps10
    go_wp2_with fail
    refine (awake_calls _).mono ?_
    rintro e w1 ⟨rfl, h1⟩
    have HC1 := Aside0.mk (Kd.C_below HC.out h1)
    have H1 := Aside0.mk h1
    clear h1
    have hE := right_iff l HB.out
    by_cases h4 : 4 ≤ l.length
    · have HT := Aside0.mk (CB.take HC1.out (m := l.length - 4) (by omega))
      go_wp2_with fail
      refine (refseal_calls _ _ _ _ _ HT.out (bytes_take HB.out _) (by simp; omega)).mono ?_
      rintro e w2 h2
      obtain ⟨A2, c2, rfl, hc2, hr2, hb2⟩ := NewB.get h2
      have HC2 := Aside0.mk (Kd.C_below HC1.out hb2)
      have HR2 := Aside0.mk hr2
      have H2 := Aside0.mk (H1.out.trans (hb2.mono H1.out.size))
      clear h2 hr2 hb2 HC1 HT H1
      go_wp2_with fail
      refine (same_calls _ _ _ _ _ _ _ _ _ HR2.out HC2.out).mono ?_
      rintro e w3 ⟨rfl, ⟨n3, rfl⟩⟩
      go_wp2_with fail
      refine (seal_calls _ _ _ _ _ (Kd.C_drewN HC2.out n3) HB.out (by omega)).mono ?_
      rintro e w4 h4'
      obtain ⟨A4, c4, rfl, hc4, hr4, hb4⟩ := NewB.get h4'
      have HC4 := Aside0.mk (Kd.C_below (Kd.C_drewN HC2.out n3) hb4)
      have HR4 := Aside0.mk hr4
      have H4 := Aside0.mk ((pw_below_drewN H2.out n3).trans (hb4.mono (pw_below_drewN H2.out n3).size))
      clear h4' hr4 hb4 HC2 HR2 H2
      go_wp2_with fail
      refine (refseal_calls _ _ _ _ _ HC4.out HB.out (by omega)).mono ?_
      rintro e w5 h5
      obtain ⟨A5, c5, rfl, hc5, hr5, hb5⟩ := NewB.get h5
      have HC5 := Aside0.mk (Kd.C_below HC4.out hb5)
      have HR5 := Aside0.mk hr5
      have HR45 := Aside0.mk (Kd.C_below HR4.out hb5)
      have H5 := Aside0.mk (H4.out.trans (hb5.mono H4.out.size))
      clear h5 hr5 hb5 HC4 HR4 H4
      go_wp2_with fail
      refine (same_calls _ _ _ _ _ _ _ _ _ HR45.out HR5.out).mono ?_
      rintro e w6 ⟨rfl, ⟨n6, rfl⟩⟩
      go_wp2_with fail
      refine (right_calls _ _ _ _ _ (Kd.C_drewN HC5.out n6) (by assumption) HB.out (by omega)).mono ?_
      rintro e w7 ⟨rfl, rfl⟩
      go_wp2_with fail
      go_ret
      exact ⟨by simp, pw_below_drewN H5.out n6⟩
    · go_wp2_with fail
      refine (seal_calls _ _ _ _ _ HC1.out HB.out (by omega)).mono ?_
      rintro e w4 h4'
      obtain ⟨A4, c4, rfl, hc4, hr4, hb4⟩ := NewB.get h4'
      have HC4 := Aside0.mk (Kd.C_below HC1.out hb4)
      have HR4 := Aside0.mk hr4
      have H4 := Aside0.mk (H1.out.trans (hb4.mono H1.out.size))
      clear h4' hr4 hb4 HC1 H1
      go_wp2_with fail
      refine (refseal_calls _ _ _ _ _ HC4.out HB.out (by omega)).mono ?_
      rintro e w5 h5
      obtain ⟨A5, c5, rfl, hc5, hr5, hb5⟩ := NewB.get h5
      have HC5 := Aside0.mk (Kd.C_below HC4.out hb5)
      have HR5 := Aside0.mk hr5
      have HR45 := Aside0.mk (Kd.C_below HR4.out hb5)
      have H5 := Aside0.mk (H4.out.trans (hb5.mono H4.out.size))
      clear h5 hr5 hb5 HC4 HR4 H4
      go_wp2_with fail
      refine (same_calls _ _ _ _ _ _ _ _ _ HR45.out HR5.out).mono ?_
      rintro e w6 ⟨rfl, ⟨n6, rfl⟩⟩
      go_wp2_with fail
      refine (right_calls _ _ _ _ _ (Kd.C_drewN HC5.out n6) (by assumption) HB.out (by omega)).mono ?_
      rintro e w7 ⟨rfl, rfl⟩
      go_wp2_with fail
      go_ret
      exact ⟨by simp, pw_below_drewN H5.out n6⟩
set_option maxHeartbeats 1000000 in
theorem more_walk (W : World) (A : Option Addr) (c : Nat) (l : List Int) (_hlc : l.length ≤ c) (hC : CB W A l.length l) (hg : ∀ x ∈ l, (Lit.int .u8 x).wf = true)
    (A' : Option Addr) (c' : Nat) (m : List Int) (_hlc' : m.length ≤ c') (hC' : CB W A' m.length m) (hg' : ∀ x ∈ m, (Lit.int .u8 x).wf = true) :
    Calls Try.prog 11 #[.slice A l.length c, .slice A' m.length c'] W (Holds W) := by
  have HC := Aside0.mk hC
  have HB := Aside0.mk (Bytes.of_wf hg)
  have HC' := Aside0.mk hC'
  have HB' := Aside0.mk (Bytes.of_wf hg')
  clear hC hg hC' hg'
  by_cases h : 500 < l.length
  · go_enter Try.func11, Try.ntmps11
    go_wp2_with fail
    refine (awake_calls _).mono ?_
    rintro e w1 ⟨rfl, h1⟩
    have H1 := Aside0.mk h1
    clear h1
    go_wp2_with fail
    refine (awake_calls _).mono ?_
    rintro e w2 ⟨rfl, h2⟩
    have H2 := Aside0.mk (H1.out.trans (h2.mono H1.out.size))
    clear h2
    go_wp2_with fail
    go_ret
    exact ⟨rfl, H2.out⟩
  · by_cases h' : 500 < m.length
    · go_enter Try.func11, Try.ntmps11
      go_wp2_with fail
      refine (awake_calls _).mono ?_
      rintro e w1 ⟨rfl, h1⟩
      have H1 := Aside0.mk h1
      clear h1
      go_wp2_with fail
      refine (awake_calls _).mono ?_
      rintro e w2 ⟨rfl, h2⟩
      have H2 := Aside0.mk (H1.out.trans (h2.mono H1.out.size))
      clear h2
      go_wp2_with fail
      go_ret
      exact ⟨rfl, H2.out⟩
    · have HE := Aside0.mk (more_sum l m)
      have HN := Aside0.mk (more_nil (sum l))
      go_enter Try.func11, Try.ntmps11
      go_wp2_with fail
      refine (awake_calls _).mono ?_
      rintro e w1 ⟨rfl, h1⟩
      have HC1 := Aside0.mk (Kd.C_below HC.out h1)
      have HC1' := Aside0.mk (Kd.C_below HC'.out h1)
      have H1 := Aside0.mk h1
      clear h1
      go_wp2_with (first | ((with_reducible refine gate_dst (N := 19) rfl ?_); refine lit0_u8 rfl 19 rfl rfl H1.out H1.out.size ?_; intro v2 w2 h2 h3 h4; have H2 := Aside0.mk h2; have H3 := Aside0.mk h3; clear h2 h3) | ((with_reducible refine gate_dst (N := 21) rfl ?_); refine apps_u8 rfl (.tmp 19) (.tmp 20) rfl v2 [] A l c rfl rfl H2.out (Kd.C_below HC.out H3.out) H3.out h4 (by simp; omega) ?_; intro v3 w3 h5 h6 h7; have H5 := Aside0.mk h5; have H6 := Aside0.mk h6; clear h5 h6) | ((with_reducible refine gate_dst (N := 23) rfl ?_); refine apps_u8 rfl (.tmp 21) (.tmp 22) rfl v3 ([] ++ l) A' m c' rfl rfl H5.out (Kd.C_below HC'.out H6.out) H6.out h7 (by simp; omega) ?_; intro v4 w4 h8 h9 h10; rw [List.nil_append] at h8; obtain ⟨A4, c4, e4, hc4, hr4⟩ := RB.reads h8; subst e4; rw [List.length_append] at hr4; have HR4 := Aside0.mk hr4; have H9 := Aside0.mk h9; clear h8 h9 hr4))
      have HC4 := Aside0.mk (Kd.C_below HC.out H9.out)
      have HC4' := Aside0.mk (Kd.C_below HC'.out H9.out)
      clear H2 H3 H5 H6 HC1 HC1'
      refine (sum_calls _ _ _ _ _ HC4.out HB.out).mono ?_
      rintro e w5 ⟨rfl, rfl⟩
      go_wp2_with fail
      refine (more_calls _ _ _ _ _ _ HC4'.out HB'.out).mono ?_
      rintro e w5 ⟨rfl, rfl⟩
      go_wp2_with fail
      refine (sum_calls _ _ _ _ _ HR4.out (bytes_append HB.out HB'.out)).mono ?_
      rintro e w5 ⟨rfl, rfl⟩
      rw [HE.out]
      go_wp2_with fail
      refine (sum_calls _ _ _ _ _ HC4.out HB.out).mono ?_
      rintro e w5 ⟨rfl, rfl⟩
      go_wp2_with fail
      refine (more_calls _ _ _ [] _ _ (Kd.C_nil _ _) bytes_nil).mono ?_
      rintro e w5 ⟨rfl, rfl⟩
      rw [HN.out]
      go_wp2_with fail
      refine (sum_calls _ _ _ _ _ HC4.out HB.out).mono ?_
      rintro e w5 ⟨rfl, rfl⟩
      go_wp2_with fail
      go_ret
      exact ⟨rfl, H9.out⟩
end Go.Proofs.Ytbeodbelmnaeoaa.CrcLaws
