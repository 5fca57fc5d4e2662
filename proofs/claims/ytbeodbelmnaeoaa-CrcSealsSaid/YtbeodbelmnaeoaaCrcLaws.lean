/- The walks of layer 2's statements. -/
import Derived.Test.YtbeodbelmnaeoaaCrcAwake
import Derived.Test.YtbeodbelmnaeoaaDec
namespace Go.Proofs.Ytbeodbelmnaeoaa.CrcLaws
open Go.RowKit Go.Proofs.YtbeodbelmnaeoaaW.PrintWords Go.Proofs.YtbeodbelmnaeoaaW.PrintLast Go.Proofs.YtbeodbelmnaeoaaW.PrintMore PlainWord CrcPlain CrcMem CrcWalks CrcRef Arr

/-- What a statement comes to. -/
abbrev Holds (W : World) : Ending → World → Prop := fun e w' => e = .returned (.bool true) ∧ Below W.heap.size W w'
theorem dec_bytes : Dec.Dec Try.prog 22 (Kd.slice 5 (Kd.int .u8)) (fun l => ∀ x ∈ l, (Lit.int .u8 x).wf = true) := Dec.dec_slice Try.underlying22 (Dec.dec_int Try.underlying5) (by kernel_rfl)

set_option maxHeartbeats 1000000 in
theorem sums_walk (W : World) (A : Option Addr) (c : Nat) (l : List Int) (_hlc : l.length ≤ c) (hC : CB W A l.length l) (hg : ∀ x ∈ l, (Lit.int .u8 x).wf = true) :
    Calls Try.prog 9 #[.slice A l.length c] W (Holds W) := by
  have HC := Aside0.mk hC
  have HB := Aside0.mk (Bytes.of_wf hg)
  clear hC hg
  by_cases h : 500 < l.length
  · go_enter Try.func9, Try.ntmps9
    go_wp2_with fail
    refine (awake_calls _).mono ?_
    rintro e w1 ⟨rfl, h1⟩
    have H1 := Aside0.mk h1
    clear h1
    go_wp2_with fail
    go_ret
    exact ⟨rfl, H1.out⟩
  · go_enter Try.func9, Try.ntmps9
    go_wp2_with fail
    refine (awake_calls _).mono ?_
    rintro e w1 ⟨rfl, h1⟩
    have HC1 := Aside0.mk (Kd.C_below HC.out h1)
    have H1 := Aside0.mk h1
    clear h1
    go_wp2_with fail
    refine (sum_calls _ _ _ l _ HC1.out HB.out).mono ?_
    rintro e w2 ⟨rfl, rfl⟩
    go_wp2_with fail
    refine (sumref _ _ _ l _ HC1.out HB.out (by omega)).mono ?_
    rintro e w2 ⟨rfl, h2⟩
    have H2 := Aside0.mk (H1.out.trans (h2.mono H1.out.size))
    clear h2
    go_wp2_with fail
    go_ret
    exact ⟨rfl, H2.out⟩
end Go.Proofs.Ytbeodbelmnaeoaa.CrcLaws
