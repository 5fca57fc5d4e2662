/- Layer 2's statements: the answers that the document fixes. -/
import Derived.Test.YtbeodbelmnaeoaaCrcRef2
import Derived.Lib.SlBytesConst
namespace Go.Proofs.Ytbeodbelmnaeoaa.CrcRef
open Go.RowKit Go.Proofs.YtbeodbelmnaeoaaW.PrintWords Go.Proofs.YtbeodbelmnaeoaaW.PrintLast Go.Proofs.YtbeodbelmnaeoaaW.PrintMore PlainWord CrcPlain CrcMem CrcWalks Arr

theorem sum_abc : iv (sum [49, 50, 51, 52, 53, 54, 55, 56, 57]) = 3421780262 := by decide +kernel
theorem sum_nil : iv (sum []) = 0 := by decide +kernel
theorem right_x : rightB (sealL [120]) = true := by decide +kernel
theorem right_123 : rightB [1, 2, 3] = false := by decide +kernel
theorem lit_CB (w : World) (l : List Int) (hl : l.length ≤ 9223372036854775807) (t : TypeId) (fr : Nat × Nat) : CB (w.alloc (.cells (l.map (Value.int .u8)).toArray t fr)) (some ⟨w.heap.size, 0, none⟩) l.length l := by
  refine Kd.C_of_reads (enc := Value.int .u8) (d := (0 : Int)) (h1 := fun _ => rfl) ⟨rfl, hl, fun _ => ⟨_, rfl, fun j hj => ?_⟩⟩
  rw [add_plain, World.cell?_alloc_mark]
  simp [List.getD_eq_getElem?_getD, List.getElem?_eq_getElem hj]
set_option maxHeartbeats 2000000 in
theorem awake_calls (w : World) : Calls Try.prog 24 #[] w fun e w' => e = .returned (.bool true) ∧ Below w.heap.size w w' := by
  have kc := fun (w : World) (C : Array Value) (n c : Nat) => Lib.run_convert_bytes_const (P := Try.prog) w 22 5 C n c Try.underlying22 Try.underlying5
  have hs := sum_abc
  have hn := sum_nil
  have hx := right_x
  have h3 := right_123
  have HW := Aside0.mk (Below.refl w.heap.size w)
  go_enter Try.func24, Try.ntmps24
  go_wp2_with fail
  refine (sum_calls _ _ _ [49, 50, 51, 52, 53, 54, 55, 56, 57] _ (lit_CB w [49, 50, 51, 52, 53, 54, 55, 56, 57] (by decide) 5 (9, 10)) (by unfold Bytes; decide)).mono ?_
  rintro e w1 ⟨rfl, rfl⟩
  go_wp2_with fail
  refine (sum_calls _ _ _ [] _ (Kd.C_nil _ _) bytes_nil).mono ?_
  rintro e w1 ⟨rfl, rfl⟩
  have HW1 := Aside0.mk (below_alloc HW.out (.cells ([49, 50, 51, 52, 53, 54, 55, 56, 57].map (Value.int .u8)).toArray 5 (9, 10)))
  simp only [List.map_cons, List.map_nil] at HW1
  generalize w.alloc (.cells #[Value.int .u8 49, Value.int .u8 50, Value.int .u8 51, Value.int .u8 52, Value.int .u8 53, Value.int .u8 54, Value.int .u8 55, Value.int .u8 56, Value.int .u8 57] 5 (9, 10)) = w1 at *
  clear hs hn
  go_wp2_with fail
  refine (seal_calls _ _ _ [120] _ (lit_CB w1 [120] (by decide) 5 (1, 2)) (by unfold Bytes; decide) (by decide)).mono ?_
  rintro e w2 ⟨v2, rfl, h2, hb2⟩
  obtain ⟨A2, c2, rfl, hc2, hr2⟩ := RB.reads h2
  have HR2 := Aside0.mk hr2
  have HW2 := Aside0.mk (HW1.out.trans ((below_alloc (Below.refl _ _) _).trans (hb2.mono (by simp))|>.mono HW1.out.size))
  clear h2 hb2 hr2 HW1 HW
  go_wp2_with fail
  refine (right_calls _ _ _ _ _ HR2.out (by exact hc2) (bytes_append (by unfold Bytes; decide) (le_bytes _ _)) (by decide)).mono ?_
  rintro e w3 ⟨rfl, rfl⟩
  go_wp2_with fail
  refine (right_calls _ _ _ [1, 2, 3] _ (lit_CB w2 [1, 2, 3] (by decide) 5 (0, 0)) (by decide) (by unfold Bytes; decide) (by decide)).mono ?_
  rintro e w3 ⟨rfl, rfl⟩
  go_wp2_with fail
  go_ret
  exact ⟨rfl, below_alloc HW2.out _⟩
end Go.Proofs.Ytbeodbelmnaeoaa.CrcRef
