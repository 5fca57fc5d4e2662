/- The walks of layer 7: a leaf's sector. -/
import Derived.Test.YtmkkkenpjealdaaLeafWalks
namespace Go.Proofs.Ytmkkkenpjealdaa.LeafWalks
open Go.RowKit Go.Proofs.YtmkkkenpjealdaaW.PrintWords Go.Proofs.YtmkkkenpjealdaaW.PrintLast Go.Proofs.YtmkkkenpjealdaaW.PrintMore PlainWord CrcPlain PlainSec CrcMem CrcWalks CrcRef Arr SecWord SecMem SecRef

/-- What stands when k places are laid. -/
def leafPart (L : Leaf) (k : Nat) : List Int := [128] ++ leI L.gen 8 ++ leI L.idx 4 ++ (L.ps.take k).flatMap (leI · 4)
theorem leafPart_length (L : Leaf) (k : Nat) (h : k ≤ L.ps.length) : (leafPart L k).length = 13 + 4 * k := by
  simp only [leafPart, List.length_append, leI_length, flat_length, List.length_cons, List.length_nil, List.length_take]
  omega
theorem leafPart_succ (L : Leaf) (k : Nat) (h : k < L.ps.length) : leafPart L (k + 1) = leafPart L k ++ leI (L.ps.getD k 0) 4 := by
  have e : L.ps.take (k + 1) = L.ps.take k ++ [L.ps.getD k 0] := take_rd L.ps k h
  unfold leafPart
  rw [e, List.flatMap_append, ← List.append_assoc]
  simp
theorem leafPart_all (L : Leaf) : leafPart L L.ps.length = leafBody L := by unfold leafPart leafBody; rw [List.take_of_length_le (Nat.le_refl _)]
theorem leafLay_take (L : Leaf) (h : L.ps.length = 10) : (leafBody L ++ zeros 11).take 60 = leafBody L ++ zeros 7 := by
  rw [show 11 = 7 + 4 from rfl, zeros_add, ← List.append_assoc]
  have : (leafBody L ++ zeros 7).length = 60 := by rw [List.length_append, leafBody_length, zeros_length, h]
  rw [← this, List.take_left]
/-- The other variables, while a sector is laid. -/
structure Rest (w : World) (g1 g2 : Nat) (c1 : List Value) (t1 : TypeId) (Z : List Int) (wr : World) : Prop where
  leaf : Blk wr g1 t1 c1
  res : BB wr g2 28 Z
  below : Below w.heap.size w wr
theorem Rest.grown {w : World} {g1 g2 : Nat} {c1 : List Value} {t1 : TypeId} {Z : List Int} {wr w' : World} {g : Nat} (h : Rest w g1 g2 c1 t1 Z wr) (hg : wr.grownBy w' (some g)) (n1 : g1 ≠ g) (n2 : g2 ≠ g) (hb : w.heap.size ≤ g) : Rest w g1 g2 c1 t1 Z w' :=
  ⟨h.leaf.grown hg (by simpa using n1), h.res.grown hg (by simpa using n2), below_grown h.below hb h.below.size hg⟩
theorem first_cell {w : World} {g : Nat} {T : TypeId} {n : Nat} (h : BB w g T (zeros n)) (hn : 0 < n) : w.cell? ⟨g, 0, none⟩ = some (.int .u8 0) := by
  have := h.encAt (0 : Int) 0 (by rw [zeros_length]; exact hn)
  rwa [zeros_getD] at this
theorem first_set {w : World} {g : Nat} {T : TypeId} {n : Nat} (h : BB w g T (zeros (n + 1))) (x : Int) : BB (w.setCell ⟨g, 0, none⟩ (.int .u8 x)) g T ([x] ++ zeros n) := by
  have := h.encSet 0 x
  exact this
set_option maxHeartbeats 2000000 in
theorem lay_calls (w : World) (L : Leaf) (hl : L.ps.length = 10) (hok : leafOk L = true) : Calls Try.prog 21 #[.agg (leafC L).toArray] w fun e w' => e = .returned (.agg (encs (Value.int .u8) (leafLay L)).toArray) ∧ Below w.heap.size w w' := by
  have HW := Aside0.mk (Below.refl w.heap.size w)
  obtain ⟨⟨g1, g2, g3, g4⟩, hps⟩ := of_decide_eq_true hok
  have HP := Aside0.mk hps
  clear hps hok
  go_enter Try.func21, Try.ntmps21
  go_wp2_with (first | ((with_reducible refine gate_dst (N := 1) rfl ?_); refine box24 rfl (.tmp 0) rfl L rfl ?_; intro w1 a1 h1 h2 h3; have H2 := Aside0.mk h2; have H3 := Aside0.mk (below_new HW.out HW.out.size h3); clear h2 h3) | ((with_reducible refine gate_dst (N := 2) rfl ?_); refine alloc28 rfl rfl ?_; intro w2 a2 h4 h5 h6; obtain ⟨Z, hZ⟩ : ∃ Z : List Int, Z = zeros 64 := ⟨_, rfl⟩; rw [← hZ] at h5; have hZl : Z.length = 64 := (by rw [hZ, zeros_length]); clear hZ; have H5 := Aside0.mk h5; have H6 := Aside0.mk (below_new H3.out H3.out.size h6); have H2b := Aside0.mk (H2.out.grown h6 (by simp)); have hb2 : w.heap.size ≤ a2 := (by have := H3.out.size; omega); have hne1 : a1 ≠ a2 := (by have := H2.out.lt; omega); clear h5 h6) | ((with_reducible refine gate_dst (N := 3) rfl ?_); refine alloc28 rfl rfl ?_; intro w3 a3 h7 h8 h9; have hc0 := first_cell h8 (by decide); have hf0 := h8.frozen 0; have HX := Aside0.mk h8; have HR := Aside0.mk (Rest.mk (H2b.out.grown h9 (by simp)) (H5.out.grown h9 (by simp)) (below_new H6.out H6.out.size h9)); have hn1 : a1 ≠ a3 := (by have := H2b.out.lt; omega); have hn2 : a2 ≠ a3 := (by have := H5.out.lt; omega); have hb3 : w.heap.size ≤ a3 := (by have := H6.out.size; omega); have hx0 := LB.gen HR.out.leaf; clear h8 h9 H2 H3 H5 H6 H2b))
  have HX1 := Aside0.mk (first_set HX.out 128)
  have HR1 := Aside0.mk (HR.out.grown (grown_set _ a3 0 (.int .u8 128)) hn1 hn2 hb3)
  generalize w3.setCell ⟨a3, 0, none⟩ (.int .u8 128) = w4 at *
  clear HX HR hc0 hf0 hx0
  refine (put_calls w4 a3 28 _ HX1.out 64 64 (by rw [List.length_append, zeros_length]; rfl) 1 8 L.gen (by omega) (by rw [List.length_append, zeros_length]; decide) (by rw [List.length_append, zeros_length]; decide)).mono ?_
  rintro e w5 ⟨rfl, h5, h6⟩
  rw [put_zeros [128] 63 8 L.gen (by omega) ((1 : Nat) : Int) rfl] at h5
  have HX2 := Aside0.mk h5
  have HR2 := Aside0.mk (HR1.out.grown h6 hn1 hn2 hb3)
  have hx1 := LB.idx HR2.out.leaf
  clear h5 h6 HX1 HR1
  have hl2 : ([128] ++ leI L.gen 8 ++ zeros (63 - 8)).length = 64 := by rw [List.length_append, List.length_append, leI_length, zeros_length]; rfl
  go_wp2_with fail
  refine (put_calls w5 a3 28 _ HX2.out 64 64 hl2.symm 9 4 L.idx (by omega) (by rw [hl2]; decide) (by rw [hl2]; decide)).mono ?_
  rintro e w6 ⟨rfl, h5, h6⟩
  rw [put_zeros ([128] ++ leI L.gen 8) (63 - 8) 4 L.idx (by omega) ((9 : Nat) : Int) (by simp [leI_length])] at h5
  have HX3 := Aside0.mk (show BB w6 a3 28 (leafPart L 0 ++ zeros (51 - 4 * 0)) by unfold leafPart; rw [List.take_zero]; simpa using h5)
  have HR3 := Aside0.mk (HR2.out.grown h6 hn1 hn2 hb3)
  clear h5 h6 HX2 HR2 hx1 hl2
  go_wp2_with ((with_reducible refine gate_dst (N := 21) rfl ?_); refine loadPlaces rfl (.tmp 20) rfl a1 rfl hl HR3.out.leaf ?_)
  go_loopw [22] (fun i wr => ∃ k : Nat, k ≤ 10 ∧ i = .int .i64 k ∧ Aside0 (BB wr a3 28 (leafPart L k ++ zeros (51 - 4 * k))) ∧ Aside0 (Rest w a1 a2 (leafC L) 24 Z wr)) (fun i _ => 10 - (intOf i).toNat)
  case atStart => exact ⟨0, by omega, rfl, HX3, HR3⟩
  case round =>
    clear HX3 HR3
    obtain ⟨k, hk, rfl, HX, HR⟩ := hrel
    have hlk : (leafPart L k ++ zeros (51 - 4 * k)).length = 64 := by rw [List.length_append, leafPart_length L k (by omega), zeros_length]; omega
    by_cases hlt : k < 10
    · have hb := HP.out (L.ps.getD k 0) (by rw [List.getD_eq_getElem?_getD, List.getElem?_eq_getElem (by omega)]; exact List.getElem_mem _)
      obtain ⟨x, hx⟩ : ∃ x, x = L.ps.getD k 0 := ⟨_, rfl⟩
      rw [← hx] at hb
      have HS := Aside0.mk (leafPart_succ L k (by omega))
      rw [← hx] at HS
      have hmod : x % 4294967296 = x := by omega
      go_wp2_with ((with_reducible refine gate_dst (N := 25) rfl ?_); refine wpl_index rfl 22 (.tmp 21) (.tmp 22) rfl (Value.int .i64) (0 : Int) L.ps rfl k rfl Try.underlying22 hl.symm (by omega) Try.underlying3 rfl size3 ?_; rw [← hx]; clear hx)
      rw [show 13 + 4 * (k : Int) = ((13 + 4 * k : Nat) : Int) by omega]
      refine (put_calls wr a3 28 _ HX.out 64 64 hlk.symm (13 + 4 * k) 4 x (by omega) (by rw [hlk]; omega) (by rw [hlk]; decide)).mono ?_
      rintro e w7 ⟨rfl, h5, h6⟩
      rw [put_zeros (leafPart L k) (51 - 4 * k) 4 x (by omega) _ (by rw [leafPart_length L k (by omega)]), ← HS.out, show 51 - 4 * k - 4 = 51 - 4 * (k + 1) by omega] at h5
      have HX2 := Aside0.mk h5
      have HR2 := Aside0.mk (HR.out.grown h6 hn1 hn2 hb3)
      clear h5 h6 HX HR
      go_wp2_with fail
      go_roundw
      case rel => exact ⟨k + 1, by omega, by go_num, HX2, HR2⟩
      case measure => simp [intOf]; omega
    · obtain rfl : k = 10 := by omega
      have hbl : leafPart L 10 = leafBody L := by rw [← hl, leafPart_all]
      rw [hbl] at hlk HX
      have HT := Aside0.mk (HX.out.reads 60 (by rw [hlk]; decide) (by rw [hlk]; decide))
      rw [show 51 - 4 * 10 = 11 from rfl] at HT HX hlk
      rw [leafLay_take L hl] at HT
      have hb60 : Bytes (leafBody L ++ zeros 7) := bytes_append (leafBody_bytes L) (zeros_bytes 7)
      go_wp2_with fail
      refine (sum_calls _ _ _ _ _ HT.out hb60).mono ?_
      rintro e w7 ⟨rfl, rfl⟩
      have hiv := iv_lt (sum (leafBody L ++ zeros 7))
      obtain ⟨s, hs⟩ : ∃ s, s = iv (sum (leafBody L ++ zeros 7)) := ⟨_, rfl⟩
      rw [← hs] at hiv ⊢
      have HSum := Aside0.mk hs
      clear hs hb60 HT hbl
      go_wp2_with fail
      refine (put_calls wr a3 28 _ HX.out 64 64 hlk.symm 60 4 s (by omega) (by rw [hlk]; decide) (by rw [hlk]; decide)).mono ?_
      rintro e w7 ⟨rfl, h5, h6⟩
      have hfin : putL (leafBody L ++ zeros 11) ((60 : Nat) : Int) ((4 : Nat) : Int) s = leafLay L := by
        have := put_seal (leafBody L ++ zeros 11) hlk
        rw [leafLay_take L hl, ← HSum.out] at this
        rw [show ((60 : Nat) : Int) = 60 from rfl, show ((4 : Nat) : Int) = 4 from rfl, this]
        unfold leafLay fullL
        rw [leafBody_length, hl]
      rw [hfin] at h5
      have HX2 := Aside0.mk h5
      have HR2 := Aside0.mk (HR.out.grown h6 hn1 hn2 hb3)
      have hll := leafLay_length L hl
      clear h5 h6 HX HR hfin
      go_wp2_with (first | ((with_reducible refine gate_dst (N := 41) rfl ?_); refine load28 rfl (.tmp 3) rfl a3 rfl HX2.out hll ?_) | ((with_reducible refine gate_store (t := 28) (p := 2) rfl ?_); refine store28 rfl rfl (.tmp 2) (.tmp 41) rfl a2 rfl (leafLay L) rfl hll HR2.out.res hZl ?_; intro w8 h8 h9 h10))
      refine bodyPost_ret (ret28 rfl rfl h8 hll) rfl ?_
      exact ⟨rfl, below_grown HR2.out.below (by omega) HR2.out.below.size h9⟩
end Go.Proofs.Ytmkkkenpjealdaa.LeafWalks
