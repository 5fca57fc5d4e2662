/- The walks of layer 6: a record's sector. -/
import Derived.Test.YtmkkkenpjealdaaRecWalks
namespace Go.Proofs.Ytmkkkenpjealdaa.RecWalks
set_option linter.unusedSimpArgs false
set_option linter.unusedVariables false
open Go.RowKit Go.Proofs.YtmkkkenpjealdaaW.PrintWords Go.Proofs.YtmkkkenpjealdaaW.PrintLast Go.Proofs.YtmkkkenpjealdaaW.PrintMore PlainWord CrcPlain PlainSec CrcMem CrcWalks CrcRef Arr SecWord SecMem SecRef LeafWalks

/-- What stands ahead of the data. -/
def recPre (r : Rec) : List Int := [r.kind] ++ leI r.epoch 8 ++ leI r.seq 8 ++ leI r.blk 4 ++ leI r.cnt 4
theorem recPre_length (r : Rec) : (recPre r).length = 25 := by simp [recPre, leI_length]
theorem recBody_pre (r : Rec) (h0 : 1 ≤ r.kind) (h1 : r.kind ≤ 3) : recBody r = recPre r ++ r.data := by
  unfold recBody recPre
  rw [show r.kind % 256 = r.kind by omega]
theorem encs_append {α : Type} (enc : α → Value) (l m : List α) : encs enc (l ++ m) = encs enc l ++ encs enc m := by simp [encs]
theorem encs_take {α : Type} (enc : α → Value) (l : List α) (n : Nat) : (encs enc l).take n = encs enc (l.take n) := by simp [encs, List.map_take]
theorem encs_drop {α : Type} (enc : α → Value) (l : List α) (n : Nat) : (encs enc l).drop n = encs enc (l.drop n) := by simp [encs, List.map_drop]
/-- Data copied behind what stands. -/
theorem copied (p d : List Int) (m n : Nat) (hp : p.length = n) (hd : d.length ≤ m) : (encs (Value.int .u8) (p ++ zeros m)).take n ++ encs (Value.int .u8) d ++ (encs (Value.int .u8) (p ++ zeros m)).drop (n + (encs (Value.int .u8) d).length) = encs (Value.int .u8) (p ++ d ++ zeros (m - d.length)) := by
  rw [encs_take, encs_drop, SecMem.encs_length, ← encs_append, ← encs_append]
  congr 1
  rw [← hp, List.take_left]
  congr 1
  rw [List.drop_append]
  rw [List.drop_of_length_le (by omega)]
  simp [zeros]
set_option maxHeartbeats 4000000 in
theorem lay_calls (w : World) (r : Rec) (hl : r.data.length = 32) (hd : Bytes r.data) (hok : recOk r = true) : Calls Try.prog 29 #[.agg (recC r).toArray] w fun e w' => e = .returned (.agg (encs (Value.int .u8) (recLay r)).toArray) ∧ Below w.heap.size w w' := by
  have HW := Aside0.mk (Below.refl w.heap.size w)
  obtain ⟨⟨k0, k1⟩, ⟨e0, e1⟩, ⟨s0, s1⟩, ⟨b0, b1⟩, ⟨c0, c1⟩⟩ := recOk_small hok
  have HP := Aside0.mk (recBody_pre r k0 k1)
  have HD := Aside0.mk hd
  clear hok hd
  go_enter Try.func29, Try.ntmps29
  go_wp2_with (first | ((with_reducible refine gate_dst (N := 1) rfl ?_); refine box43 rfl (.tmp 0) rfl r rfl ?_; intro w1 a1 h1 h2 h3; have H2 := Aside0.mk h2; have H3 := Aside0.mk (below_new HW.out HW.out.size h3); clear h2 h3) | ((with_reducible refine gate_dst (N := 2) rfl ?_); refine alloc28 rfl rfl ?_; intro w2 a2 h4 h5 h6; obtain ⟨Z, hZ⟩ : ∃ Z : List Int, Z = zeros 64 := ⟨_, rfl⟩; rw [← hZ] at h5; have hZl : Z.length = 64 := (by rw [hZ, zeros_length]); clear hZ; have H5 := Aside0.mk h5; have H6 := Aside0.mk (below_new H3.out H3.out.size h6); have H2b := Aside0.mk (H2.out.grown h6 (by simp)); have hb2 : w.heap.size ≤ a2 := (by have := H3.out.size; omega); have hne1 : a1 ≠ a2 := (by have := H2.out.lt; omega); clear h5 h6) | ((with_reducible refine gate_dst (N := 3) rfl ?_); refine alloc28 rfl rfl ?_; intro w3 a3 h7 h8 h9; have hc0 := first_cell h8 (by decide); have hf0 := h8.frozen 0; have HX := Aside0.mk h8; have HR := Aside0.mk (LeafWalks.Rest.mk (H2b.out.grown h9 (by simp)) (H5.out.grown h9 (by simp)) (below_new H6.out H6.out.size h9)); have hn1 : a1 ≠ a3 := (by have := H2b.out.lt; omega); have hn2 : a2 ≠ a3 := (by have := H5.out.lt; omega); have hb3 : w.heap.size ≤ a3 := (by have := H6.out.size; omega); have hx0 := QB.kind HR.out.leaf; have hx1 := QB.epoch HR.out.leaf; clear h8 h9 H2 H3 H5 H6 H2b))
  have HX1 := Aside0.mk (first_set HX.out r.kind)
  have HR1 := Aside0.mk (HR.out.grown (grown_set _ a3 0 (.int .u8 r.kind)) hn1 hn2 hb3)
  generalize w3.setCell ⟨a3, 0, none⟩ (.int .u8 r.kind) = w4 at *
  clear HX HR hc0 hf0 hx0 hx1
  have hl1 : ([r.kind] ++ zeros (63)).length = 64 := by simp only [List.length_append, leI_length, zeros_length, List.length_cons, List.length_nil]
  refine (put_calls w4 a3 28 _ HX1.out 64 64 hl1.symm 1 8 r.epoch (by omega) (by rw [hl1]; decide) (by rw [hl1]; decide)).mono ?_
  rintro e w5 ⟨rfl, h5, h6⟩
  rw [put_zeros ([r.kind]) (63) 8 r.epoch (by omega) ((1 : Nat) : Int) (by simp [leI_length])] at h5
  have HX2 := Aside0.mk h5
  have HR2 := Aside0.mk (HR1.out.grown h6 hn1 hn2 hb3)
  have hx0 := QB.seq HR2.out.leaf
  clear h5 h6 HX1 HR1
  go_wp2_with fail
  clear hx0
  have hl2 : ([r.kind] ++ leI r.epoch 8 ++ zeros (63 - 8)).length = 64 := by simp only [List.length_append, leI_length, zeros_length, List.length_cons, List.length_nil]
  refine (put_calls w5 a3 28 _ HX2.out 64 64 hl2.symm 9 8 r.seq (by omega) (by rw [hl2]; decide) (by rw [hl2]; decide)).mono ?_
  rintro e w6 ⟨rfl, h5, h6⟩
  rw [put_zeros ([r.kind] ++ leI r.epoch 8) (63 - 8) 8 r.seq (by omega) ((9 : Nat) : Int) (by simp [leI_length])] at h5
  have HX3 := Aside0.mk h5
  have HR3 := Aside0.mk (HR2.out.grown h6 hn1 hn2 hb3)
  have hx0 := QB.blk HR3.out.leaf
  clear h5 h6 HX2 HR2
  go_wp2_with fail
  clear hx0
  have hl3 : ([r.kind] ++ leI r.epoch 8 ++ leI r.seq 8 ++ zeros (63 - 8 - 8)).length = 64 := by simp only [List.length_append, leI_length, zeros_length, List.length_cons, List.length_nil]
  refine (put_calls w6 a3 28 _ HX3.out 64 64 hl3.symm 17 4 r.blk (by omega) (by rw [hl3]; decide) (by rw [hl3]; decide)).mono ?_
  rintro e w7 ⟨rfl, h5, h6⟩
  rw [put_zeros ([r.kind] ++ leI r.epoch 8 ++ leI r.seq 8) (63 - 8 - 8) 4 r.blk (by omega) ((17 : Nat) : Int) (by simp [leI_length])] at h5
  have HX4 := Aside0.mk h5
  have HR4 := Aside0.mk (HR3.out.grown h6 hn1 hn2 hb3)
  have hx0 := QB.cnt HR4.out.leaf
  clear h5 h6 HX3 HR3
  go_wp2_with fail
  clear hx0
  have hl4 : ([r.kind] ++ leI r.epoch 8 ++ leI r.seq 8 ++ leI r.blk 4 ++ zeros (63 - 8 - 8 - 4)).length = 64 := by simp only [List.length_append, leI_length, zeros_length, List.length_cons, List.length_nil]
  refine (put_calls w7 a3 28 _ HX4.out 64 64 hl4.symm 21 4 r.cnt (by omega) (by rw [hl4]; decide) (by rw [hl4]; decide)).mono ?_
  rintro e w8 ⟨rfl, h5, h6⟩
  rw [put_zeros ([r.kind] ++ leI r.epoch 8 ++ leI r.seq 8 ++ leI r.blk 4) (63 - 8 - 8 - 4) 4 r.cnt (by omega) ((21 : Nat) : Int) (by simp [leI_length])] at h5
  have HX5 := Aside0.mk h5
  have HR5 := Aside0.mk (HR4.out.grown h6 hn1 hn2 hb3)
  clear h5 h6 HX4 HR4
  have HQ := Aside0.mk ((((show Keeps w [] w8 from ⟨HR5.out.below, fun _ h => by cases h⟩).cons HR5.out.res).cons HR5.out.leaf).cons (show BB w8 a3 28 (recPre r ++ zeros 39) from HX5.out))
  clear HX5 HR5 hl1 hl2 hl3 hl4
  go_upto_region 8 with (fail)
  refine wp_region_held_drew (S := (fun w' => Keeps w [] w')) (by kernel_rfl) (by exact HQ.out.drew.tail.tail.tail) (fun hHeld => ?_)
  refine wpAnyH_tk (i := 0) (v := ?vz1) 31 rfl rfl (by kernel_rfl) (by kernel_rfl) (by kernel_rfl) (fun _ _ _ h => h) (Or.inl ⟨by rfl, ?yz1⟩) hHeld ?rz1
  case yz1 => (intro w hSw; go_simp; try with_reducible rfl)
  (try simp only [Act.put, List.setIfInBounds_toArray, List.set_cons_zero, List.set_cons_succ])
  refine wpAnyH_tk (i := 1) (v := ?vz2) 32 rfl rfl (by kernel_rfl) (by kernel_rfl) (by kernel_rfl) (fun _ _ _ h => h) (Or.inl ⟨by rfl, ?yz2⟩) hHeld ?rz2
  case yz2 => (intro w hSw; go_simp; try with_reducible rfl)
  (try simp only [Act.put, List.setIfInBounds_toArray, List.set_cons_zero, List.set_cons_succ])
  refine wpAnyH_tk (i := 2) (v := ?vz3) 33 rfl rfl (by kernel_rfl) (by kernel_rfl) (by kernel_rfl) (fun _ _ _ h => h) (Or.inl ⟨by rfl, ?yz3⟩) hHeld ?rz3
  case yz3 => (intro w hSw; go_simp; try with_reducible rfl)
  (try simp only [Act.put, List.setIfInBounds_toArray, List.set_cons_zero, List.set_cons_succ])
  refine wpAnyH_tk (i := 3) (v := ?vz4) 34 rfl rfl (by kernel_rfl) (by kernel_rfl) (by kernel_rfl) (fun _ _ _ h => h) (Or.inl ⟨by rfl, ?yz4⟩) hHeld ?rz4
  case yz4 => (intro w hSw; go_simp; try with_reducible rfl)
  (try simp only [Act.put, List.setIfInBounds_toArray, List.set_cons_zero, List.set_cons_succ])
  refine wpAnyH_one (i := 4) (by kernel_rfl) rfl (fun K hK => ?_)
  rw [if_pos (by rfl)]
  refine step_copy (.tmp 32) (.tmp 34) 30 5 rfl Try.underlying30 size5 rfl rfl HQ.out.drew.head (encs (Value.int .u8) r.data) (by simp [encs, hl]) (fun j v hv => QB.reads HQ.out.drew.tail.head j v hv) (by simp [encs, hl, recPre_length, zeros_length]) (enc1 _) ?_; intro wx hC hgr hsz; rw [copied (recPre r) r.data 39 25 (recPre_length r) (by omega), hl] at hC; have hHX := HQ.out.drew.put hgr hb3 (by simp; omega) hC
  refine hK.out _ _ (by exact hHX.tail.tail.tail) (fun hHeld => ?_)
  clear hK K
  (try simp only [Act.put, List.setIfInBounds_toArray, List.set_cons_zero, List.set_cons_succ])
  refine wpAnyH_done (by kernel_rfl) ?_ _
  skip
  rw [← HP.out] at hHX
  have hHQ := Aside0.mk hHX
  clear hHX HQ
  have hlk : (recBody r ++ zeros 7).length = 64 := by rw [List.length_append, recBody_length, hl, zeros_length]
  have ht60 : (recBody r ++ zeros 7).take 60 = recBody r ++ zeros 3 := by
    rw [show 7 = 3 + 4 from rfl, zeros_add, ← List.append_assoc]
    have : (recBody r ++ zeros 3).length = 60 := by rw [List.length_append, recBody_length, zeros_length, hl]
    rw [← this, List.take_left]
  have HX := Aside0.mk (show BB wx a3 28 (recBody r ++ zeros 7) from hHQ.out.head)
  have HT := Aside0.mk (HX.out.reads 60 (by rw [hlk]; decide) (by rw [hlk]; decide))
  rw [ht60] at HT
  have hb60 : Bytes (recBody r ++ zeros 3) := bytes_append (recBody_bytes r HD.out) (zeros_bytes 3)
  go_wp2_with fail
  refine (sum_calls _ _ _ _ _ HT.out hb60).mono ?_
  rintro e w9 ⟨rfl, rfl⟩
  have hiv := iv_lt (sum (recBody r ++ zeros 3))
  obtain ⟨s, hs⟩ : ∃ s, s = iv (sum (recBody r ++ zeros 3)) := ⟨_, rfl⟩
  rw [← hs] at hiv ⊢
  have HSum := Aside0.mk hs
  clear hs hb60 HT
  go_wp2_with fail
  refine (put_calls wx a3 28 _ HX.out 64 64 hlk.symm 60 4 s (by omega) (by rw [hlk]; decide) (by rw [hlk]; decide)).mono ?_
  rintro e w9 ⟨rfl, h5, h6⟩
  have hfin : putL (recBody r ++ zeros 7) ((60 : Nat) : Int) ((4 : Nat) : Int) s = recLay r := by
    have := put_seal (recBody r ++ zeros 7) hlk
    rw [ht60, ← HSum.out] at this
    rw [show ((60 : Nat) : Int) = 60 from rfl, show ((4 : Nat) : Int) = 4 from rfl, this]
    unfold recLay fullL
    rw [recBody_length, hl]
  rw [hfin] at h5
  have HK := Aside0.mk (hHQ.out.put h6 hb3 (by simp; omega) h5)
  have hll := recLay_length r hl
  clear h5 h6 hHQ HX hfin ht60
  go_wp2_with (first | ((with_reducible refine gate_dst (N := 42) rfl ?_); refine load28 rfl (.tmp 3) rfl a3 rfl HK.out.head hll ?_) | ((with_reducible refine gate_store (t := 28) (p := 2) rfl ?_); refine store28 rfl rfl (.tmp 2) (.tmp 42) rfl a2 rfl (recLay r) rfl hll HK.out.tail.tail.head hZl ?_; intro w8 h8 h9 h10))
  refine bodyPost_ret (ret28 rfl rfl h8 hll) rfl ?_
  exact ⟨rfl, below_grown HK.out.below (by omega) HK.out.size h9⟩
end Go.Proofs.Ytmkkkenpjealdaa.RecWalks
