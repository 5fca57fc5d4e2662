/- The walks of layer 6's statements: RecLays, RecReads, RecOnly, RecUnlike. -/
import Derived.Test.YtmkkkenpjealdaaRecAwake
import Derived.Test.YtmkkkenpjealdaaPageLaws4
namespace Go.Proofs.Ytmkkkenpjealdaa.RecLaws
set_option linter.unusedSimpArgs false
set_option linter.unusedVariables false
open Go.RowKit Go.Proofs.YtmkkkenpjealdaaW.PrintWords Go.Proofs.YtmkkkenpjealdaaW.PrintLast Go.Proofs.YtmkkkenpjealdaaW.PrintMore PlainWord CrcPlain PlainSec CrcMem CrcWalks CrcRef Arr SecWord SecMem SecRef LeafWalks PageLaws RecWalks

def kRec : Kd Rec := Kd.iso (Kd.pair (Kd.int .i64) (Kd.pair (Kd.int .i64) (Kd.pair (Kd.int .i64) (Kd.pair (Kd.int .i64) (Kd.pair (Kd.int .i64) (Dec.ints .u8 32)))))) (fun r : Rec => (r.kind, r.epoch, r.seq, r.blk, r.cnt, r.data))
def gRec (r : Rec) : Prop := (Lit.int .i64 r.kind).wf = true ∧ (Lit.int .i64 r.epoch).wf = true ∧ (Lit.int .i64 r.seq).wf = true ∧ (Lit.int .i64 r.blk).wf = true ∧ (Lit.int .i64 r.cnt).wf = true ∧ ∀ x ∈ r.data, (Lit.int .u8 x).wf = true
section
attribute [local irreducible] Dec.Dec Dec.DecF
theorem dec43 : Dec.Dec Try.prog 43 kRec gRec :=
  Dec.dec_struct (k := Kd.pair (Kd.int .i64) (Kd.pair (Kd.int .i64) (Kd.pair (Kd.int .i64) (Kd.pair (Kd.int .i64) (Kd.pair (Kd.int .i64) (Dec.ints .u8 32)))))) (G := fun x => (Lit.int .i64 x.1).wf = true ∧ (Lit.int .i64 x.2.1).wf = true ∧ (Lit.int .i64 x.2.2.1).wf = true ∧ (Lit.int .i64 x.2.2.2.1).wf = true ∧ (Lit.int .i64 x.2.2.2.2.1).wf = true ∧ ∀ y ∈ x.2.2.2.2.2, (Lit.int .u8 y).wf = true) (pr := fun r : Rec => (r.kind, r.epoch, r.seq, r.blk, r.cnt, r.data)) Try.underlying43 (by kernel_rfl)
    (Dec.decf_cons (Dec.dec_int Try.underlying3) rfl (by kernel_rfl) (Dec.decf_cons (Dec.dec_int Try.underlying3) rfl (by kernel_rfl) (Dec.decf_cons (Dec.dec_int Try.underlying3) rfl (by kernel_rfl) (Dec.decf_cons (Dec.dec_int Try.underlying3) rfl (by kernel_rfl) (Dec.decf_cons (Dec.dec_int Try.underlying3) rfl (by kernel_rfl) (Dec.decf_one (Dec.dec_ints Try.underlying41 Try.underlying5 (by kernel_rfl) (by kernel_rfl)) rfl (by kernel_rfl))))))) (fun ⟨a, b, c, d, e, f⟩ => ⟨⟨a, b, c, d, e, f⟩, rfl⟩)
end
theorem rec_cells {w : World} {r : Rec} {cs : Array Value} (h : kRec.K w r cs.toList) : cs = (recC r).toArray ∧ r.data.length = 32 := by
  obtain ⟨c1, c2, h1, h2, c3, c4, h3, h4, c5, c6, h5, h6, c7, c8, h7, h8, c9, c10, h9, h10, h11, h12⟩ := h
  have e : cs.toList = recC r := by
    rw [h1, h2, h3, h4, h5, h6, h7, h8, h9, h10, h12]
    rfl
  exact ⟨by rw [← e], h11⟩
theorem rec_wf {r : Rec} (h : gRec r) : recWf r := ⟨bounds_i64 h.1, bounds_i64 h.2.1, bounds_i64 h.2.2.1, bounds_i64 h.2.2.2.1, bounds_i64 h.2.2.2.2.1, Bytes.of_wf h.2.2.2.2.2⟩
/-- A sector with its sum put right. -/
abbrev sealedL (p : List Int) : List Int := mendL p (sealL (p.take 60)) 64
theorem sealedL_bytes {p : List Int} (hp : Bytes p) : Bytes (sealedL p) := mendL_bytes hp (seal_bytes (bytes_take hp 60)) 64
theorem sealedL_length (p : List Int) : (sealedL p).length = p.length := mendL_length _ _ _
set_option maxHeartbeats 4000000 in
theorem sealed_calls (w : World) (p : List Int) (hp : Bytes p) (hl : p.length = 64) : Calls Try.prog 31 #[.agg (encs (Value.int .u8) p).toArray] w fun e w' => e = .returned (.agg (encs (Value.int .u8) (sealedL p)).toArray) ∧ Below w.heap.size w w' := by
  have HW := Aside0.mk (Keeps.refl w)
  have HP := Aside0.mk hp
  clear hp
  have h60 : (p.take 60).length = 60 := by rw [List.length_take]; omega
  go_enter Try.func31, Try.ntmps31
  go_wp2_with (first | ((with_reducible refine gate_dst (N := 1) rfl ?_); refine box28 rfl (.tmp 0) rfl p rfl ?_; intro w1 a1 h1 h2 h3; have H1 := Aside0.mk (HW.out.new h3 h2); clear h2 h3) | ((with_reducible refine gate_dst (N := 2) rfl ?_); refine alloc28 rfl rfl ?_; intro w2 a2 h4 h5 h6; obtain ⟨Z, hZ⟩ : ∃ Z : List Int, Z = zeros 64 := ⟨_, rfl⟩; rw [← hZ] at h5; have hZl : Z.length = 64 := (by rw [hZ, zeros_length]); clear hZ; have H2 := Aside0.mk (H1.out.new h6 h5); have hb2 : w.heap.size ≤ a2 := Nat.le_trans H1.out.size h4; have hne : a1 ≠ a2 := (by have := H1.out.head.lt; omega); have HB0 := Aside0.mk (Below.refl w2.heap.size w2); have ha2 := H2.out.head.lt; have ha1 := H2.out.tail.head.lt; clear h5 h6) | ((with_reducible refine gate_dst (N := 5) rfl ?_); refine lit0_u8 rfl 5 rfl rfl HB0.out (Nat.le_refl _) ?_; intro v3 w3 h6 h7 h8; have H6 := Aside0.mk h6; have H7 := Aside0.mk h7; have HC := Aside0.mk (BB.reads (H2.out.step h7).tail.head 60 (by omega) (by omega)); clear h6 h7) | (at_builtin; refine apps_u8 rfl (.tmp 5) (.tmp 6) rfl v3 [] (some ⟨a1, 0, none⟩) (p.take 60) 64 rfl (by rw [h60]; rfl) H6.out (by rw [h60]; exact HC.out) H7.out h8 (by rw [h60]; decide) ?_; intro v4 w4 h9 h10 h11; rw [List.nil_append] at h9; obtain ⟨A4, c4, e4, hc4, hr4⟩ := RB.reads h9; rw [h60] at e4 hr4; subst e4; have HR4 := Aside0.mk hr4; have H10 := Aside0.mk h10; clear h9 h10 hr4))
  clear H6 H7 HC HB0
  refine (refseal_calls A4 60 c4 (p.take 60) _ HR4.out (bytes_take HP.out 60) (by rw [h60]; decide)).mono ?_
  rintro e w5 ⟨v5, rfl, h5r, h5b⟩
  have hsl : (sealL (p.take 60)).length = 64 := by rw [seal_length, h60]
  obtain ⟨A5, c5, rfl⟩ := Kd.R_slice h5r
  rw [hsl] at h5r
  rw [hsl]
  have H5 := Aside0.mk ((H2.out.step H10.out).step h5b)
  have H5R := Aside0.mk (Kd.R_mono (Kd.R_bound h5r) (fun k h => show k ≠ a1 by have := h.2.1; have := H10.out.size; omega) : Kd.R (Kd.int .u8) 5 w5 w4.heap.size (fun k => k ≠ a1) (.slice A5 64 c5) (sealL (p.take 60)))
  clear h5r h5b HR4 H10 H2
  obtain ⟨s, hs⟩ : ∃ s, s = sealL (p.take 60) := ⟨_, rfl⟩
  rw [← hs] at H5R hsl
  have HS0 := Aside0.mk (show sealedL p = mendL p s 64 by rw [hs])
  clear hs
  go_wp2_with fail
  go_loopw [4] (fun i wr => ∃ k : Nat, 60 ≤ k ∧ k ≤ 64 ∧ i = .int .i64 k ∧ Aside0 (Keeps w [(a2, 28, encs (Value.int .u8) Z), (a1, 28, encs (Value.int .u8) (mendL p s k))] wr) ∧ Aside0 (Kd.R (Kd.int .u8) 5 wr w4.heap.size (fun k => k ≠ a1) (.slice A5 64 c5) s)) (fun i _ => 64 - (intOf i).toNat)
  case atStart => exact ⟨60, by omega, by omega, rfl, ⟨by rw [mendL_60]; exact H5.out⟩, H5R⟩
  case round =>
    clear H5 H5R
    obtain ⟨k, hk0, hk, rfl, HK, HR⟩ := hrel
    by_cases hlt : k < 64
    · have HS := Aside0.mk (Kd.R_reads' HR.out).2.2
      rw [hsl] at HS
      obtain ⟨ad, rfl, hx⟩ := Kd.at_int HS.out (k : Int) (by omega) (by omega)
      rw [Int.toNat_natCast] at hx
      have hc := Blk.encAt HK.out.tail.head (0 : Int) k (by rw [mendL_length]; omega)
      have hf := HK.out.tail.head.frozen k
      obtain ⟨y, hy⟩ : ∃ y, y = rd s (k : Int) := ⟨_, rfl⟩
      rw [← hy] at hx
      have HY := Aside0.mk (hy.trans (by rw [rd_nat, Int.toNat_natCast]) : y = s.getD k 0)
      clear hy
      go_wp2_with fail
      go_roundw
      case rel => exact ⟨k + 1, by omega, by omega, by go_num, ⟨Keeps.put1 HK.out (grown_set _ a1 k _) h1 hne.symm (by simp) (by have := Blk.encSet HK.out.tail.head k y; rwa [HY.out, mendL_succ p s k hk0 (by omega), ← HY.out] at this)⟩, ⟨Kd.R_far HR.out (fun _ h => h) _⟩⟩
      case measure => simp [intOf]; omega
    · obtain rfl : k = 64 := by omega
      have hml : (mendL p s 64).length = 64 := by rw [mendL_length, hl]
      go_wp2_with (first | ((with_reducible refine gate_dst (N := 19) rfl ?_); refine load28 rfl (.tmp 1) rfl a1 rfl HK.out.tail.head hml ?_) | ((with_reducible refine gate_store (t := 28) (p := 2) rfl ?_); refine store28 rfl rfl (.tmp 2) (.tmp 19) rfl a2 rfl (mendL p s 64) rfl hml HK.out.head hZl ?_; intro w6 h6 h7 h8))
      refine bodyPost_ret (ret28 rfl rfl h6 hml) rfl ?_
      exact ⟨by rw [HS0.out], below_grown HK.out.below hb2 HK.out.size h7⟩
set_option maxHeartbeats 4000000 in
theorem lays_walk (W : World) (r : Rec) (cs : Array Value) (hK : kRec.K W r cs.toList) (hG : gRec r) : Calls Try.prog 7 #[.agg cs] W (Holds W) := by
  obtain ⟨rfl, hl⟩ := rec_cells hK
  have hw := rec_wf hG
  have hdb := hw.data
  have HW := Aside0.mk (Keeps.refl W)
  have hll := recLay_length r hl
  have HE := Aside0.mk (eq28 hll hll (recLay_bytes r hdb) (recLay_bytes r hdb))
  rw [decide_eq_true rfl] at HE
  clear hK hG hw
  go_enter Try.func7, Try.ntmps7
  go_wp2_with ((with_reducible refine gate_dst (N := 1) rfl ?_); refine box43 rfl (.tmp 0) rfl r rfl ?_; intro w1 a1 h1 h2 h3; have H1 := Aside0.mk (HW.out.new h3 h2); clear h2 h3)
  obtain ⟨b, hb⟩ : ∃ b, b = recOk r := ⟨_, rfl⟩
  have HB := Aside0.mk hb
  clear hb
  refine wp_region_held_drew (S := (fun w' => Keeps W [(a1, 43, recC r)] w')) (by kernel_rfl) (by exact H1.out.drew) (fun hHeld => ?_)
  refine wpAnyH_one (i := 0) (by kernel_rfl) rfl (fun K hK => ?_)
  go_simp
  go_wp2_with ((go_at_call 26; refine (RecWalks.awake_calls _).mono ?_; rintro e wx ⟨rfl, hb⟩; have hHX := hHeld.step hb))
  refine hK.out _ _ (by exact hHX) (fun hHeld => ?_)
  clear hK K
  refine wpAnyH_tk (i := 1) (v := ?vz1) 4 rfl rfl (by kernel_rfl) (by kernel_rfl) (by kernel_rfl) (fun _ _ _ h => h) (Or.inl ⟨by rfl, ?yz1⟩) hHeld ?rz1
  case yz1 => (intro w hSw; go_simp; try with_reducible rfl)
  (try simp only [Act.put, List.setIfInBounds_toArray, List.set_cons_zero, List.set_cons_succ])
  refine wpAnyH_tk (i := 2) (v := ?vz2) 5 rfl rfl (by kernel_rfl) (by kernel_rfl) (by kernel_rfl) (fun _ _ _ h => h) (Or.inl ⟨by rfl, ?yz2⟩) hHeld ?rz2
  case yz2 => (intro w hSw; go_simp; try with_reducible rfl)
  (try simp only [Act.put, List.setIfInBounds_toArray, List.set_cons_zero, List.set_cons_succ])
  refine wpAnyH_tk (i := 3) (v := _) 6 rfl rfl (by kernel_rfl) (by kernel_rfl) (by kernel_rfl) (fun _ _ _ h => h) (yields_load (by rfl) 43 (.tmp 1) rfl a1 rfl (fun _ h => h.head) Try.underlying43 rfl (size43' r hl)) hHeld ?_
  (try simp only [Act.put, List.setIfInBounds_toArray, List.set_cons_zero, List.set_cons_succ])
  refine wpAnyH_tk (i := 5) (v := _) 8 rfl rfl (by kernel_rfl) (by kernel_rfl) (by kernel_rfl) (fun _ _ _ h => h) (yields_load (by rfl) 43 (.tmp 1) rfl a1 rfl (fun _ h => h.head) Try.underlying43 rfl (size43' r hl)) hHeld ?_
  (try simp only [Act.put, List.setIfInBounds_toArray, List.set_cons_zero, List.set_cons_succ])
  refine wpAnyH_one (i := 4) (by kernel_rfl) rfl (fun K hK => ?_)
  go_simp
  go_wp2_with ((go_at_call 27; refine (RecWalks.right_calls _ r hl hdb).mono ?_; rintro e wx ⟨rfl, hb⟩; rw [← HB.out]; have hHX := hHeld.step hb))
  refine hK.out _ _ (by exact hHX) (fun hHeld => ?_)
  clear hK K
  refine wpAnyH_one (i := 6) (by kernel_rfl) rfl (fun K hK => ?_)
  go_simp
  go_wp2_with ((go_at_call 28; refine (RecWalks.refright_calls _ r hl hdb).mono ?_; rintro e wx ⟨rfl, hb⟩; rw [← HB.out]; have hHX := hHeld.step hb))
  refine hK.out _ _ (by exact hHX) (fun hHeld => ?_)
  clear hK K
  refine wpAnyH_tk (i := 7) (v := ?vz3) 10 rfl rfl (by kernel_rfl) (by kernel_rfl) (by kernel_rfl) (fun _ _ _ h => h) (Or.inl ⟨by rfl, ?yz3⟩) hHeld ?rz3
  case yz3 => (intro w hSw; go_simp; try with_reducible rfl)
  (try simp only [Act.put, List.setIfInBounds_toArray, List.set_cons_zero, List.set_cons_succ])
  refine wpAnyH_tk (i := 8) (v := ?vz4) 11 rfl rfl (by kernel_rfl) (by kernel_rfl) (by kernel_rfl) (fun _ _ _ h => h) (Or.inl ⟨by rfl, ?yz4⟩) hHeld ?rz4
  case yz4 => (intro w hSw; go_simp; try with_reducible rfl)
  (try simp only [Act.put, List.setIfInBounds_toArray, List.set_cons_zero, List.set_cons_succ])
  refine wpAnyH_done (by kernel_rfl) ?_ _
  skip
  go_wp2_with fail
  have H2 := Aside0.mk (show Keeps W [(a1, 43, recC r)] wx from hHeld)
  clear hHeld hHX hb
  cases b
  · skip
    refine wp_region_held_drew (S := (fun w' => Keeps W [(a1, 43, recC r)] w')) (by kernel_rfl) (by exact H2.out.drew) (fun hHeld => ?_)
    refine wpAnyH_tk (i := 0) (v := _) 12 rfl rfl (by kernel_rfl) (by kernel_rfl) (by kernel_rfl) (fun _ _ _ h => h) (yields_load (by rfl) 43 (.tmp 1) rfl a1 rfl (fun _ h => h.head) Try.underlying43 rfl (size43' r hl)) hHeld ?_
    (try simp only [Act.put, List.setIfInBounds_toArray, List.set_cons_zero, List.set_cons_succ])
    refine wpAnyH_one (i := 1) (by kernel_rfl) rfl (fun K hK => ?_)
    go_simp
    go_wp2_with ((go_at_call 28; refine (RecWalks.refright_calls _ r hl hdb).mono ?_; rintro e wx ⟨rfl, hb⟩; rw [← HB.out]; have hHX := hHeld.step hb))
    refine hK.out _ _ (by exact hHX) (fun hHeld => ?_)
    clear hK K
    refine wpAnyH_tk (i := 2) (v := ?vz5) 14 rfl rfl (by kernel_rfl) (by kernel_rfl) (by kernel_rfl) (fun _ _ _ h => h) (Or.inl ⟨by rfl, ?yz5⟩) hHeld ?rz5
    case yz5 => (intro w hSw; go_simp; try with_reducible rfl)
    (try simp only [Act.put, List.setIfInBounds_toArray, List.set_cons_zero, List.set_cons_succ])
    refine wpAnyH_tk (i := 3) (v := ?vz6) 15 rfl rfl (by kernel_rfl) (by kernel_rfl) (by kernel_rfl) (fun _ _ _ h => h) (Or.inl ⟨by rfl, ?yz6⟩) hHeld ?rz6
    case yz6 => (intro w hSw; go_simp; try with_reducible rfl)
    (try simp only [Act.put, List.setIfInBounds_toArray, List.set_cons_zero, List.set_cons_succ])
    refine wpAnyH_tk (i := 4) (v := undef) 16 rfl rfl (by kernel_rfl) (by kernel_rfl) (by kernel_rfl) (fun _ _ _ h => h) (yields_not (by rfl)) hHeld ?_
    (try simp only [Act.put, List.setIfInBounds_toArray, List.set_cons_zero, List.set_cons_succ])
    refine wpAnyH_tk (i := 5) (v := undef) 17 rfl rfl (by kernel_rfl) (by kernel_rfl) (by kernel_rfl) (fun _ _ _ h => h) (yields_not (by rfl)) hHeld ?_
    (try simp only [Act.put, List.setIfInBounds_toArray, List.set_cons_zero, List.set_cons_succ])
    refine wpAnyH_tk (i := 6) (v := undef) 18 rfl rfl (by kernel_rfl) (by kernel_rfl) (by kernel_rfl) (fun _ _ _ h => h) (yields_not (by rfl)) hHeld ?_
    (try simp only [Act.put, List.setIfInBounds_toArray, List.set_cons_zero, List.set_cons_succ])
    refine wpAnyH_tk (i := 7) (v := undef) 19 rfl rfl (by kernel_rfl) (by kernel_rfl) (by kernel_rfl) (fun _ _ _ h => h) (yields_not (by rfl)) hHeld ?_
    (try simp only [Act.put, List.setIfInBounds_toArray, List.set_cons_zero, List.set_cons_succ])
    refine wpAnyH_tk (i := 8) (v := undef) 20 rfl rfl (by kernel_rfl) (by kernel_rfl) (by kernel_rfl) (fun _ _ _ h => h) (yields_not (by rfl)) hHeld ?_
    (try simp only [Act.put, List.setIfInBounds_toArray, List.set_cons_zero, List.set_cons_succ])
    refine wpAnyH_tk (i := 9) (v := ?vz7) 21 rfl rfl (by kernel_rfl) (by kernel_rfl) (by kernel_rfl) (fun _ _ _ h => h) (Or.inl ⟨by rfl, ?yz7⟩) hHeld ?rz7
    case yz7 => (intro w hSw; go_simp; try with_reducible rfl)
    (try simp only [Act.put, List.setIfInBounds_toArray, List.set_cons_zero, List.set_cons_succ])
    refine wpAnyH_tk (i := 10) (v := ?vz8) 2 rfl rfl (by kernel_rfl) (by kernel_rfl) (by kernel_rfl) (fun _ _ _ h => h) (Or.inl ⟨by rfl, ?yz8⟩) hHeld ?rz8
    case yz8 => (intro w hSw; go_simp; try with_reducible rfl)
    (try simp only [Act.put, List.setIfInBounds_toArray, List.set_cons_zero, List.set_cons_succ])
    refine wpAnyH_done (by kernel_rfl) ?_ _
    skip
    go_wp2_with fail
    go_ret
    exact ⟨rfl, hHX.below⟩
  · have hok : recOk r = true := HB.out.symm
    refine wp_region_held_drew (S := (fun w' => Keeps W [(a1, 43, recC r)] w')) (by kernel_rfl) (by exact H2.out.drew) (fun hHeld => ?_)
    refine wpAnyH_tk (i := 0) (v := _) 12 rfl rfl (by kernel_rfl) (by kernel_rfl) (by kernel_rfl) (fun _ _ _ h => h) (yields_load (by rfl) 43 (.tmp 1) rfl a1 rfl (fun _ h => h.head) Try.underlying43 rfl (size43' r hl)) hHeld ?_
    (try simp only [Act.put, List.setIfInBounds_toArray, List.set_cons_zero, List.set_cons_succ])
    refine wpAnyH_one (i := 1) (by kernel_rfl) rfl (fun K hK => ?_)
    go_simp
    go_wp2_with ((go_at_call 28; refine (RecWalks.refright_calls _ r hl hdb).mono ?_; rintro e wx ⟨rfl, hb⟩; rw [← HB.out]; have hHX := hHeld.step hb))
    refine hK.out _ _ (by exact hHX) (fun hHeld => ?_)
    clear hK K
    refine wpAnyH_tk (i := 2) (v := ?vz9) 14 rfl rfl (by kernel_rfl) (by kernel_rfl) (by kernel_rfl) (fun _ _ _ h => h) (Or.inl ⟨by rfl, ?yz9⟩) hHeld ?rz9
    case yz9 => (intro w hSw; go_simp; try with_reducible rfl)
    (try simp only [Act.put, List.setIfInBounds_toArray, List.set_cons_zero, List.set_cons_succ])
    refine wpAnyH_tk (i := 3) (v := ?vz10) 15 rfl rfl (by kernel_rfl) (by kernel_rfl) (by kernel_rfl) (fun _ _ _ h => h) (Or.inl ⟨by rfl, ?yz10⟩) hHeld ?rz10
    case yz10 => (intro w hSw; go_simp; try with_reducible rfl)
    (try simp only [Act.put, List.setIfInBounds_toArray, List.set_cons_zero, List.set_cons_succ])
    refine wpAnyH_tk (i := 4) (v := _) 16 rfl rfl (by kernel_rfl) (by kernel_rfl) (by kernel_rfl) (fun _ _ _ h => h) (yields_load (by rfl) 43 (.tmp 1) rfl a1 rfl (fun _ h => h.head) Try.underlying43 rfl (size43' r hl)) hHeld ?_
    (try simp only [Act.put, List.setIfInBounds_toArray, List.set_cons_zero, List.set_cons_succ])
    refine wpAnyH_tk (i := 6) (v := _) 18 rfl rfl (by kernel_rfl) (by kernel_rfl) (by kernel_rfl) (fun _ _ _ h => h) (yields_load (by rfl) 43 (.tmp 1) rfl a1 rfl (fun _ h => h.head) Try.underlying43 rfl (size43' r hl)) hHeld ?_
    (try simp only [Act.put, List.setIfInBounds_toArray, List.set_cons_zero, List.set_cons_succ])
    refine wpAnyH_one (i := 5) (by kernel_rfl) rfl (fun K hK => ?_)
    go_simp
    go_wp2_with ((go_at_call 29; refine (RecWalks.lay_calls _ r hl hdb hok).mono ?_; rintro e wx ⟨rfl, hb⟩; have hHX := hHeld.step hb))
    refine hK.out _ _ (by exact hHX) (fun hHeld => ?_)
    clear hK K
    refine wpAnyH_one (i := 7) (by kernel_rfl) rfl (fun K hK => ?_)
    go_simp
    go_wp2_with ((go_at_call 30; refine (RecWalks.reflay_calls _ r hl hdb hok).mono ?_; rintro e wx ⟨rfl, hb⟩; have hHX := hHeld.step hb))
    refine hK.out _ _ (by exact hHX) (fun hHeld => ?_)
    clear hK K
    refine wpAnyH_tk (i := 8) (v := _) 20 rfl rfl (by kernel_rfl) (by kernel_rfl) (by kernel_rfl) (fun _ _ _ h => h) (yields_eql (by rfl) 28 28 (.tmp 17) (.tmp 19) rfl (encs (Value.int .u8) (recLay r)) (encs (Value.int .u8) (recLay r)) rfl rfl true HE.out eqg28 rfl) hHeld ?_
    (try simp only [Act.put, List.setIfInBounds_toArray, List.set_cons_zero, List.set_cons_succ])
    refine wpAnyH_tk (i := 9) (v := ?vz11) 21 rfl rfl (by kernel_rfl) (by kernel_rfl) (by kernel_rfl) (fun _ _ _ h => h) (Or.inl ⟨by rfl, ?yz11⟩) hHeld ?rz11
    case yz11 => (intro w hSw; go_simp; try with_reducible rfl)
    (try simp only [Act.put, List.setIfInBounds_toArray, List.set_cons_zero, List.set_cons_succ])
    refine wpAnyH_tk (i := 10) (v := ?vz12) 2 rfl rfl (by kernel_rfl) (by kernel_rfl) (by kernel_rfl) (fun _ _ _ h => h) (Or.inl ⟨by rfl, ?yz12⟩) hHeld ?rz12
    case yz12 => (intro w hSw; go_simp; try with_reducible rfl)
    (try simp only [Act.put, List.setIfInBounds_toArray, List.set_cons_zero, List.set_cons_succ])
    refine wpAnyH_done (by kernel_rfl) ?_ _
    skip
    go_wp2_with fail
    go_ret
    exact ⟨rfl, hHX.below⟩
end Go.Proofs.Ytmkkkenpjealdaa.RecLaws
