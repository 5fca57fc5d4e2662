/- The walks of layer 6's statements: RecReads, RecOnly. -/
import Derived.Test.YtmkkkenpjealdaaRecLaws
namespace Go.Proofs.Ytmkkkenpjealdaa.RecLaws
set_option linter.unusedSimpArgs false
set_option linter.unusedVariables false
open Go.RowKit Go.Proofs.YtmkkkenpjealdaaW.PrintWords Go.Proofs.YtmkkkenpjealdaaW.PrintLast Go.Proofs.YtmkkkenpjealdaaW.PrintMore PlainWord CrcPlain PlainSec CrcMem CrcWalks CrcRef Arr SecWord SecMem SecRef LeafWalks PageLaws RecWalks

set_option maxHeartbeats 4000000 in
theorem reads_walk (W : World) (p : List Int) (cs : Array Value) (hK : (Dec.ints .u8 64).K W p cs.toList) (hG : ∀ x ∈ p, (Lit.int .u8 x).wf = true) (b : Bool) : Calls Try.prog 8 #[.agg cs, .bool b] W (Holds W) := by
  obtain ⟨rfl, hl⟩ := page_cells hK
  have HP := Aside0.mk (Bytes.of_wf hG)
  have HW := Aside0.mk (Keeps.refl W)
  clear hK hG
  go_enter Try.func8, Try.ntmps8
  go_wp2_with ((with_reducible refine gate_dst (N := 2) rfl ?_); refine box28 rfl (.tmp 0) rfl p rfl ?_; intro w1 a1 h1 h2 h3; have H1 := Aside0.mk (HW.out.new h3 h2); clear h2 h3)
  refine (RecWalks.awake_calls _).mono ?_
  rintro e w2 ⟨rfl, hb⟩
  have H2 := Aside0.mk (H1.out.step hb)
  clear hb H1
  go_upto_if 11 with (fail)
  go_cut [] from 12 to 13 (fun wc => ∃ q, Aside0 (Bytes q) ∧ q.length = 64 ∧ Aside0 (Keeps W [(a1, 28, encs (Value.int .u8) q)] wc))
  case first =>
    cases b
    · go_wp2_with fail
      go_meet
      case rel => exact ⟨p, HP, hl, H2⟩
    · go_wp2_with ((with_reducible refine gate_dst (N := 12) rfl ?_); refine load28 rfl (.tmp 2) rfl a1 rfl H2.out.head hl ?_)
      refine (sealed_calls _ p HP.out hl).mono ?_
      rintro e w3 ⟨rfl, hb⟩
      have H3 := Aside0.mk (H2.out.step hb)
      have hsl : (sealedL p).length = 64 := by rw [sealedL_length, hl]
      have hsb := sealedL_bytes HP.out
      obtain ⟨q, hq⟩ : ∃ q, q = sealedL p := ⟨_, rfl⟩
      rw [← hq] at hsl hsb
      rw [← hq]
      clear hb hq H2
      go_wp2_with ((with_reducible refine gate_store (t := 28) (p := 2) rfl ?_); refine store28 rfl rfl (.tmp 2) (.tmp 13) rfl a1 rfl q rfl hsl H3.out.head hl ?_; intro w4 h6 h7 h8; have H4 := Aside0.mk (H3.out.put h7 h1 (by simp) h6); clear h6 h7)
      go_meet
      case rel => exact ⟨q, ⟨hsb⟩, hsl, H4⟩
  case rest =>
    obtain ⟨q, HQ, hql, H3⟩ := hcut
    obtain ⟨hwl, hll⟩ := recRead_wf HQ.out hql
    obtain ⟨L, hL⟩ : ∃ L, L = (recRead q).1 := ⟨_, rfl⟩
    obtain ⟨n, hn⟩ : ∃ n, n = (recRead q).2 := ⟨_, rfl⟩
    have HL := Aside0.mk hL
    have HN := Aside0.mk hn
    rw [← hL] at hwl hll
    have HE := Aside0.mk (eq43 hll hll hwl hwl (b := true) (by simp))
    clear hL hn HP hwl
    go_wp2_with ((with_reducible refine gate_dst (N := 15) rfl ?_); refine load28 rfl (.tmp 2) rfl a1 rfl H3.out.head hql ?_)
    refine (RecWalks.read_calls _ q HQ.out hql).mono ?_
    rintro e w6 ⟨rfl, hb⟩
    rw [← HL.out, ← HN.out]
    have H4 := Aside0.mk (H3.out.step hb)
    clear hb H3
    go_wp2_with (first | ((with_reducible refine gate_dst (N := 5) rfl ?_); refine alloc43 rfl rfl ?_; intro w7 a2 h7 h8 h9; have H5 := Aside0.mk (H4.out.new h9 h8); have hb2 : W.heap.size ≤ a2 := Nat.le_trans H4.out.size h7; have hn2 : a1 ≠ a2 := (by have := H4.out.head.lt; omega); clear h8 h9) | ((with_reducible refine gate_store (t := 43) (p := 5) rfl ?_); refine store43 rfl rfl (.tmp 5) (.tmp 17) rfl a2 rfl L rfl hll H5.out.head rfl ?_; intro w8 h10 h11 h12; have H6 := Aside0.mk (H5.out.put h11 hb2 (by simp; omega) h10); clear h10 h11) | ((with_reducible refine gate_dst (N := 20) rfl ?_); refine load28 rfl (.tmp 2) rfl a1 rfl H6.out.tail.head hql ?_))
    refine (RecWalks.refread_calls _ q HQ.out hql).mono ?_
    rintro e w9 ⟨rfl, hb⟩
    rw [← HL.out, ← HN.out]
    have H7 := Aside0.mk (H6.out.step hb)
    clear hb H6 H5 H4
    go_wp2_with (first | ((with_reducible refine gate_dst (N := 7) rfl ?_); refine alloc43 rfl rfl ?_; intro w10 a3 h7 h8 h9; have H8 := Aside0.mk (H7.out.new h9 h8); have hb3 : W.heap.size ≤ a3 := Nat.le_trans H7.out.size h7; have hn3 : a1 ≠ a3 := (by have := H7.out.tail.head.lt; omega); have hn4 : a2 ≠ a3 := (by have := H7.out.head.lt; omega); clear h8 h9) | ((with_reducible refine gate_store (t := 43) (p := 7) rfl ?_); refine store43 rfl rfl (.tmp 7) (.tmp 22) rfl a3 rfl L rfl hll H8.out.head rfl ?_; intro w11 h10 h11 h12; have H9 := Aside0.mk (H8.out.put h11 hb3 (by simp; omega) h10); clear h10 h11) | ((with_reducible refine gate_dst (N := 24) rfl ?_); refine load43 (r := L) rfl (.tmp 5) rfl a2 rfl hll H9.out.tail.head ?_) | ((with_reducible refine gate_dst (N := 25) rfl ?_); refine load43 (r := L) rfl (.tmp 7) rfl a3 rfl hll H9.out.head ?_) | ((with_reducible refine gate_dst (N := 26) rfl ?_); refine wpl_eql rfl 43 43 (.tmp 24) (.tmp 25) rfl (recC L) (recC L) rfl rfl true HE.out eqg43 rfl ?_))
    go_ret
    exact ⟨by simp, H9.out.below⟩
set_option maxHeartbeats 4000000 in
theorem only_walk (W : World) (p : List Int) (cs : Array Value) (hK : (Dec.ints .u8 64).K W p cs.toList) (hG : ∀ x ∈ p, (Lit.int .u8 x).wf = true) (b : Bool) : Calls Try.prog 11 #[.agg cs, .bool b] W (Holds W) := by
  obtain ⟨rfl, hl⟩ := page_cells hK
  have HP := Aside0.mk (Bytes.of_wf hG)
  have HW := Aside0.mk (Keeps.refl W)
  clear hK hG
  go_enter Try.func11, Try.ntmps11
  go_wp2_with ((with_reducible refine gate_dst (N := 2) rfl ?_); refine box28 rfl (.tmp 0) rfl p rfl ?_; intro w1 a1 h1 h2 h3; have H1 := Aside0.mk (HW.out.new h3 h2); clear h2 h3)
  refine (RecWalks.awake_calls _).mono ?_
  rintro e w2 ⟨rfl, hb⟩
  have H2 := Aside0.mk (H1.out.step hb)
  clear hb H1
  go_upto_if 9 with (fail)
  go_cut [] from 10 to 11 (fun wc => ∃ q, Aside0 (Bytes q) ∧ q.length = 64 ∧ Aside0 (Keeps W [(a1, 28, encs (Value.int .u8) q)] wc))
  case first =>
    cases b
    · go_wp2_with fail
      go_meet
      case rel => exact ⟨p, HP, hl, H2⟩
    · go_wp2_with ((with_reducible refine gate_dst (N := 10) rfl ?_); refine load28 rfl (.tmp 2) rfl a1 rfl H2.out.head hl ?_)
      refine (sealed_calls _ p HP.out hl).mono ?_
      rintro e w3 ⟨rfl, hb⟩
      have H3 := Aside0.mk (H2.out.step hb)
      have hsl : (sealedL p).length = 64 := by rw [sealedL_length, hl]
      have hsb := sealedL_bytes HP.out
      obtain ⟨q, hq⟩ : ∃ q, q = sealedL p := ⟨_, rfl⟩
      rw [← hq] at hsl hsb
      rw [← hq]
      clear hb hq H2
      go_wp2_with ((with_reducible refine gate_store (t := 28) (p := 2) rfl ?_); refine store28 rfl rfl (.tmp 2) (.tmp 11) rfl a1 rfl q rfl hsl H3.out.head hl ?_; intro w4 h6 h7 h8; have H4 := Aside0.mk (H3.out.put h7 h1 (by simp) h6); clear h6 h7)
      go_meet
      case rel => exact ⟨q, ⟨hsb⟩, hsl, H4⟩
  case rest =>
    obtain ⟨q, HQ, hql, H3⟩ := hcut
    obtain ⟨hwl, hll⟩ := recRead_wf HQ.out hql
    have hcd := recRead_codes q
    have hrk := @recRead_ok q
    obtain ⟨L, hL⟩ : ∃ L, L = (recRead q).1 := ⟨_, rfl⟩
    obtain ⟨n, hn⟩ : ∃ n, n = (recRead q).2 := ⟨_, rfl⟩
    have HL := Aside0.mk hL
    have HN := Aside0.mk hn
    rw [← hL] at hwl hll hrk
    rw [← hn] at hcd hrk
    have HRK := Aside0.mk hrk
    have hdb := hwl.data
    clear hL hn HP hwl hrk
    go_wp2_with ((with_reducible refine gate_dst (N := 13) rfl ?_); refine load28 rfl (.tmp 2) rfl a1 rfl H3.out.head hql ?_)
    refine (RecWalks.read_calls _ q HQ.out hql).mono ?_
    rintro e w6 ⟨rfl, hb⟩
    rw [← HL.out, ← HN.out]
    have H4 := Aside0.mk (H3.out.step hb)
    clear hb H3
    go_upto_region 6 with (first | ((with_reducible refine gate_dst (N := 5) rfl ?_); refine alloc43 rfl rfl ?_; intro w7 a2 h7 h8 h9; have H5 := Aside0.mk (H4.out.new h9 h8); have hb2 : W.heap.size ≤ a2 := Nat.le_trans H4.out.size h7; have hn2 : a1 ≠ a2 := (by have := H4.out.head.lt; omega); clear h8 h9) | ((with_reducible refine gate_store (t := 43) (p := 5) rfl ?_); refine store43 rfl rfl (.tmp 5) (.tmp 15) rfl a2 rfl L rfl hll H5.out.head rfl ?_; intro w8 h10 h11 h12; have H6 := Aside0.mk (H5.out.put h11 hb2 (by simp; omega) h10); clear h10 h11))
    by_cases hn0 : n = 0
    · subst hn0
      obtain ⟨hok, hlay⟩ := HRK.out rfl
      have HE := Aside0.mk (eq28 (recLay_length L hll) hql (recLay_bytes L hdb) HQ.out)
      rw [decide_eq_true hlay] at HE
      have HOK := Aside0.mk hok
      clear hok hlay hcd
      refine wp_region_held_drew (S := (fun w' => Keeps W [(a2, 43, recC L), (a1, 28, encs (Value.int .u8) q)] w')) (by kernel_rfl) (by exact H6.out.drew) (fun hHeld => ?_)
      refine wpAnyH_tk (i := 0) (v := ?vz1) 17 rfl rfl (by kernel_rfl) (by kernel_rfl) (by kernel_rfl) (fun _ _ _ h => h) (Or.inl ⟨by rfl, ?yz1⟩) hHeld ?rz1
      case yz1 => (intro w hSw; go_simp; try with_reducible rfl)
      (try simp only [Act.put, List.setIfInBounds_toArray, List.set_cons_zero, List.set_cons_succ])
      refine wpAnyH_tk (i := 1) (v := ?vz2) 18 rfl rfl (by kernel_rfl) (by kernel_rfl) (by kernel_rfl) (fun _ _ _ h => h) (Or.inl ⟨by rfl, ?yz2⟩) hHeld ?rz2
      case yz2 => (intro w hSw; go_simp; try with_reducible rfl)
      (try simp only [Act.put, List.setIfInBounds_toArray, List.set_cons_zero, List.set_cons_succ])
      refine wpAnyH_tk (i := 2) (v := ?vz3) 19 rfl rfl (by kernel_rfl) (by kernel_rfl) (by kernel_rfl) (fun _ _ _ h => h) (Or.inl ⟨by rfl, ?yz3⟩) hHeld ?rz3
      case yz3 => (intro w hSw; go_simp; try with_reducible rfl)
      (try simp only [Act.put, List.setIfInBounds_toArray, List.set_cons_zero, List.set_cons_succ])
      refine wpAnyH_tk (i := 3) (v := _) 20 rfl rfl (by kernel_rfl) (by kernel_rfl) (by kernel_rfl) (fun _ _ _ h => h) (yields_load (by rfl) 43 (.tmp 5) rfl a2 rfl (fun _ h => h.head) Try.underlying43 rfl (size43' L hll)) hHeld ?_
      (try simp only [Act.put, List.setIfInBounds_toArray, List.set_cons_zero, List.set_cons_succ])
      refine wpAnyH_one (i := 4) (by kernel_rfl) rfl (fun K hK => ?_)
      go_simp
      go_wp2_with ((go_at_call 27; refine (RecWalks.right_calls _ L hll hdb).mono ?_; rintro e wx ⟨rfl, hb⟩; rw [HOK.out]; have hHX := hHeld.step hb))
      refine hK.out _ _ (by exact hHX) (fun hHeld => ?_)
      clear hK K
      refine wpAnyH_tk (i := 5) (v := ?vz4) 22 rfl rfl (by kernel_rfl) (by kernel_rfl) (by kernel_rfl) (fun _ _ _ h => h) (Or.inl ⟨by rfl, ?yz4⟩) hHeld ?rz4
      case yz4 => (intro w hSw; go_simp; try with_reducible rfl)
      (try simp only [Act.put, List.setIfInBounds_toArray, List.set_cons_zero, List.set_cons_succ])
      refine wpAnyH_tk (i := 6) (v := _) 23 rfl rfl (by kernel_rfl) (by kernel_rfl) (by kernel_rfl) (fun _ _ _ h => h) (yields_load (by rfl) 43 (.tmp 5) rfl a2 rfl (fun _ h => h.head) Try.underlying43 rfl (size43' L hll)) hHeld ?_
      (try simp only [Act.put, List.setIfInBounds_toArray, List.set_cons_zero, List.set_cons_succ])
      refine wpAnyH_tk (i := 8) (v := _) 25 rfl rfl (by kernel_rfl) (by kernel_rfl) (by kernel_rfl) (fun _ _ _ h => h) (yields_load (by rfl) 28 (.tmp 2) rfl a1 rfl (fun _ h => h.tail.head) Try.underlying28 rfl (size28' hql)) hHeld ?_
      (try simp only [Act.put, List.setIfInBounds_toArray, List.set_cons_zero, List.set_cons_succ])
      refine wpAnyH_one (i := 7) (by kernel_rfl) rfl (fun K hK => ?_)
      go_simp
      go_wp2_with ((go_at_call 29; refine (RecWalks.lay_calls _ L hll hdb HOK.out).mono ?_; rintro e wx ⟨rfl, hb⟩; have hHX := hHeld.step hb))
      refine hK.out _ _ (by exact hHX) (fun hHeld => ?_)
      clear hK K
      refine wpAnyH_tk (i := 9) (v := _) 26 rfl rfl (by kernel_rfl) (by kernel_rfl) (by kernel_rfl) (fun _ _ _ h => h) (yields_eql (by rfl) 28 28 (.tmp 24) (.tmp 25) rfl (encs (Value.int .u8) (recLay L)) (encs (Value.int .u8) q) rfl rfl true HE.out eqg28 rfl) hHeld ?_
      (try simp only [Act.put, List.setIfInBounds_toArray, List.set_cons_zero, List.set_cons_succ])
      refine wpAnyH_tk (i := 10) (v := ?vz5) 27 rfl rfl (by kernel_rfl) (by kernel_rfl) (by kernel_rfl) (fun _ _ _ h => h) (Or.inl ⟨by rfl, ?yz5⟩) hHeld ?rz5
      case yz5 => (intro w hSw; go_simp; try with_reducible rfl)
      (try simp only [Act.put, List.setIfInBounds_toArray, List.set_cons_zero, List.set_cons_succ])
      refine wpAnyH_tk (i := 11) (v := ?vz6) 28 rfl rfl (by kernel_rfl) (by kernel_rfl) (by kernel_rfl) (fun _ _ _ h => h) (Or.inl ⟨by rfl, ?yz6⟩) hHeld ?rz6
      case yz6 => (intro w hSw; go_simp; try with_reducible rfl)
      (try simp only [Act.put, List.setIfInBounds_toArray, List.set_cons_zero, List.set_cons_succ])
      refine wpAnyH_tk (i := 12) (v := ?vz7) 4 rfl rfl (by kernel_rfl) (by kernel_rfl) (by kernel_rfl) (fun _ _ _ h => h) (Or.inl ⟨by rfl, ?yz7⟩) hHeld ?rz7
      case yz7 => (intro w hSw; go_simp; try with_reducible rfl)
      (try simp only [Act.put, List.setIfInBounds_toArray, List.set_cons_zero, List.set_cons_succ])
      refine wpAnyH_done (by kernel_rfl) ?_ _
      skip
      go_wp2_with fail
      go_ret
      exact ⟨by simp, hHX.below⟩
    · have hb0 : (n != 0) = true := by simp; exact hn0
      clear hcd hn0
      refine wp_region_held_drew (S := (fun w' => Keeps W [(a2, 43, recC L), (a1, 28, encs (Value.int .u8) q)] w')) (by kernel_rfl) (by exact H6.out.drew) (fun hHeld => ?_)
      refine wpAnyH_tk (i := 0) (v := ?vz8) 17 rfl rfl (by kernel_rfl) (by kernel_rfl) (by kernel_rfl) (fun _ _ _ h => h) (Or.inl ⟨by rfl, ?yz8⟩) hHeld ?rz8
      case yz8 => (intro w hSw; go_simp; try with_reducible rfl)
      (try simp only [Act.put, List.setIfInBounds_toArray, List.set_cons_zero, List.set_cons_succ])
      refine wpAnyH_tk (i := 1) (v := ?vz9) 18 rfl rfl (by kernel_rfl) (by kernel_rfl) (by kernel_rfl) (fun _ _ _ h => h) (Or.inl ⟨by rfl, ?yz9⟩) hHeld ?rz9
      case yz9 => (intro w hSw; go_simp; try with_reducible rfl)
      (try simp only [Act.put, List.setIfInBounds_toArray, List.set_cons_zero, List.set_cons_succ])
      refine wpAnyH_tk (i := 2) (v := ?vz10) 19 rfl rfl (by kernel_rfl) (by kernel_rfl) (by kernel_rfl) (fun _ _ _ h => h) (Or.inl ⟨by rfl, ?yz10⟩) hHeld ?rz10
      case yz10 => (intro w hSw; go_simp; try with_reducible rfl)
      (try simp only [Act.put, List.setIfInBounds_toArray, List.set_cons_zero, List.set_cons_succ])
      refine wpAnyH_tk (i := 3) (v := undef) 20 rfl rfl (by kernel_rfl) (by kernel_rfl) (by kernel_rfl) (fun _ _ _ h => h) (yields_not (by rfl)) hHeld ?_
      (try simp only [Act.put, List.setIfInBounds_toArray, List.set_cons_zero, List.set_cons_succ])
      refine wpAnyH_tk (i := 4) (v := undef) 21 rfl rfl (by kernel_rfl) (by kernel_rfl) (by kernel_rfl) (fun _ _ _ h => h) (yields_not (by rfl)) hHeld ?_
      (try simp only [Act.put, List.setIfInBounds_toArray, List.set_cons_zero, List.set_cons_succ])
      refine wpAnyH_tk (i := 5) (v := undef) 22 rfl rfl (by kernel_rfl) (by kernel_rfl) (by kernel_rfl) (fun _ _ _ h => h) (yields_not (by rfl)) hHeld ?_
      (try simp only [Act.put, List.setIfInBounds_toArray, List.set_cons_zero, List.set_cons_succ])
      refine wpAnyH_tk (i := 6) (v := undef) 23 rfl rfl (by kernel_rfl) (by kernel_rfl) (by kernel_rfl) (fun _ _ _ h => h) (yields_not (by rfl)) hHeld ?_
      (try simp only [Act.put, List.setIfInBounds_toArray, List.set_cons_zero, List.set_cons_succ])
      refine wpAnyH_tk (i := 7) (v := undef) 24 rfl rfl (by kernel_rfl) (by kernel_rfl) (by kernel_rfl) (fun _ _ _ h => h) (yields_not (by rfl)) hHeld ?_
      (try simp only [Act.put, List.setIfInBounds_toArray, List.set_cons_zero, List.set_cons_succ])
      refine wpAnyH_tk (i := 8) (v := undef) 25 rfl rfl (by kernel_rfl) (by kernel_rfl) (by kernel_rfl) (fun _ _ _ h => h) (yields_not (by rfl)) hHeld ?_
      (try simp only [Act.put, List.setIfInBounds_toArray, List.set_cons_zero, List.set_cons_succ])
      refine wpAnyH_tk (i := 9) (v := undef) 26 rfl rfl (by kernel_rfl) (by kernel_rfl) (by kernel_rfl) (fun _ _ _ h => h) (yields_not (by rfl)) hHeld ?_
      (try simp only [Act.put, List.setIfInBounds_toArray, List.set_cons_zero, List.set_cons_succ])
      refine wpAnyH_tk (i := 10) (v := undef) 27 rfl rfl (by kernel_rfl) (by kernel_rfl) (by kernel_rfl) (fun _ _ _ h => h) (yields_not (by rfl)) hHeld ?_
      (try simp only [Act.put, List.setIfInBounds_toArray, List.set_cons_zero, List.set_cons_succ])
      refine wpAnyH_tk (i := 11) (v := ?vz11) 28 rfl rfl (by kernel_rfl) (by kernel_rfl) (by kernel_rfl) (fun _ _ _ h => h) (Or.inl ⟨by rfl, ?yz11⟩) hHeld ?rz11
      case yz11 => (intro w hSw; go_simp; try with_reducible rfl)
      (try simp only [Act.put, List.setIfInBounds_toArray, List.set_cons_zero, List.set_cons_succ])
      refine wpAnyH_tk (i := 12) (v := ?vz12) 4 rfl rfl (by kernel_rfl) (by kernel_rfl) (by kernel_rfl) (fun _ _ _ h => h) (Or.inl ⟨by rfl, ?yz12⟩) hHeld ?rz12
      case yz12 => (intro w hSw; go_simp; try with_reducible rfl)
      (try simp only [Act.put, List.setIfInBounds_toArray, List.set_cons_zero, List.set_cons_succ])
      refine wpAnyH_done (by kernel_rfl) ?_ _
      skip
      go_wp2_with fail
      go_ret
      exact ⟨by simp, hHeld.below⟩
end Go.Proofs.Ytmkkkenpjealdaa.RecLaws
