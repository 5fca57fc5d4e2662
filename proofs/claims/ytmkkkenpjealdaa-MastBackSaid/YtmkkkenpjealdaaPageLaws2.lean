/- The walks of layer 7's statements: PageReads. -/
import Derived.Test.YtmkkkenpjealdaaPageLaws
namespace Go.Proofs.Ytmkkkenpjealdaa.PageLaws
set_option linter.unusedSimpArgs false
open Go.RowKit Go.Proofs.YtmkkkenpjealdaaW.PrintWords Go.Proofs.YtmkkkenpjealdaaW.PrintLast Go.Proofs.YtmkkkenpjealdaaW.PrintMore PlainWord CrcPlain PlainSec CrcMem CrcWalks CrcRef Arr SecWord SecMem SecRef LeafWalks

theorem dec28 : Dec.Dec Try.prog 28 (Dec.ints .u8 64) (fun l => ∀ x ∈ l, (Lit.int .u8 x).wf = true) := Dec.dec_ints Try.underlying28 Try.underlying5 (by kernel_rfl) (by kernel_rfl)
theorem page_cells {w : World} {p : List Int} {cs : Array Value} (h : (Dec.ints .u8 64).K w p cs.toList) : cs = (encs (Value.int .u8) p).toArray ∧ p.length = 64 := by
  obtain ⟨h1, h2⟩ := h
  exact ⟨by cases cs; simp at h2; rw [h2]; rfl, h1⟩
/-- A sector of which the bytes from 60 up to k are another's. -/
def mendL (p s : List Int) (k : Nat) : List Int := (List.range p.length).map fun j => if 60 ≤ j ∧ j < k then s.getD j 0 else p.getD j 0
theorem mendL_length (p s : List Int) (k : Nat) : (mendL p s k).length = p.length := by simp [mendL]
theorem mendL_getD (p s : List Int) (k j : Nat) (h : j < p.length) : (mendL p s k).getD j 0 = if 60 ≤ j ∧ j < k then s.getD j 0 else p.getD j 0 := getD_range _ _ _ h
theorem mendL_60 (p s : List Int) : mendL p s 60 = p := by
  apply ext_getD (mendL_length _ _ _)
  intro j hj
  rw [mendL_length] at hj
  rw [mendL_getD _ _ _ _ hj, if_neg (by omega)]
theorem mendL_succ (p s : List Int) (k : Nat) (h0 : 60 ≤ k) (h : k < p.length) : (mendL p s k).set k (s.getD k 0) = mendL p s (k + 1) := by
  apply ext_getD (by simp [mendL_length])
  intro j hj
  rw [List.length_set, mendL_length] at hj
  rw [getD_set _ _ _ _ (by rw [mendL_length]; exact h), mendL_getD _ _ _ _ hj, mendL_getD _ _ _ _ hj]
  by_cases e : k = j
  · rw [if_pos e, if_pos (by omega), e]
  · rw [if_neg e]
    by_cases h1 : 60 ≤ j ∧ j < k
    · rw [if_pos h1, if_pos (by omega)]
    · rw [if_neg h1, if_neg (by omega)]
theorem mendL_bytes {p s : List Int} (hp : Bytes p) (hs : Bytes s) (k : Nat) : Bytes (mendL p s k) := by
  intro y hy
  simp only [mendL, List.mem_map] at hy
  obtain ⟨j, _, rfl⟩ := hy
  split
  · exact hs.getD _
  · exact hp.getD _
set_option maxHeartbeats 4000000 in
theorem reads_walk (W : World) (p : List Int) (cs : Array Value) (hK : (Dec.ints .u8 64).K W p cs.toList) (hG : ∀ x ∈ p, (Lit.int .u8 x).wf = true) (b : Bool) : Calls Try.prog 4 #[.agg cs, .bool b] W (Holds W) := by
  obtain ⟨rfl, hl⟩ := page_cells hK
  have HP := Aside0.mk (Bytes.of_wf hG)
  have HW := Aside0.mk (Keeps.refl W)
  clear hK hG
  go_enter Try.func4, Try.ntmps4
  go_wp2_with ((with_reducible refine gate_dst (N := 2) rfl ?_); refine box28 rfl (.tmp 0) rfl p rfl ?_; intro w1 a1 h1 h2 h3; have H1 := Aside0.mk (HW.out.new h3 h2); clear h2 h3)
  refine (LeafWalks.awake_calls _).mono ?_
  rintro e w2 ⟨rfl, hb⟩
  have H2 := Aside0.mk (H1.out.step hb)
  clear hb H1
  go_upto_if 13 with (fail)
  go_cut [] from 5 to 27 (fun wc => ∃ q, Aside0 (Bytes q) ∧ q.length = 64 ∧ Aside0 (Keeps W [(a1, 28, encs (Value.int .u8) q)] wc))
  case first =>
    cases b
    · go_wp2_with fail
      go_meet
      case rel => exact ⟨p, HP, hl, H2⟩
    · have HB0 := Aside0.mk (Below.refl w2.heap.size w2)
      have ha1 := H2.out.head.lt
      have h60 : (p.take 60).length = 60 := by rw [List.length_take]; omega
      go_wp2_with (first | ((with_reducible refine gate_dst (N := 14) rfl ?_); refine lit0_u8 rfl 14 rfl rfl HB0.out (Nat.le_refl _) ?_; intro v3 w3 h6 h7 h8; have H6 := Aside0.mk h6; have H7 := Aside0.mk h7; have HC := Aside0.mk (BB.reads (H2.out.step h7).head 60 (by omega) (by omega)); clear h6 h7) | (at_builtin; refine apps_u8 rfl (.tmp 14) (.tmp 15) rfl v3 [] (some ⟨a1, 0, none⟩) (p.take 60) 64 rfl (by rw [h60]; rfl) H6.out (by rw [h60]; exact HC.out) H7.out h8 (by rw [h60]; decide) ?_; intro v4 w4 h9 h10 h11; rw [List.nil_append] at h9; obtain ⟨A4, c4, e4, hc4, hr4⟩ := RB.reads h9; rw [h60] at e4 hr4; subst e4; have HR4 := Aside0.mk hr4; have H10 := Aside0.mk h10; clear h9 h10 hr4))
      clear H6 H7 HC HB0
      refine (refseal_calls A4 60 c4 (p.take 60) _ HR4.out (bytes_take HP.out 60) (by rw [h60]; decide)).mono ?_
      rintro e w5 ⟨v5, rfl, h5r, h5b⟩
      have hsl : (sealL (p.take 60)).length = 64 := by rw [seal_length, h60]
      have hsb : Bytes (sealL (p.take 60)) := seal_bytes (bytes_take HP.out 60)
      obtain ⟨A5, c5, rfl⟩ := Kd.R_slice h5r
      rw [hsl] at h5r
      rw [hsl]
      have H5 := Aside0.mk ((H2.out.step H10.out).step h5b)
      have H5R := Aside0.mk (Kd.R_mono (Kd.R_bound h5r) (fun k h => show k ≠ a1 by have := h.2.1; have := H10.out.size; omega) : Kd.R (Kd.int .u8) 5 w5 w4.heap.size (fun k => k ≠ a1) (.slice A5 64 c5) (sealL (p.take 60)))
      clear h5r h5b HR4 H10 H2
      obtain ⟨s, hs⟩ : ∃ s, s = sealL (p.take 60) := ⟨_, rfl⟩
      rw [← hs] at H5R hsl hsb
      clear hs
      go_wp2_with fail
      go_loopw [6] (fun i wr => ∃ k : Nat, 60 ≤ k ∧ k ≤ 64 ∧ i = .int .i64 k ∧ Aside0 (Keeps W [(a1, 28, encs (Value.int .u8) (mendL p s k))] wr) ∧ Aside0 (Kd.R (Kd.int .u8) 5 wr w4.heap.size (fun k => k ≠ a1) (.slice A5 64 c5) s)) (fun i _ => 64 - (intOf i).toNat)
      case atStart => exact ⟨60, by omega, by omega, rfl, ⟨by rw [mendL_60]; exact H5.out⟩, H5R⟩
      case round =>
        clear H5 H5R
        obtain ⟨k, hk0, hk, rfl, HK, HR⟩ := hrel
        by_cases hlt : k < 64
        · have HS := Aside0.mk (Kd.R_reads' HR.out).2.2
          rw [hsl] at HS
          obtain ⟨ad, rfl, hx⟩ := Kd.at_int HS.out (k : Int) (by omega) (by omega)
          rw [Int.toNat_natCast] at hx
          have hc := Blk.encAt HK.out.head (0 : Int) k (by rw [mendL_length]; omega)
          have hf := HK.out.head.frozen k
          obtain ⟨y, hy⟩ : ∃ y, y = rd s (k : Int) := ⟨_, rfl⟩
          rw [← hy] at hx
          have HY := Aside0.mk (hy.trans (by rw [rd_nat, Int.toNat_natCast]) : y = s.getD k 0)
          clear hy
          go_wp2_with fail
          go_roundw
          case rel => exact ⟨k + 1, by omega, by omega, by go_num, ⟨HK.out.put (grown_set _ a1 k _) h1 (by simp) (by have := Blk.encSet HK.out.head k y; rwa [HY.out, mendL_succ p s k hk0 (by omega), ← HY.out] at this)⟩, ⟨Kd.R_far HR.out (fun _ h => h) _⟩⟩
          case measure => simp [intOf]; omega
        · obtain rfl : k = 64 := by omega
          go_wp2_with fail
          go_meet
          case rel => exact ⟨mendL p s 64, ⟨mendL_bytes HP.out hsb 64⟩, by rw [mendL_length]; exact hl, HK⟩
  case rest =>
    obtain ⟨q, HQ, hql, H3⟩ := hcut
    obtain ⟨hwl, hll⟩ := leafRead_wf q
    obtain ⟨L, hL⟩ : ∃ L, L = (leafRead q).1 := ⟨_, rfl⟩
    obtain ⟨n, hn⟩ : ∃ n, n = (leafRead q).2 := ⟨_, rfl⟩
    have HL := Aside0.mk hL
    have HN := Aside0.mk hn
    rw [← hL] at hwl hll
    have HE := Aside0.mk (eq24 hll hll hwl hwl (b := true) (by simp))
    clear hL hn HP
    go_wp2_with ((with_reducible refine gate_dst (N := 29) rfl ?_); refine load28 rfl (.tmp 2) rfl a1 rfl H3.out.head hql ?_)
    refine (read_calls _ q HQ.out hql).mono ?_
    rintro e w6 ⟨rfl, hb⟩
    rw [← HL.out, ← HN.out]
    have H4 := Aside0.mk (H3.out.step hb)
    clear hb H3
    go_wp2_with (first | ((with_reducible refine gate_dst (N := 7) rfl ?_); refine alloc24 rfl rfl ?_; intro w7 a2 h7 h8 h9; have H5 := Aside0.mk (H4.out.new h9 h8); have hb2 : W.heap.size ≤ a2 := Nat.le_trans H4.out.size h7; have hn2 : a1 ≠ a2 := (by have := H4.out.head.lt; omega); clear h8 h9) | ((with_reducible refine gate_store (t := 24) (p := 7) rfl ?_); refine store24 rfl rfl (.tmp 7) (.tmp 31) rfl a2 rfl L rfl hll H5.out.head rfl ?_; intro w8 h10 h11 h12; have H6 := Aside0.mk (H5.out.put h11 hb2 (by simp; omega) h10); clear h10 h11) | ((with_reducible refine gate_dst (N := 34) rfl ?_); refine load28 rfl (.tmp 2) rfl a1 rfl H6.out.tail.head hql ?_))
    refine (refread_calls _ q HQ.out hql).mono ?_
    rintro e w9 ⟨rfl, hb⟩
    rw [← HL.out, ← HN.out]
    have H7 := Aside0.mk (H6.out.step hb)
    clear hb H6 H5 H4
    go_wp2_with (first | ((with_reducible refine gate_dst (N := 9) rfl ?_); refine alloc24 rfl rfl ?_; intro w10 a3 h7 h8 h9; have H8 := Aside0.mk (H7.out.new h9 h8); have hb3 : W.heap.size ≤ a3 := Nat.le_trans H7.out.size h7; have hn3 : a1 ≠ a3 := (by have := H7.out.tail.head.lt; omega); have hn4 : a2 ≠ a3 := (by have := H7.out.head.lt; omega); clear h8 h9) | ((with_reducible refine gate_store (t := 24) (p := 9) rfl ?_); refine store24 rfl rfl (.tmp 9) (.tmp 36) rfl a3 rfl L rfl hll H8.out.head rfl ?_; intro w11 h10 h11 h12; have H9 := Aside0.mk (H8.out.put h11 hb3 (by simp; omega) h10); clear h10 h11) | ((with_reducible refine gate_dst (N := 38) rfl ?_); refine load24 (L := L) rfl (.tmp 7) rfl a2 rfl hll H9.out.tail.head ?_) | ((with_reducible refine gate_dst (N := 39) rfl ?_); refine load24 (L := L) rfl (.tmp 9) rfl a3 rfl hll H9.out.head ?_) | ((with_reducible refine gate_dst (N := 40) rfl ?_); refine wpl_eql rfl 24 24 (.tmp 38) (.tmp 39) rfl (leafC L) (leafC L) rfl rfl true HE.out eqg24 rfl ?_))
    go_ret
    exact ⟨by simp, H9.out.below⟩
end Go.Proofs.Ytmkkkenpjealdaa.PageLaws
