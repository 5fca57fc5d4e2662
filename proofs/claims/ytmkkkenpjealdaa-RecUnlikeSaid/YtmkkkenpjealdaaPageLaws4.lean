/- The walks of layer 7's statements: PageOnly. -/
import Derived.Test.YtmkkkenpjealdaaPageLaws3
namespace Go.Proofs.Ytmkkkenpjealdaa.PageLaws
set_option linter.unusedSimpArgs false
open Go.RowKit Go.Proofs.YtmkkkenpjealdaaW.PrintWords Go.Proofs.YtmkkkenpjealdaaW.PrintLast Go.Proofs.YtmkkkenpjealdaaW.PrintMore PlainWord CrcPlain PlainSec CrcMem CrcWalks CrcRef Arr SecWord SecMem SecRef LeafWalks

/-- A leaf with one place turned. -/
def turned (L : Leaf) (k : Nat) : Leaf := ⟨L.gen, L.idx, L.ps.set k (4294967295 - L.ps.getD k 0)⟩
theorem turned_length (L : Leaf) (k : Nat) : (turned L k).ps.length = L.ps.length := by simp [turned]
theorem mem_getD {l : List Int} {k : Nat} (h : k < l.length) : l.getD k 0 ∈ l := by rw [List.getD_eq_getElem?_getD, List.getElem?_eq_getElem h]; exact List.getElem_mem h
theorem turned_ok (L : Leaf) (k : Nat) (h : k < L.ps.length) (hok : leafOk L = true) : leafOk (turned L k) = true := by
  obtain ⟨h1, h2⟩ := of_decide_eq_true hok
  refine decide_eq_true ⟨h1, fun x hx => ?_⟩
  rcases List.mem_or_eq_of_mem_set hx with hx | rfl
  · exact h2 x hx
  · have := h2 _ (mem_getD h); omega
theorem turned_ne (L : Leaf) (k : Nat) (h : k < L.ps.length) : turned L k ≠ L := by
  intro e
  have e2 : (turned L k).ps = L.ps := by rw [e]
  have : (turned L k).ps.getD k 0 = 4294967295 - L.ps.getD k 0 := by
    unfold turned
    rw [getD_set _ _ _ _ h, if_pos rfl]
  rw [e2] at this
  omega
/-- What is read as a leaf is right, and laid so. -/
theorem leafRead_ok {p : List Int} (h : (leafRead p).2 = 0) : leafOk (leafRead p).1 = true ∧ leafLay (leafRead p).1 = p := by
  unfold leafRead at h ⊢
  split
  · rename_i h1
    rw [if_pos h1] at h
    split
    · rename_i h2; exact h2.2
    · rename_i h2; rw [if_neg h2] at h; exact absurd h (by decide)
  · rename_i h1
    rw [if_neg h1] at h
    exact absurd h (by decide)
theorem leafRead_codes (p : List Int) : (leafRead p).2 = 0 ∨ (leafRead p).2 = 7 ∨ (leafRead p).2 = 8 := by
  unfold leafRead
  split
  · split
    · exact Or.inl rfl
    · exact Or.inr (Or.inl rfl)
  · exact Or.inr (Or.inr rfl)
/-- What is left of the walk, the first half being past. -/
abbrev OnlyCut (W : World) (a1 a2 : Nat) (p : List Int) (L : Leaf) (wc : World) : Prop := Aside0 (Keeps W [(a2, 24, leafC L), (a1, 28, encs (Value.int .u8) p)] wc)
set_option maxHeartbeats 4000000 in
theorem only_walk (W : World) (p : List Int) (cs : Array Value) (hK : (Dec.ints .u8 64).K W p cs.toList) (hG : ∀ x ∈ p, (Lit.int .u8 x).wf = true) (L : Leaf) (cs' : Array Value) (hK' : kLeaf.K W L cs'.toList) (hG' : gLeaf L) (t : Int) (ht : (Lit.int .u8 t).wf = true) : Calls Try.prog 6 #[.agg cs, .agg cs', .int .u8 t] W (Holds W) := by
  obtain ⟨rfl, hl⟩ := page_cells hK
  obtain ⟨rfl, hm⟩ := leaf_cells hK'
  have HP := Aside0.mk (Bytes.of_wf hG)
  have hw := leaf_wf hG'
  have HW := Aside0.mk (Keeps.refl W)
  have ht2 : 0 ≤ t ∧ t ≤ 255 := by
    have := Bytes.of_wf (l := [t]) (by simpa using ht)
    exact this t (by simp)
  clear hK hG hK' hG' ht
  go_enter Try.func6, Try.ntmps6
  go_wp2_with (first | ((with_reducible refine gate_dst (N := 3) rfl ?_); refine box28 rfl (.tmp 0) rfl p rfl ?_; intro w1 a1 h1 h2 h3; have H1 := Aside0.mk (HW.out.new h3 h2); clear h2 h3) | ((with_reducible refine gate_dst (N := 4) rfl ?_); refine box24 rfl (.tmp 1) rfl L rfl ?_; intro w2 a2 h4 h5 h6; have H2 := Aside0.mk (H1.out.new h6 h5); have hn := (show a1 ≠ a2 by have := H1.out.head.lt; omega); have hb2 : W.heap.size ≤ a2 := Nat.le_trans H1.out.size h4; clear h5 h6))
  refine (LeafWalks.awake_calls _).mono ?_
  rintro e w3 ⟨rfl, hb⟩
  have H3 := Aside0.mk (H2.out.step hb)
  clear hb H2 H1
  obtain ⟨hwl, hll⟩ := leafRead_wf p
  have hcd := leafRead_codes p
  have hrk := @leafRead_ok p
  obtain ⟨X, hX⟩ : ∃ X, X = (leafRead p).1 := ⟨_, rfl⟩
  obtain ⟨n, hn0⟩ : ∃ n, n = (leafRead p).2 := ⟨_, rfl⟩
  have HX := Aside0.mk hX
  have HN := Aside0.mk hn0
  rw [← hX] at hwl hll hrk
  rw [← hn0] at hcd hrk
  have HRK := Aside0.mk hrk
  have HWL := Aside0.mk hwl
  clear hX hn0 hrk hwl
  go_wp2_with ((with_reducible refine gate_dst (N := 14) rfl ?_); refine load28 rfl (.tmp 3) rfl a1 rfl H3.out.tail.head hl ?_)
  refine (read_calls _ p HP.out hl).mono ?_
  rintro e w4 ⟨rfl, hb⟩
  rw [← HX.out, ← HN.out]
  have H4 := Aside0.mk (H3.out.step hb)
  clear hb H3
  go_upto_region 4 with (first | ((with_reducible refine gate_dst (N := 7) rfl ?_); refine alloc24 rfl rfl ?_; intro w5 a3 h7 h8 h9; have H5 := Aside0.mk (H4.out.new h9 h8); have hb3 : W.heap.size ≤ a3 := Nat.le_trans H4.out.size h7; have hn3 : a1 ≠ a3 := (by have := H4.out.tail.head.lt; omega); have hn4 : a2 ≠ a3 := (by have := H4.out.head.lt; omega); clear h8 h9) | ((with_reducible refine gate_store (t := 24) (p := 7) rfl ?_); refine store24 rfl rfl (.tmp 7) (.tmp 16) rfl a3 rfl X rfl hll H5.out.head rfl ?_; intro w6 h10 h11 h12; have H6 := Aside0.mk (H5.out.put h11 hb3 (by simp; omega) h10); clear h10 h11))
  go_cut [30] from 18 to 29 (fun v wc => v = .bool false ∧ Aside0 (Keeps W [(a2, 24, leafC L), (a1, 28, encs (Value.int .u8) p)] wc))
  case first =>
    by_cases hn0 : n = 0
    · subst hn0
      obtain ⟨hok, hlay⟩ := HRK.out rfl
      have HE := Aside0.mk (eq28 (leafLay_length X hll) hl (leafLay_bytes X) HP.out)
      rw [decide_eq_true hlay] at HE
      have HOK := Aside0.mk hok
      clear hok hlay hcd
      refine wp_region_held_drew (S := (fun w' => Keeps W [(a3, 24, leafC X), (a2, 24, leafC L), (a1, 28, encs (Value.int .u8) p)] w')) (by kernel_rfl) (by exact H6.out.drew) (fun hHeld => ?_)
      refine wpAnyH_tk (i := 0) (v := ?vz1) 18 rfl rfl (by kernel_rfl) (by kernel_rfl) (by kernel_rfl) (fun _ _ _ h => h) (Or.inl ⟨by rfl, ?yz1⟩) hHeld ?rz1
      case yz1 => (intro w hSw; go_simp; try with_reducible rfl)
      (try simp only [Act.put, List.setIfInBounds_toArray, List.set_cons_zero, List.set_cons_succ])
      refine wpAnyH_tk (i := 1) (v := ?vz2) 19 rfl rfl (by kernel_rfl) (by kernel_rfl) (by kernel_rfl) (fun _ _ _ h => h) (Or.inl ⟨by rfl, ?yz2⟩) hHeld ?rz2
      case yz2 => (intro w hSw; go_simp; try with_reducible rfl)
      (try simp only [Act.put, List.setIfInBounds_toArray, List.set_cons_zero, List.set_cons_succ])
      refine wpAnyH_tk (i := 2) (v := ?vz3) 20 rfl rfl (by kernel_rfl) (by kernel_rfl) (by kernel_rfl) (fun _ _ _ h => h) (Or.inl ⟨by rfl, ?yz3⟩) hHeld ?rz3
      case yz3 => (intro w hSw; go_simp; try with_reducible rfl)
      (try simp only [Act.put, List.setIfInBounds_toArray, List.set_cons_zero, List.set_cons_succ])
      refine wpAnyH_tk (i := 3) (v := _) 21 rfl rfl (by kernel_rfl) (by kernel_rfl) (by kernel_rfl) (fun _ _ _ h => h) (yields_load (by rfl) 24 (.tmp 7) rfl a3 rfl (fun _ h => h.head) Try.underlying24 rfl (size24' X hll)) hHeld ?_
      (try simp only [Act.put, List.setIfInBounds_toArray, List.set_cons_zero, List.set_cons_succ])
      refine wpAnyH_one (i := 4) (by kernel_rfl) rfl (fun K hK => ?_)
      go_simp
      go_wp2_with ((go_at_call 19; refine (LeafWalks.right_calls _ X hll HWL.out.2.2).mono ?_; rintro e wx ⟨rfl, hb⟩; rw [HOK.out]; have hHX := hHeld.step hb))
      refine hK.out _ _ (by exact hHX) (fun hHeld => ?_)
      clear hK K
      refine wpAnyH_tk (i := 5) (v := ?vz4) 23 rfl rfl (by kernel_rfl) (by kernel_rfl) (by kernel_rfl) (fun _ _ _ h => h) (Or.inl ⟨by rfl, ?yz4⟩) hHeld ?rz4
      case yz4 => (intro w hSw; go_simp; try with_reducible rfl)
      (try simp only [Act.put, List.setIfInBounds_toArray, List.set_cons_zero, List.set_cons_succ])
      refine wpAnyH_tk (i := 6) (v := ?vz5) 24 rfl rfl (by kernel_rfl) (by kernel_rfl) (by kernel_rfl) (fun _ _ _ h => h) (Or.inl ⟨by rfl, ?yz5⟩) hHeld ?rz5
      case yz5 => (intro w hSw; go_simp; try with_reducible rfl)
      (try simp only [Act.put, List.setIfInBounds_toArray, List.set_cons_zero, List.set_cons_succ])
      refine wpAnyH_tk (i := 7) (v := _) 25 rfl rfl (by kernel_rfl) (by kernel_rfl) (by kernel_rfl) (fun _ _ _ h => h) (yields_load (by rfl) 24 (.tmp 7) rfl a3 rfl (fun _ h => h.head) Try.underlying24 rfl (size24' X hll)) hHeld ?_
      (try simp only [Act.put, List.setIfInBounds_toArray, List.set_cons_zero, List.set_cons_succ])
      refine wpAnyH_tk (i := 9) (v := _) 27 rfl rfl (by kernel_rfl) (by kernel_rfl) (by kernel_rfl) (fun _ _ _ h => h) (yields_load (by rfl) 28 (.tmp 3) rfl a1 rfl (fun _ h => h.tail.tail.head) Try.underlying28 rfl (size28' hl)) hHeld ?_
      (try simp only [Act.put, List.setIfInBounds_toArray, List.set_cons_zero, List.set_cons_succ])
      refine wpAnyH_one (i := 8) (by kernel_rfl) rfl (fun K hK => ?_)
      go_simp
      go_wp2_with ((go_at_call 21; refine (lay_calls _ X hll HOK.out).mono ?_; rintro e wx ⟨rfl, hb⟩; have hHX := hHeld.step hb))
      refine hK.out _ _ (by exact hHX) (fun hHeld => ?_)
      clear hK K
      refine wpAnyH_tk (i := 10) (v := _) 28 rfl rfl (by kernel_rfl) (by kernel_rfl) (by kernel_rfl) (fun _ _ _ h => h) (yields_neq (by rfl) 28 28 (.tmp 26) (.tmp 27) rfl (encs (Value.int .u8) (leafLay X)) (encs (Value.int .u8) p) rfl rfl true HE.out eqg28 rfl) hHeld ?_
      (try simp only [Act.put, List.setIfInBounds_toArray, List.set_cons_zero, List.set_cons_succ])
      refine wpAnyH_tk (i := 11) (v := ?vz6) 29 rfl rfl (by kernel_rfl) (by kernel_rfl) (by kernel_rfl) (fun _ _ _ h => h) (Or.inl ⟨by rfl, ?yz6⟩) hHeld ?rz6
      case yz6 => (intro w hSw; go_simp; try with_reducible rfl)
      (try simp only [Act.put, List.setIfInBounds_toArray, List.set_cons_zero, List.set_cons_succ])
      refine wpAnyH_tk (i := 12) (v := ?vz7) 30 rfl rfl (by kernel_rfl) (by kernel_rfl) (by kernel_rfl) (fun _ _ _ h => h) (Or.inl ⟨by rfl, ?yz7⟩) hHeld ?rz7
      case yz7 => (intro w hSw; go_simp; try with_reducible rfl)
      (try simp only [Act.put, List.setIfInBounds_toArray, List.set_cons_zero, List.set_cons_succ])
      refine wpAnyH_done (by kernel_rfl) ?_ _
      skip
      go_wp2_with fail
      go_meet
      case rel => exact ⟨by simp, ⟨hHX.tail⟩⟩
    · have hb0 : (n == 0) = false := by simp; exact hn0
      clear hcd hn0
      refine wp_region_held_drew (S := (fun w' => Keeps W [(a3, 24, leafC X), (a2, 24, leafC L), (a1, 28, encs (Value.int .u8) p)] w')) (by kernel_rfl) (by exact H6.out.drew) (fun hHeld => ?_)
      refine wpAnyH_tk (i := 0) (v := ?vz8) 18 rfl rfl (by kernel_rfl) (by kernel_rfl) (by kernel_rfl) (fun _ _ _ h => h) (Or.inl ⟨by rfl, ?yz8⟩) hHeld ?rz8
      case yz8 => (intro w hSw; go_simp; try with_reducible rfl)
      (try simp only [Act.put, List.setIfInBounds_toArray, List.set_cons_zero, List.set_cons_succ])
      refine wpAnyH_tk (i := 1) (v := ?vz9) 19 rfl rfl (by kernel_rfl) (by kernel_rfl) (by kernel_rfl) (fun _ _ _ h => h) (Or.inl ⟨by rfl, ?yz9⟩) hHeld ?rz9
      case yz9 => (intro w hSw; go_simp; try with_reducible rfl)
      (try simp only [Act.put, List.setIfInBounds_toArray, List.set_cons_zero, List.set_cons_succ])
      refine wpAnyH_tk (i := 2) (v := ?vz10) 20 rfl rfl (by kernel_rfl) (by kernel_rfl) (by kernel_rfl) (fun _ _ _ h => h) (Or.inl ⟨by rfl, ?yz10⟩) hHeld ?rz10
      case yz10 => (intro w hSw; go_simp; try with_reducible rfl)
      (try simp only [Act.put, List.setIfInBounds_toArray, List.set_cons_zero, List.set_cons_succ])
      refine wpAnyH_tk (i := 3) (v := undef) 21 rfl rfl (by kernel_rfl) (by kernel_rfl) (by kernel_rfl) (fun _ _ _ h => h) (yields_not (by rfl)) hHeld ?_
      (try simp only [Act.put, List.setIfInBounds_toArray, List.set_cons_zero, List.set_cons_succ])
      refine wpAnyH_tk (i := 4) (v := undef) 22 rfl rfl (by kernel_rfl) (by kernel_rfl) (by kernel_rfl) (fun _ _ _ h => h) (yields_not (by rfl)) hHeld ?_
      (try simp only [Act.put, List.setIfInBounds_toArray, List.set_cons_zero, List.set_cons_succ])
      refine wpAnyH_tk (i := 5) (v := undef) 23 rfl rfl (by kernel_rfl) (by kernel_rfl) (by kernel_rfl) (fun _ _ _ h => h) (yields_not (by rfl)) hHeld ?_
      (try simp only [Act.put, List.setIfInBounds_toArray, List.set_cons_zero, List.set_cons_succ])
      refine wpAnyH_tk (i := 6) (v := undef) 24 rfl rfl (by kernel_rfl) (by kernel_rfl) (by kernel_rfl) (fun _ _ _ h => h) (yields_not (by rfl)) hHeld ?_
      (try simp only [Act.put, List.setIfInBounds_toArray, List.set_cons_zero, List.set_cons_succ])
      refine wpAnyH_tk (i := 7) (v := undef) 25 rfl rfl (by kernel_rfl) (by kernel_rfl) (by kernel_rfl) (fun _ _ _ h => h) (yields_not (by rfl)) hHeld ?_
      (try simp only [Act.put, List.setIfInBounds_toArray, List.set_cons_zero, List.set_cons_succ])
      refine wpAnyH_tk (i := 8) (v := undef) 26 rfl rfl (by kernel_rfl) (by kernel_rfl) (by kernel_rfl) (fun _ _ _ h => h) (yields_not (by rfl)) hHeld ?_
      (try simp only [Act.put, List.setIfInBounds_toArray, List.set_cons_zero, List.set_cons_succ])
      refine wpAnyH_tk (i := 9) (v := undef) 27 rfl rfl (by kernel_rfl) (by kernel_rfl) (by kernel_rfl) (fun _ _ _ h => h) (yields_not (by rfl)) hHeld ?_
      (try simp only [Act.put, List.setIfInBounds_toArray, List.set_cons_zero, List.set_cons_succ])
      refine wpAnyH_tk (i := 10) (v := undef) 28 rfl rfl (by kernel_rfl) (by kernel_rfl) (by kernel_rfl) (fun _ _ _ h => h) (yields_not (by rfl)) hHeld ?_
      (try simp only [Act.put, List.setIfInBounds_toArray, List.set_cons_zero, List.set_cons_succ])
      refine wpAnyH_tk (i := 11) (v := undef) 29 rfl rfl (by kernel_rfl) (by kernel_rfl) (by kernel_rfl) (fun _ _ _ h => h) (yields_not (by rfl)) hHeld ?_
      (try simp only [Act.put, List.setIfInBounds_toArray, List.set_cons_zero, List.set_cons_succ])
      refine wpAnyH_tk (i := 12) (v := ?vz11) 30 rfl rfl (by kernel_rfl) (by kernel_rfl) (by kernel_rfl) (fun _ _ _ h => h) (Or.inl ⟨by rfl, ?yz11⟩) hHeld ?rz11
      case yz11 => (intro w hSw; go_simp; try with_reducible rfl)
      (try simp only [Act.put, List.setIfInBounds_toArray, List.set_cons_zero, List.set_cons_succ])
      refine wpAnyH_done (by kernel_rfl) ?_ _
      skip
      go_wp2_with fail
      go_meet
      case rel => exact ⟨by simp, ⟨hHeld.tail⟩⟩
  case rest =>
    obtain ⟨rfl, H7⟩ := hcut
    clear H6 H5 H4
    go_wp2_with ((with_reducible refine gate_dst (N := 31) rfl ?_); refine load24 (L := L) rfl (.tmp 4) rfl a2 rfl hm H7.out.head ?_)
    refine (LeafWalks.right_calls _ L hm hw.2.2).mono ?_
    rintro e w8 ⟨rfl, hb⟩
    have H8 := Aside0.mk (H7.out.step hb)
    clear hb H7
    cases hbl : leafOk L
    · go_wp2_with fail
      go_ret
      exact ⟨rfl, H8.out.below⟩
    · have HBL := Aside0.mk hbl
      clear hbl
      go_upto_region 10 with (first | ((with_reducible refine gate_dst (N := 34) rfl ?_); refine load24 (L := L) rfl (.tmp 4) rfl a2 rfl hm H8.out.head ?_) | ((with_reducible refine gate_dst (N := 9) rfl ?_); refine alloc24 rfl rfl ?_; intro w9 a4 h13 h14 h15; have H9 := Aside0.mk (H8.out.new h15 h14); have hb4 : W.heap.size ≤ a4 := Nat.le_trans H8.out.size h13; have hn5 : a1 ≠ a4 := (by have := H8.out.tail.head.lt; omega); have hn6 : a2 ≠ a4 := (by have := H8.out.head.lt; omega); clear h14 h15) | ((with_reducible refine gate_store (t := 24) (p := 9) rfl ?_); refine store24 rfl rfl (.tmp 9) (.tmp 34) rfl a4 rfl L rfl hm H9.out.head rfl ?_; intro w10 h16 h17 h18; have H10 := Aside0.mk (H9.out.put h17 hb4 (by simp; omega) h16); clear h16 h17))
      obtain ⟨k, hk⟩ : ∃ k : Nat, t % 10 = k := ⟨(t % 10).toNat, by omega⟩
      have hk10 : k < 10 := by omega
      rw [hk]
      clear hk ht2
      have hc := LB.place H10.out.head k (by omega)
      have hf := H10.out.head.frozen (2 + k)
      have hb := (of_decide_eq_true HBL.out).2 _ (mem_getD (show k < L.ps.length by omega))
      have HT := Aside0.mk (show (⟨L.gen, L.idx, L.ps.set k (4294967295 - L.ps.getD k 0)⟩ : Leaf) = turned L k from rfl)
      obtain ⟨x, hx⟩ : ∃ x, x = L.ps.getD k 0 := ⟨_, rfl⟩
      rw [← hx] at hc hb HT
      clear hx
      obtain ⟨hb0, hb1⟩ := hb
      go_upto_region 11 with (fail)
      have hml : (turned L k).ps.length = 10 := by rw [turned_length, hm]
      have hmo := turned_ok L k (by omega) HBL.out
      have hmne := turned_ne L k (by omega)
      have H11 := Aside0.mk (H10.out.put (grown_set _ a4 (2 + k) _) hb4 (by simp; omega) (by have := LB.setPlace H10.out.head k (4294967295 - x); rw [HT.out] at this; exact this))
      obtain ⟨M, hM⟩ : ∃ M, M = turned L k := ⟨_, rfl⟩
      rw [← hM] at hml hmo hmne H11
      have HMO := Aside0.mk hmo
      have HE1 := Aside0.mk (eq24 hml hm (leafOk_wf hmo) hw (b := false) (by simp; exact hmne))
      have HE2 := Aside0.mk (eq28 (leafLay_length M hml) (leafLay_length L hm) (leafLay_bytes M) (leafLay_bytes L))
      rw [decide_eq_false (fun h => hmne (leafLay_inj hml hm hmo HBL.out h))] at HE2
      clear hM hmo hmne HT hc hf
      refine wp_region_held_drew (S := (fun w' => Keeps W [(a4, 24, leafC M), (a2, 24, leafC L), (a1, 28, encs (Value.int .u8) p)] w')) (by kernel_rfl) (by exact H11.out.drew) (fun hHeld => ?_)
      refine wpAnyH_tk (i := 0) (v := _) 46 rfl rfl (by kernel_rfl) (by kernel_rfl) (by kernel_rfl) (fun _ _ _ h => h) (yields_load (by rfl) 24 (.tmp 9) rfl a4 rfl (fun _ h => h.head) Try.underlying24 rfl (size24' M hml)) hHeld ?_
      (try simp only [Act.put, List.setIfInBounds_toArray, List.set_cons_zero, List.set_cons_succ])
      refine wpAnyH_tk (i := 1) (v := _) 47 rfl rfl (by kernel_rfl) (by kernel_rfl) (by kernel_rfl) (fun _ _ _ h => h) (yields_load (by rfl) 24 (.tmp 4) rfl a2 rfl (fun _ h => h.tail.head) Try.underlying24 rfl (size24' L hm)) hHeld ?_
      (try simp only [Act.put, List.setIfInBounds_toArray, List.set_cons_zero, List.set_cons_succ])
      refine wpAnyH_tk (i := 2) (v := _) 48 rfl rfl (by kernel_rfl) (by kernel_rfl) (by kernel_rfl) (fun _ _ _ h => h) (yields_eql (by rfl) 24 24 (.tmp 46) (.tmp 47) rfl (leafC M) (leafC L) rfl rfl false HE1.out eqg24 rfl) hHeld ?_
      (try simp only [Act.put, List.setIfInBounds_toArray, List.set_cons_zero, List.set_cons_succ])
      refine wpAnyH_tk (i := 3) (v := ?vz12) 49 rfl rfl (by kernel_rfl) (by kernel_rfl) (by kernel_rfl) (fun _ _ _ h => h) (Or.inl ⟨by rfl, ?yz12⟩) hHeld ?rz12
      case yz12 => (intro w hSw; go_simp; try with_reducible rfl)
      (try simp only [Act.put, List.setIfInBounds_toArray, List.set_cons_zero, List.set_cons_succ])
      refine wpAnyH_tk (i := 4) (v := _) 50 rfl rfl (by kernel_rfl) (by kernel_rfl) (by kernel_rfl) (fun _ _ _ h => h) (yields_load (by rfl) 24 (.tmp 9) rfl a4 rfl (fun _ h => h.head) Try.underlying24 rfl (size24' M hml)) hHeld ?_
      (try simp only [Act.put, List.setIfInBounds_toArray, List.set_cons_zero, List.set_cons_succ])
      refine wpAnyH_tk (i := 6) (v := _) 52 rfl rfl (by kernel_rfl) (by kernel_rfl) (by kernel_rfl) (fun _ _ _ h => h) (yields_load (by rfl) 24 (.tmp 4) rfl a2 rfl (fun _ h => h.tail.head) Try.underlying24 rfl (size24' L hm)) hHeld ?_
      (try simp only [Act.put, List.setIfInBounds_toArray, List.set_cons_zero, List.set_cons_succ])
      refine wpAnyH_one (i := 5) (by kernel_rfl) rfl (fun K hK => ?_)
      go_simp
      go_wp2_with ((go_at_call 21; refine (lay_calls _ M hml HMO.out).mono ?_; rintro e wx ⟨rfl, hb⟩; have hHX := hHeld.step hb))
      refine hK.out _ _ (by exact hHX) (fun hHeld => ?_)
      clear hK K
      refine wpAnyH_one (i := 7) (by kernel_rfl) rfl (fun K hK => ?_)
      go_simp
      go_wp2_with ((go_at_call 21; refine (lay_calls _ L hm HBL.out).mono ?_; rintro e wx ⟨rfl, hb⟩; have hHX := hHeld.step hb))
      refine hK.out _ _ (by exact hHX) (fun hHeld => ?_)
      clear hK K
      refine wpAnyH_tk (i := 8) (v := _) 54 rfl rfl (by kernel_rfl) (by kernel_rfl) (by kernel_rfl) (fun _ _ _ h => h) (yields_neq (by rfl) 28 28 (.tmp 51) (.tmp 53) rfl (encs (Value.int .u8) (leafLay M)) (encs (Value.int .u8) (leafLay L)) rfl rfl false HE2.out eqg28 rfl) hHeld ?_
      (try simp only [Act.put, List.setIfInBounds_toArray, List.set_cons_zero, List.set_cons_succ])
      refine wpAnyH_tk (i := 9) (v := ?vz13) 55 rfl rfl (by kernel_rfl) (by kernel_rfl) (by kernel_rfl) (fun _ _ _ h => h) (Or.inl ⟨by rfl, ?yz13⟩) hHeld ?rz13
      case yz13 => (intro w hSw; go_simp; try with_reducible rfl)
      (try simp only [Act.put, List.setIfInBounds_toArray, List.set_cons_zero, List.set_cons_succ])
      refine wpAnyH_tk (i := 10) (v := ?vz14) 6 rfl rfl (by kernel_rfl) (by kernel_rfl) (by kernel_rfl) (fun _ _ _ h => h) (Or.inl ⟨by rfl, ?yz14⟩) hHeld ?rz14
      case yz14 => (intro w hSw; go_simp; try with_reducible rfl)
      (try simp only [Act.put, List.setIfInBounds_toArray, List.set_cons_zero, List.set_cons_succ])
      refine wpAnyH_done (by kernel_rfl) ?_ _
      skip
      go_wp2_with fail
      go_ret
      exact ⟨by simp, hHX.below⟩
end Go.Proofs.Ytmkkkenpjealdaa.PageLaws
