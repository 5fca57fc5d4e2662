/- The walks of the references' readers: the sum of a sector, a number of it. -/
import Derived.Test.YtmkkkenpjealdaaSecFull
namespace Go.Proofs.Ytmkkkenpjealdaa.SecRef
open Go.RowKit Go.Proofs.YtmkkkenpjealdaaW.PrintWords Go.Proofs.YtmkkkenpjealdaaW.PrintLast Go.Proofs.YtmkkkenpjealdaaW.PrintMore PlainWord CrcPlain PlainSec CrcMem CrcWalks CrcRef Arr SecWord SecMem

theorem getN_low (l : List Int) (a : Int) : ∀ n : Nat, getN l a (n + 1) = rd l a + 256 * getN l (a + 1) n
  | 0 => by simp [getN]
  | n + 1 => by
    rw [getN, getN_low l a n, getN, Int.mul_add, ← Int.mul_assoc, Int.mul_comm 256 (rd l (a + 1 + n)), Int.mul_assoc, ← Int.add_assoc]
    congr 2
    · congr 1; omega
    · rw [Int.pow_succ, Int.mul_comm]
theorem getN_tail {l : List Int} (h : Bytes l) (a : Int) (n : Nat) : ∀ j : Nat, j ≤ n → getN l (a + j) (n - j) ≤ getN l a n
  | 0, _ => by simp
  | j + 1, hj => by
    have ih := getN_tail h a n j (by omega)
    have e : n - j = (n - (j + 1)) + 1 := by omega
    rw [e, getN_low] at ih
    have hb : 0 ≤ rd l (a + j) := (h.getD _).1
    have hn := (getN_bound h (a + j + 1) (n - (j + 1))).1
    have e2 : a + ((j + 1 : Nat) : Int) = a + j + 1 := by omega
    rw [e2]
    omega
/-- A number that is read: below 0, if it is too great. -/
def numL (l : List Int) (a : Int) (n : Nat) : Int := if getN l a n > 1099511627776 then -1 else getN l a n
set_option maxHeartbeats 1000000 in
theorem num54 (w : World) (p : List Int) (hp : Bytes p) (hl : p.length = 64) (a n : Nat) (hn : a + n ≤ 64) (hn1 : 1 ≤ n) :
    Calls Try.prog 54 #[.agg (encs (Value.int .u8) p).toArray, .int .i64 a, .int .i64 n] w fun e w' => e = .returned (.int .i64 (numL p a n)) ∧ Below w.heap.size w w' := by
  have HP := Aside0.mk hp
  have HW := Aside0.mk (Below.refl w.heap.size w)
  clear hp
  go_enter Try.func54, Try.ntmps54
  go_wp2_with ((with_reducible refine gate_dst (N := 3) rfl ?_); refine box28 rfl (.tmp 0) rfl p rfl ?_; intro w1 g h1 h2 h3; have H2 := Aside0.mk h2; have H3 := Aside0.mk (below_new HW.out HW.out.size h3); clear h2 h3)
  clear HW
  go_loop [7, 8] (fun x i => ∃ k : Nat, k ≤ n ∧ i = .int .i64 ((a : Int) + (n - k : Nat) - 1) ∧ x = .int .i64 (getN p ((a : Int) + (n - k : Nat)) k) ∧ getN p ((a : Int) + (n - k : Nat)) k ≤ 1099511627776) (fun _ i => (intOf i + 1 - a).toNat)
  case atStart => exact ⟨0, by omega, by simp, by simp [getN], by simp [getN]⟩
  case round =>
    obtain ⟨k, hk, rfl, rfl, hsm⟩ := hrel
    by_cases hlt : k < n
    · have hx := H2.out.encAt (0 : Int) (a + (n - k) - 1) (by omega)
      have hb := HP.out.getD (a + (n - k) - 1)
      have hlow := getN_low p ((a : Int) + (n - (k + 1) : Nat)) k
      have e1 : (a : Int) + (n - (k + 1) : Nat) + 1 = (a : Int) + (n - k : Nat) := by omega
      have e2 : rd p ((a : Int) + (n - (k + 1) : Nat)) = p.getD (a + (n - k) - 1) 0 := by rw [rd_nat]; congr 1; omega
      rw [e1, e2] at hlow
      have htail := getN_tail HP.out (a : Int) n (n - (k + 1)) (by omega)
      rw [show n - (n - (k + 1)) = k + 1 by omega] at htail
      have e3 : (a : Int) + (n - k : Nat) - 1 = ((a + (n - k) - 1 : Nat) : Int) := by omega
      have hg := (getN_bound HP.out ((a : Int) + (n - k : Nat)) k).1
      obtain ⟨y, hy⟩ : ∃ y, y = getN p ((a : Int) + (n - k : Nat)) k := ⟨_, rfl⟩
      obtain ⟨b, hbb⟩ : ∃ b, b = p.getD (a + (n - k) - 1) 0 := ⟨_, rfl⟩
      obtain ⟨j, hj⟩ : ∃ j, j = a + (n - k) - 1 := ⟨_, rfl⟩
      rw [← hbb] at hx hb hlow
      rw [← hy] at hsm hlow hg
      rw [← hj] at hx e3
      rw [← hy, e3]
      have hj64 : j < 64 := by omega
      have hja : a ≤ j := by omega
      have HY := Aside0.mk (show getN p ((a : Int) + (n - (k + 1) : Nat)) (k + 1) = y * 256 + b by omega)
      have HT := Aside0.mk (show y * 256 + b ≤ getN p (a : Int) n by omega)
      have HJ := Aside0.mk (show (j : Int) - 1 = (a : Int) + (n - (k + 1) : Nat) - 1 by omega)
      clear hy hj hbb hlow htail e1 e2 e3
      go_wp2_with fail
      · go_ret
        refine ⟨?_, H3.out⟩
        have := HT.out
        unfold numL
        rw [if_pos (by omega)]
        rfl
      · go_round
        case rel => exact ⟨k + 1, by omega, by rw [← HJ.out], by rw [HY.out], by rw [HY.out]; omega⟩
        case measure => simp [intOf]; omega
    · obtain rfl : k = n := by omega
      have e0 : (a : Int) + (k - k : Nat) = a := by omega
      rw [e0] at hsm ⊢
      go_wp2_with fail
      go_ret
      refine ⟨?_, H3.out⟩
      unfold numL
      rw [if_neg (by omega)]
      rfl
set_option maxHeartbeats 1000000 in
theorem num57 (w : World) (p : List Int) (hp : Bytes p) (hl : p.length = 64) (a n : Nat) (hn : a + n ≤ 64) (hn1 : 1 ≤ n) :
    Calls Try.prog 57 #[.agg (encs (Value.int .u8) p).toArray, .int .i64 a, .int .i64 n] w fun e w' => e = .returned (.int .i64 (numL p a n)) ∧ Below w.heap.size w w' := by
  have HP := Aside0.mk hp
  have HW := Aside0.mk (Below.refl w.heap.size w)
  clear hp
  go_enter Try.func57, Try.ntmps57
  go_wp2_with ((with_reducible refine gate_dst (N := 3) rfl ?_); refine box28 rfl (.tmp 0) rfl p rfl ?_; intro w1 g h1 h2 h3; have H2 := Aside0.mk h2; have H3 := Aside0.mk (below_new HW.out HW.out.size h3); clear h2 h3)
  clear HW
  go_loop [7, 8] (fun x i => ∃ k : Nat, k ≤ n ∧ i = .int .i64 ((a : Int) + (n - k : Nat) - 1) ∧ x = .int .i64 (getN p ((a : Int) + (n - k : Nat)) k) ∧ getN p ((a : Int) + (n - k : Nat)) k ≤ 1099511627776) (fun _ i => (intOf i + 1 - a).toNat)
  case atStart => exact ⟨0, by omega, by simp, by simp [getN], by simp [getN]⟩
  case round =>
    obtain ⟨k, hk, rfl, rfl, hsm⟩ := hrel
    by_cases hlt : k < n
    · have hx := H2.out.encAt (0 : Int) (a + (n - k) - 1) (by omega)
      have hb := HP.out.getD (a + (n - k) - 1)
      have hlow := getN_low p ((a : Int) + (n - (k + 1) : Nat)) k
      have e1 : (a : Int) + (n - (k + 1) : Nat) + 1 = (a : Int) + (n - k : Nat) := by omega
      have e2 : rd p ((a : Int) + (n - (k + 1) : Nat)) = p.getD (a + (n - k) - 1) 0 := by rw [rd_nat]; congr 1; omega
      rw [e1, e2] at hlow
      have htail := getN_tail HP.out (a : Int) n (n - (k + 1)) (by omega)
      rw [show n - (n - (k + 1)) = k + 1 by omega] at htail
      have e3 : (a : Int) + (n - k : Nat) - 1 = ((a + (n - k) - 1 : Nat) : Int) := by omega
      have hg := (getN_bound HP.out ((a : Int) + (n - k : Nat)) k).1
      obtain ⟨y, hy⟩ : ∃ y, y = getN p ((a : Int) + (n - k : Nat)) k := ⟨_, rfl⟩
      obtain ⟨b, hbb⟩ : ∃ b, b = p.getD (a + (n - k) - 1) 0 := ⟨_, rfl⟩
      obtain ⟨j, hj⟩ : ∃ j, j = a + (n - k) - 1 := ⟨_, rfl⟩
      rw [← hbb] at hx hb hlow
      rw [← hy] at hsm hlow hg
      rw [← hj] at hx e3
      rw [← hy, e3]
      have hj64 : j < 64 := by omega
      have hja : a ≤ j := by omega
      have HY := Aside0.mk (show getN p ((a : Int) + (n - (k + 1) : Nat)) (k + 1) = y * 256 + b by omega)
      have HT := Aside0.mk (show y * 256 + b ≤ getN p (a : Int) n by omega)
      have HJ := Aside0.mk (show (j : Int) - 1 = (a : Int) + (n - (k + 1) : Nat) - 1 by omega)
      clear hy hj hbb hlow htail e1 e2 e3
      go_wp2_with fail
      · go_ret
        refine ⟨?_, H3.out⟩
        have := HT.out
        unfold numL
        rw [if_pos (by omega)]
        rfl
      · go_round
        case rel => exact ⟨k + 1, by omega, by rw [← HJ.out], by rw [HY.out], by rw [HY.out]; omega⟩
        case measure => simp [intOf]; omega
    · obtain rfl : k = n := by omega
      have e0 : (a : Int) + (k - k : Nat) = a := by omega
      rw [e0] at hsm ⊢
      go_wp2_with fail
      go_ret
      refine ⟨?_, H3.out⟩
      unfold numL
      rw [if_neg (by omega)]
      rfl
theorem right_ends {p : List Int} (hp : Bytes p) (hl : p.length = 64) : (∀ j, 60 ≤ j → j < 64 → (sealL (p.take 60)).getD j 0 = p.getD j 0) ↔ rightB p = true := by
  have h60 : (p.take 60).length = 60 := by rw [List.length_take]; omega
  rw [right_take hp hl, decide_eq_true_eq]
  constructor
  · intro h
    apply ext_getD (by rw [seal_length]; omega)
    intro j hj
    rw [seal_length, h60] at hj
    by_cases h1 : j < 60
    · unfold sealL
      rw [getD_left (by omega), getD_take h1]
    · exact h j (by omega) (by omega)
  · intro h j _ _
    rw [h]
set_option maxHeartbeats 1000000 in
theorem summed_calls (w : World) (p : List Int) (hp : Bytes p) (hl : p.length = 64) : Calls Try.prog 53 #[.agg (encs (Value.int .u8) p).toArray] w fun e w' => e = .returned (.bool (rightB p)) ∧ Below w.heap.size w w' := by
  have HP := Aside0.mk hp
  have HW := Aside0.mk (Below.refl w.heap.size w)
  have HE := Aside0.mk (right_ends hp hl)
  clear hp
  go_enter Try.func53, Try.ntmps53
  go_wp2_with ((with_reducible refine gate_dst (N := 1) rfl ?_); refine box28 rfl (.tmp 0) rfl p rfl ?_; intro w1 g h1 h2 h3; have H2 := Aside0.mk h2; have H3 := Aside0.mk (below_new HW.out HW.out.size h3); have hs3 := h3.size; clear h2 h3)
  clear HW
  have HN := Aside0.mk (Kd.R_nil (Kd.int .u8) 5 w1 w1.heap.size (fun _ => True))
  have HX := Aside0.mk (Below.refl w1.heap.size w1)
  have hgl := H2.out.lt
  go_loopw [3, 4] (fun v i wr => ∃ k : Nat, k ≤ 60 ∧ i = .int .i64 k ∧ Aside0 (RB wr w1.heap.size v (p.take k)) ∧ Aside0 (Below w1.heap.size w1 wr)) (fun _ i _ => 60 - (intOf i).toNat)
  case atStart => exact ⟨0, by omega, rfl, ⟨by rw [List.take_zero]; exact HN.out⟩, HX⟩
  case round =>
    clear HN HX
    obtain ⟨k, hk, rfl, HO, HX⟩ := hrel
    have HB := Aside0.mk (H2.out.below HX.out hgl)
    have hS := HX.out.size
    by_cases hlt : k < 60
    · have hx := HB.out.encAt (0 : Int) k (by omega)
      have htk : p.take (k + 1) = p.take k ++ [p.getD k 0] := take_rd p k (by omega)
      obtain ⟨b, hb⟩ : ∃ b, b = p.getD k 0 := ⟨_, rfl⟩
      rw [← hb] at hx htk
      have HT := Aside0.mk htk
      clear hb htk
      go_wp2_with (first | (at_builtin; refine app_u8 rfl (.tmp 10) (.tmp 14) rfl u3 (p.take k) _ rfl rfl HO.out HX.out hS (by rw [List.length_take]; omega) ?_; intro v3 w3 h7 h8 h9; have H7 := Aside0.mk h7; have H8 := Aside0.mk h8; clear h7 h8))
      go_roundw
      case rel => exact ⟨k + 1, by omega, by go_num, ⟨by rw [HT.out]; exact H7.out⟩, H8⟩
      case measure => simp [intOf]; omega
    · obtain rfl : k = 60 := by omega
      have h60 : (p.take 60).length = 60 := by rw [List.length_take]; omega
      obtain ⟨A, c, rfl⟩ := Kd.R_slice HO.out
      have hR := (Kd.R_reads' HO.out).2.2
      rw [h60] at hR
      rw [h60]
      have HR := Aside0.mk hR
      clear hR HO
      go_wp2_with fail
      refine (refseal_calls A 60 c _ _ HR.out (bytes_take HP.out 60) (by omega)).mono ?_
      rintro e w4 ⟨v4, rfl, h4, h5⟩
      obtain ⟨A4, c4, rfl⟩ := Kd.R_slice h4
      have hsl4 : (sealL (p.take 60)).length = 64 := by rw [seal_length, h60]
      have HS := Aside0.mk (Kd.R_reads' h4).2.2
      rw [hsl4] at HS
      rw [hsl4]
      have HB4 := Aside0.mk (HB.out.below' h5)
      have HW4 := Aside0.mk (H3.out.trans ((HX.out.trans (h5.mono hS)).mono hs3))
      clear h4 h5 HR HX HB
      obtain ⟨q, hq⟩ : ∃ q, q = sealL (p.take 60) := ⟨_, rfl⟩
      rw [← hq] at HS hsl4 HE
      clear hq
      go_wp2_with fail
      go_loopw [5] (fun i wr => ∃ k : Nat, 60 ≤ k ∧ k ≤ 64 ∧ i = .int .i64 k ∧ Aside0 (∀ j, 60 ≤ j → j < k → q.getD j 0 = p.getD j 0) ∧ Aside0 (Drawn0 w4 wr)) (fun i _ => 64 - (intOf i).toNat)
      case atStart => exact ⟨60, by omega, by omega, rfl, ⟨fun j h1 h2 => by omega⟩, ⟨Drawn0.refl w4⟩⟩
      case round =>
        obtain ⟨k, hk0, hk, rfl, HEq, HD⟩ := hrel
        obtain ⟨wd, hwd⟩ := HD.out.out
        subst hwd
        by_cases hlt : k < 64
        · obtain ⟨ad, rfl, hx⟩ := Kd.at_int HS.out (k : Int) (by omega) (by omega)
          have hx' := HB4.out.encAt (0 : Int) k (by omega)
          rw [Int.toNat_natCast] at hx
          obtain ⟨b, hb⟩ : ∃ b, b = p.getD k 0 := ⟨_, rfl⟩
          obtain ⟨b', hb'⟩ : ∃ b', b' = rd q (k : Int) := ⟨_, rfl⟩
          rw [← hb] at hx'
          rw [← hb'] at hx
          have HB := Aside0.mk hb
          have HB' := Aside0.mk (hb'.trans (by rw [rd_nat, Int.toNat_natCast]))
          clear hb hb'
          go_wp2_with fail
          go_quiet (fail)
          go_wp2_with fail
          · have hne : (b' != b) = true := by assumption
            go_ret
            refine ⟨?_, (pw_below_drewN (pw_below_drewN HW4.out _) _)⟩
            have : rightB p = false := by
              rw [← Bool.not_eq_true, ← HE.out]
              intro h
              have := h k hk0 hlt
              rw [← HB.out, ← HB'.out] at this
              simp [this] at hne
            rw [this]
            rfl
          · have heq : (b' != b) = false := by assumption
            go_roundw
            case rel => exact ⟨k + 1, by omega, by omega, by go_num, ⟨fun j h1 h2 => by
              by_cases e : j = k
              · rw [e, ← HB.out, ← HB'.out]; simpa using heq
              · exact HEq.out j h1 (by omega)⟩, ⟨⟨⟨_, rfl⟩⟩⟩⟩
            case measure => simp [intOf]; omega
        · obtain rfl : k = 64 := by omega
          go_wp2
          go_ret
          refine ⟨?_, (pw_below_drewN HW4.out _)⟩
          rw [HE.out.1 HEq.out]
          rfl
end Go.Proofs.Ytmkkkenpjealdaa.SecRef
