/- The walks of layer 2's statements: CrcEven. -/
import Derived.Test.YtbeodbelmnaeoaaCrcLaws2
import Derived.Deep.RegionLaw
namespace Go.Proofs.Ytbeodbelmnaeoaa.CrcLaws
open Go.RowKit Go.Proofs.YtbeodbelmnaeoaaW.PrintWords Go.Proofs.YtbeodbelmnaeoaaW.PrintLast Go.Proofs.YtbeodbelmnaeoaaW.PrintMore PlainWord CrcPlain CrcMem CrcWalks CrcRef Arr

theorem xor3_take (a b c : List Int) (k : Nat) (h : k < a.length) : (xor3 a b c).take (k + 1) = (xor3 a b c).take k ++ [Go.bits .xor .u8 (Go.bits .xor .u8 (rd a (k : Int)) (rd b (k : Int))) (rd c (k : Int))] := by
  rw [take_rd _ _ (by simpa [xor3] using h)]
  congr 1
  rw [show (xor3 a b c).getD k 0 = xor8 (xor8 (a.getD k 0) (b.getD k 0)) (c.getD k 0) from getD_range _ _ _ h]
  rfl
theorem xor3_bytes (a b c : List Int) : Bytes (xor3 a b c) := by
  intro x hx
  simp only [xor3, List.mem_map] at hx
  obtain ⟨i, _, rfl⟩ := hx
  exact xor8_bound _ _
theorem xor3_length (a b c : List Int) : (xor3 a b c).length = a.length := by simp [xor3]
theorem even_iv (a b c : List Int) (h1 : a.length = b.length) (h2 : a.length = c.length) (ha : Bytes a) (hb : Bytes b) (hc : Bytes c) :
    Go.bits .xor .u32 (Go.bits .xor .u32 (iv (sum a)) (iv (sum b))) (iv (sum c)) = iv (sum (xor3 a b c)) := by
  rw [bits_xor, bits_xor, sum_xor3 a b c h1 h2 ha hb hc]
/-- Where a statement's guard shuts the input out, it asks for the first answers again. -/
theorem even_short (W : World) (A0 A1 A2 : Option Addr) (c0 c1 c2 n0 n1 n2 : Nat) (h : (n0 : Int) ≠ n1 ∨ (n0 : Int) = n1 ∧ (n0 : Int) ≠ n2 ∨ (n0 : Int) = n1 ∧ (n0 : Int) = n2 ∧ 500 < n0) (hm : n0 ≤ 9223372036854775807) :
    Calls Try.prog 14 #[.slice A0 n0 c0, .slice A1 n1 c1, .slice A2 n2 c2] W (Holds W) := by
  rcases h with h | ⟨h, h'⟩ | ⟨h, h', h''⟩
  · have e1 : ((n0 : Int) != (n1 : Int)) = true := by simp; omega
    clear h
    go_enter Try.func14, Try.ntmps14
    go_wp2_with fail
    refine (awake_calls _).mono ?_
    rintro e w1 ⟨rfl, h1⟩
    have H1 := Aside0.mk h1
    clear h1
    go_wp2_with fail
    refine (awake_calls _).mono ?_
    rintro e w2 ⟨rfl, h2⟩
    have H2 := Aside0.mk (H1.out.trans (h2.mono H1.out.size))
    clear h2
    go_wp2_with fail
    go_ret
    exact ⟨rfl, H2.out⟩
  · have e1 : ((n0 : Int) != (n1 : Int)) = false := by simp; omega
    have e2 : ((n0 : Int) != (n2 : Int)) = true := by simp; omega
    clear h h'
    go_enter Try.func14, Try.ntmps14
    go_wp2_with fail
    refine (awake_calls _).mono ?_
    rintro e w1 ⟨rfl, h1⟩
    have H1 := Aside0.mk h1
    clear h1
    go_wp2_with fail
    refine (awake_calls _).mono ?_
    rintro e w2 ⟨rfl, h2⟩
    have H2 := Aside0.mk (H1.out.trans (h2.mono H1.out.size))
    clear h2
    go_wp2_with fail
    go_ret
    exact ⟨rfl, H2.out⟩
  · have e1 : ((n0 : Int) != (n1 : Int)) = false := by simp; omega
    have e2 : ((n0 : Int) != (n2 : Int)) = false := by simp; omega
    clear h h'
    go_enter Try.func14, Try.ntmps14
    go_wp2_with fail
    refine (awake_calls _).mono ?_
    rintro e w1 ⟨rfl, h1⟩
    have H1 := Aside0.mk h1
    clear h1
    go_wp2_with fail
    refine (awake_calls _).mono ?_
    rintro e w2 ⟨rfl, h2⟩
    have H2 := Aside0.mk (H1.out.trans (h2.mono H1.out.size))
    clear h2
    go_wp2_with fail
    go_ret
    exact ⟨rfl, H2.out⟩
set_option maxHeartbeats 2000000 in
theorem even_walk (W : World) (A0 : Option Addr) (c0 : Nat) (a : List Int) (_hlc : a.length ≤ c0) (hC0 : CB W A0 a.length a) (hg0 : ∀ x ∈ a, (Lit.int .u8 x).wf = true)
    (A1 : Option Addr) (c1 : Nat) (b : List Int) (_hlc1 : b.length ≤ c1) (hC1 : CB W A1 b.length b) (hg1 : ∀ x ∈ b, (Lit.int .u8 x).wf = true)
    (A2 : Option Addr) (c2 : Nat) (c : List Int) (_hlc2 : c.length ≤ c2) (hC2 : CB W A2 c.length c) (hg2 : ∀ x ∈ c, (Lit.int .u8 x).wf = true) :
    Calls Try.prog 14 #[.slice A0 a.length c0, .slice A1 b.length c1, .slice A2 c.length c2] W (Holds W) := by
  have hm0 := Kd.C_max hC0
  by_cases hs : a.length = b.length ∧ a.length = c.length ∧ a.length ≤ 500
  · obtain ⟨h1, h2, h3⟩ := hs
    have HE := Aside0.mk (even_iv a b c h1 h2 (Bytes.of_wf hg0) (Bytes.of_wf hg1) (Bytes.of_wf hg2))
    obtain ⟨n, hn⟩ : ∃ n, n = a.length := ⟨_, rfl⟩
    rw [← h1] at hC1
    rw [← h2] at hC2
    rw [← h1, ← h2]
    rw [← hn] at h3 hC0 hC1 hC2 ⊢
    have HN := Aside0.mk hn
    have HC0 := Aside0.mk hC0
    have HC1 := Aside0.mk hC1
    have HC2 := Aside0.mk hC2
    have HB0 := Aside0.mk (Bytes.of_wf hg0)
    have HB1 := Aside0.mk (Bytes.of_wf hg1)
    have HB2 := Aside0.mk (Bytes.of_wf hg2)
    clear hn h1 h2 hC0 hC1 hC2 hg0 hg1 hg2
    go_enter Try.func14, Try.ntmps14
    go_wp2_with fail
    refine (awake_calls _).mono ?_
    rintro e w1 ⟨rfl, h1⟩
    have H1 := Aside0.mk h1
    clear h1
    go_wp2_with fail
    go_loopw [7, 8] (fun v i wr => ∃ k : Nat, k ≤ n ∧ i = .int .i64 k ∧ Aside0 (RB wr W.heap.size v ((xor3 a b c).take k)) ∧ Aside0 (Below W.heap.size W wr)) (fun _ i _ => n - (intOf i).toNat)
    case atStart => exact ⟨0, by omega, rfl, ⟨Kd.R_nil _ _ _ _ _⟩, H1⟩
    case round =>
      obtain ⟨k, hk, rfl, HO, HW⟩ := hrel
      have hS := HW.out.size
      by_cases hlt : k < n
      · obtain ⟨ad0, rfl, hx0⟩ := Kd.at_int (Kd.C_below HC0.out HW.out) (k : Int) (by omega) (by omega)
        obtain ⟨ad1, rfl, hx1⟩ := Kd.at_int (Kd.C_below HC1.out HW.out) (k : Int) (by omega) (by omega)
        obtain ⟨ad2, rfl, hx2⟩ := Kd.at_int (Kd.C_below HC2.out HW.out) (k : Int) (by omega) (by omega)
        rw [Int.toNat_natCast] at hx0 hx1 hx2
        have HL := Aside0.mk (show ((xor3 a b c).take k).length < 140737488355328 from by rw [List.length_take]; omega)
        go_wp2_with fail
        go_region_law ((refine app_u8_step rfl (.tmp 37) (.tmp 52) rfl u7 ((xor3 a b c).take k) _ (by simp [Act.eval]) (by simp [Act.eval]) (Kd.R_drew HO.out) (below_drew HW.out) hS HL.out ?_; intro v3 w3 h7 h8 h9; have H7 := Aside0.mk h7; have H8 := Aside0.mk h8; clear h7 h8))
        all_goals
          go_wp2_with fail
          go_roundw
          case rel => exact ⟨k + 1, by omega, by go_num, ⟨by rw [xor3_take a b c k (by have := HN.out; omega)]; exact H7.out⟩, H8⟩
          case measure => simp [intOf]; omega
      · obtain rfl : k = n := by omega
        have hT : (xor3 a b c).take k = xor3 a b c := List.take_of_length_le (by rw [xor3_length]; have := HN.out; omega)
        rw [hT] at HO
        obtain ⟨A7, c7, e7, hc7, hr7⟩ := RB.reads HO.out
        subst e7
        rw [xor3_length, ← HN.out] at hr7
        rw [xor3_length, ← HN.out]
        have HR7 := Aside0.mk hr7
        have HC0' := Aside0.mk (Kd.C_below HC0.out HW.out)
        have HC1' := Aside0.mk (Kd.C_below HC1.out HW.out)
        have HC2' := Aside0.mk (Kd.C_below HC2.out HW.out)
        clear hr7 hT H1
        go_wp2_with fail
        refine (sum_calls _ _ _ _ _ HR7.out (xor3_bytes a b c)).mono ?_
        rintro e w5 ⟨rfl, rfl⟩
        go_wp2_with fail
        refine (sum_calls _ _ _ _ _ HC0'.out HB0.out).mono ?_
        rintro e w5 ⟨rfl, rfl⟩
        go_wp2_with fail
        refine (sum_calls _ _ _ _ _ HC1'.out HB1.out).mono ?_
        rintro e w5 ⟨rfl, rfl⟩
        go_wp2_with fail
        refine (sum_calls _ _ _ _ _ HC2'.out HB2.out).mono ?_
        rintro e w5 ⟨rfl, rfl⟩
        have hE := HE.out
        go_wp2_with fail
        go_ret
        exact ⟨rfl, HW.out⟩
  · exact even_short W A0 A1 A2 c0 c1 c2 _ _ _ (by omega) hm0
end Go.Proofs.Ytbeodbelmnaeoaa.CrcLaws
