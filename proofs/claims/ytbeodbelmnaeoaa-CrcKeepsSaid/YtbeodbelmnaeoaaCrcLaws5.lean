/- The walks of layer 2's statements: CrcKeeps. -/
import Derived.Test.YtbeodbelmnaeoaaCrcLaws4
namespace Go.Proofs.Ytbeodbelmnaeoaa.CrcLaws
open Go.RowKit Go.Proofs.YtbeodbelmnaeoaaW.PrintWords Go.Proofs.YtbeodbelmnaeoaaW.PrintLast Go.Proofs.YtbeodbelmnaeoaaW.PrintMore PlainWord CrcPlain CrcMem CrcWalks CrcRef Arr

theorem xor8_zero (x y : Int) (hx : 0 ≤ x ∧ x ≤ 255) (hy : 0 ≤ y ∧ y ≤ 255) : xor8 x y = x ↔ y = 0 := by
  constructor
  · intro h
    have h1 := xor8_reg x y hx hy
    rw [h] at h1
    have h2 := congrArg (· ^^^ BitVec.ofInt 32 x) h1
    have h3 : BitVec.ofInt 32 y = (0#32 : R) := by
      have : (BitVec.ofInt 32 x ^^^ BitVec.ofInt 32 y) ^^^ BitVec.ofInt 32 x = BitVec.ofInt 32 y := by
        rw [BitVec.xor_comm (BitVec.ofInt 32 x), BitVec.xor_assoc, BitVec.xor_self, BitVec.xor_zero]
      rw [this] at h2
      simpa using h2.symm
    have := congrArg iv h3
    rw [iv_ofInt y (by omega) (by omega)] at this
    simpa [iv] using this
  · rintro rfl
    have h1 := xor8_reg x 0 hx (by omega)
    have h2 : (BitVec.ofInt 32 x ^^^ BitVec.ofInt 32 0 : R) = BitVec.ofInt 32 x := by simp
    rw [h2] at h1
    have := congrArg iv h1
    rwa [iv_ofInt _ (by have := xor8_bound x 0; omega) (by have := xor8_bound x 0; omega), iv_ofInt x (by omega) (by omega)] at this
theorem set_take_lt (l : List Int) (p n : Nat) (y : Int) (h : n ≤ p) : (l.set p y).take n = l.take n := by
  rw [List.take_set, List.set_eq_of_length_le (by rw [List.length_take]; omega)]
/-- A sealed text with a byte turned is right just where it is as it was. -/
theorem keeps (l : List Int) (hl : Bytes l) (p : Nat) (hp : p < l.length + 4) (y : Int) (hy : 0 ≤ y ∧ y ≤ 255) :
    rightB ((sealL l).set p (xor8 ((sealL l).getD p 0) y)) = (y == 0) := by
  have hsb := seal_bytes hl
  have hsl := seal_length l
  obtain ⟨z, hz⟩ : ∃ z, z = xor8 ((sealL l).getD p 0) y := ⟨_, rfl⟩
  rw [← hz]
  have hzb : 0 ≤ z ∧ z ≤ 255 := by rw [hz]; exact xor8_bound _ _
  have hzy : z = (sealL l).getD p 0 ↔ y = 0 := by rw [hz]; exact xor8_zero _ _ (hsb.getD p) hy
  have hb : Bytes ((sealL l).set p z) := by
    intro u hu
    rcases List.mem_or_eq_of_mem_set hu with h | h
    · exact hsb u h
    · rw [h]; exact hzb
  rw [right_iff _ hb, List.length_set, hsl, decide_eq_true (show 4 ≤ l.length + 4 by omega), Bool.true_and, show l.length + 4 - 4 = l.length by omega, Bool.eq_iff_iff, decide_eq_true_eq, beq_iff_eq, ← hzy]
  constructor
  · intro h
    by_cases hpl : p < l.length
    · -- a byte ahead of the sum
      have h1 : ((sealL l).set p z).take l.length = l.set p z := by rw [List.take_set, seal_take]
      rw [h1] at h
      have h2 : (sealL l).set p z = l.set p z ++ le (sum l) 4 := by unfold sealL; rw [List.set_append_left _ _ hpl]
      rw [h2] at h
      unfold sealL at h
      have h3 := List.append_cancel_left h
      have h4 : sum (l.set p z) = sum l := by
        have := congrArg (fun x => getN x 0 4) h3
        simp only [getN_le] at this
        exact iv_inj this
      by_cases h4l : 4 ≤ l.length
      · have := (tears (l.set p z) l (min p (l.length - 4)) (by rw [List.length_set]; omega) (by rw [List.length_set]) (fun u hu => by
            rcases List.mem_or_eq_of_mem_set hu with h | h
            · exact hl u h
            · rw [h]; exact hzb) hl (fun i hi => by rw [getD_set _ _ _ _ hpl, if_neg (by omega)])).1 h4
        have h5 := congrArg (fun x => x.getD p 0) this
        simp only [getD_set _ _ _ _ hpl, if_true] at h5
        unfold sealL
        rw [List.getD_eq_getElem?_getD, List.getElem?_append_left hpl, ← List.getD_eq_getElem?_getD]
        exact h5
      · -- fewer than four bytes: noughts behind make it four
        have e : ∀ m : List Int, sum m = sum l → m.length = l.length → Bytes m → m = l := by
          intro m hm hml hmb
          have hz4 : sum (m ++ [0, 0, 0, 0]) = sum (l ++ [0, 0, 0, 0]) := by rw [← more_sum, ← more_sum, hm]
          have hb4 : Bytes [0, 0, 0, 0] := by unfold Bytes; decide
          have := (tears (m ++ [0, 0, 0, 0]) (l ++ [0, 0, 0, 0]) 0 (by simp) (by simp [hml]) (bytes_append hmb hb4) (bytes_append hl hb4) (fun i hi => by
            have hi4 : m.length ≤ i := by omega
            rw [List.getD_eq_getElem?_getD, List.getD_eq_getElem?_getD, List.getElem?_append_right hi4, List.getElem?_append_right (by omega), hml])).1 hz4
          exact List.append_cancel_right this
        have := e (l.set p z) h4 (by rw [List.length_set]) (fun u hu => by
            rcases List.mem_or_eq_of_mem_set hu with h | h
            · exact hl u h
            · rw [h]; exact hzb)
        have h5 := congrArg (fun x => x.getD p 0) this
        simp only [getD_set _ _ _ _ hpl, if_true] at h5
        unfold sealL
        rw [List.getD_eq_getElem?_getD, List.getElem?_append_left hpl, ← List.getD_eq_getElem?_getD]
        exact h5
    · rw [set_take_lt _ _ _ _ (by omega), seal_take] at h
      have h5 := congrArg (fun x => x.getD p 0) h
      simp only [getD_set _ _ _ _ (show p < (sealL l).length by omega), if_true] at h5
      exact h5.symm
  · intro h
    have : (sealL l).set p z = sealL l := by
      apply ext_getD (by rw [List.length_set])
      intro j hj
      rw [List.length_set] at hj
      rw [getD_set _ _ _ _ (by omega)]
      by_cases e : p = j
      · rw [if_pos e, h, e]
      · rw [if_neg e]
    rw [this, seal_take]

set_option maxHeartbeats 2000000 in
theorem keeps_walk (W : World) (A : Option Addr) (c : Nat) (l : List Int) (_hlc : l.length ≤ c) (hC : CB W A l.length l) (hg : ∀ x ∈ l, (Lit.int .u8 x).wf = true)
    (a : Int) (ha : (Lit.int .u16 a).wf = true) (y : Int) (hy : (Lit.int .u8 y).wf = true) :
    Calls Try.prog 13 #[.slice A l.length c, .int .u16 a, .int .u8 y] W (Holds W) := by
  have hab := bounds_u16 ha
  have hyb := bounds_u8 hy
  have HC := Aside0.mk hC
  have HB := Aside0.mk (Bytes.of_wf hg)
  clear hC hg ha hy
  by_cases h5 : 500 < l.length
  · go_enter Try.func13, Try.ntmps13
    go_wp2_with fail
    refine (awake_calls _).mono ?_
    rintro e w1 ⟨rfl, h1⟩
    have H1 := Aside0.mk h1
    clear h1
    go_wp2_with fail
    refine (awake_calls _).mono ?_
    rintro e w2 ⟨rfl, h2⟩
    have H2 := Aside0.mk (H1.out.trans (h2.mono H1.out.size))
    clear h2
    go_wp2_with fail
    go_ret
    exact ⟨rfl, H2.out⟩
  · have hR := right_seal l HB.out
    have hk1 : 0 ≤ a := hab.1
    obtain ⟨k, hk⟩ : ∃ k : Nat, a % ((l.length : Int) + 4) = k := ⟨(a % ((l.length : Int) + 4)).toNat, by have := Int.emod_nonneg a (show (l.length : Int) + 4 ≠ 0 by omega); omega⟩
    have hkl : k < l.length + 4 := by have := Int.emod_lt_of_pos a (show 0 < (l.length : Int) + 4 by omega); omega
    have HK := Aside0.mk (keeps l HB.out k hkl y hyb)
    go_enter Try.func13, Try.ntmps13
    go_wp2_with fail
    refine (awake_calls _).mono ?_
    rintro e w1 ⟨rfl, h1⟩
    have HC1 := Aside0.mk (Kd.C_below HC.out h1)
    have H1 := Aside0.mk h1
    clear h1
    go_wp2_with (first | ((with_reducible refine gate_dst (N := 17) rfl ?_); refine lit0_u8 rfl 17 rfl rfl H1.out H1.out.size ?_; intro v3 w3 h6 h7 h8; have H6 := Aside0.mk h6; have H7 := Aside0.mk h7; clear h6 h7) | ((with_reducible refine gate_dst (N := 19) rfl ?_); refine apps_u8 rfl (.tmp 17) (.tmp 18) rfl v3 [] A l c rfl rfl H6.out (Kd.C_below HC.out H7.out) H7.out h8 (by simp; omega) ?_; intro v4 w4 h9 h10 h11; rw [List.nil_append] at h9; obtain ⟨A4, c4, e4, hc4, hr4⟩ := RB.reads h9; subst e4; have HR4 := Aside0.mk hr4; have H10 := Aside0.mk h10; clear h9 h10 hr4))
    have HC4 := Aside0.mk (Kd.C_below HC.out H10.out)
    clear H6 H7 HC1
    refine (seal_calls _ _ _ _ _ HC4.out HB.out (by omega)).mono ?_
    rintro e w5 ⟨v5, rfl, h5r, h5b⟩
    obtain ⟨g5, c5, e5, hg5, hg5', _⟩ := RB.form h5r (by rw [seal_length]; omega)
    subst e5
    rw [seal_length] at h5r
    have H5 := Aside0.mk h5r
    have HC5 := Aside0.mk (Kd.C_below HC4.out h5b)
    have HR5 := Aside0.mk (Kd.C_below HR4.out h5b)
    have HW5 := Aside0.mk (H10.out.trans (h5b.mono H10.out.size))
    have HS5 := Aside0.mk ((Kd.R_reads' h5r).2.2)
    rw [seal_length] at HS5
    have HF5 := Aside0.mk h5b
    have hcc5 : l.length + 4 ≤ c5 := (Kd.R_reads' h5r).2.1
    clear h5r h5b
    rw [seal_length]
    go_wp2_with fail
    refine (right_calls _ _ _ _ _ HS5.out hcc5 (seal_bytes HB.out) (by rw [seal_length]; omega)).mono ?_
    rintro e w6 ⟨rfl, rfl⟩
    have HT5 := Aside0.mk (CB.take HS5.out (m := l.length) (by omega))
    rw [seal_take] at HT5
    have H5' : RB w5 w4.heap.size (.slice (some ⟨g5, 0, none⟩) (sealL l).length c5) (sealL l) := by rw [seal_length]; exact H5.out
    have hkl' : k < (sealL l).length := by rw [seal_length]; exact hkl
    obtain ⟨hx, hxf⟩ := RB.cell H5' k hkl'
    have hzb := (seal_bytes HB.out).getD k
    have HS6 := Aside0.mk (RB.set H5' k (xor8 ((sealL l).getD k 0) y))
    have hK := HK.out
    obtain ⟨z, hz⟩ : ∃ z, z = (sealL l).getD k 0 := ⟨_, rfl⟩
    rw [← hz] at hx hzb HS6 hK
    obtain ⟨q, hq⟩ : ∃ q, q = xor8 z y := ⟨_, rfl⟩
    have HQ := Aside0.mk hq
    have HZ := Aside0.mk hz
    have hqb : 0 ≤ q ∧ q ≤ 255 := by rw [hq]; exact xor8_bound _ _
    clear H5' hz
    go_wp2_with fail
    refine (same_calls _ _ _ _ _ _ _ _ _ HT5.out HC5.out).mono ?_
    rintro e w6 ⟨rfl, ⟨n6, rfl⟩⟩
    go_wp2_with fail
    have HX6 : Aside0 (RB ((w5.drewN n6).setCell ⟨g5, k, none⟩ (.int .u8 (Go.bits .xor .u8 z y))) w4.heap.size (.slice (some ⟨g5, 0, none⟩) (sealL l).length c5) ((sealL l).set k q)) := ⟨by rw [hq]; exact HS6.out⟩
    have HB6 := Aside0.mk ((pw_below_drewN HF5.out n6).setCell (p := ⟨g5, k, none⟩) hg5 (.int .u8 (Go.bits .xor .u8 z y)))
    generalize (w5.drewN n6).setCell ⟨g5, k, none⟩ (.int .u8 (Go.bits .xor .u8 z y)) = w7 at *
    have HC7 := Aside0.mk (Kd.C_below HC4.out HB6.out)
    have HR7 := Aside0.mk (Kd.C_below HR4.out HB6.out)
    have HS7 := Aside0.mk ((Kd.R_reads' HX6.out).2.2)
    rw [List.length_set, seal_length] at HS7
    have hb7 : Bytes ((sealL l).set k q) := by
      intro u hu
      rcases List.mem_or_eq_of_mem_set hu with h | h
      · exact seal_bytes HB.out u h
      · rw [h]; exact hqb
    refine (right_calls _ _ _ _ _ HS7.out hcc5 hb7 (by rw [List.length_set, seal_length]; omega)).mono ?_
    rintro e w8 ⟨rfl, rfl⟩
    rw [hq, hK]
    clear hb7
    go_wp2_with fail
    refine (same_calls _ _ _ _ _ _ _ _ _ HC7.out HR7.out).mono ?_
    rintro e w8 ⟨rfl, ⟨n8, rfl⟩⟩
    go_wp2_with fail
    go_ret
    exact ⟨by simp, pw_below_drewN ((H10.out.trans (HB6.out.mono H10.out.size))) n8⟩
end Go.Proofs.Ytbeodbelmnaeoaa.CrcLaws
