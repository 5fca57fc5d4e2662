/- The walks of layer 2's statements: CrcTears. -/
import Derived.Test.YtbeodbelmnaeoaaCrcLaws2
import Derived.Test.YtbeodbelmnaeoaaArr
namespace Go.Proofs.Ytbeodbelmnaeoaa.CrcLaws
open Go.RowKit Go.Proofs.YtbeodbelmnaeoaaW.PrintWords Go.Proofs.YtbeodbelmnaeoaaW.PrintLast Go.Proofs.YtbeodbelmnaeoaaW.PrintMore PlainWord CrcPlain CrcMem CrcWalks CrcRef Arr

/-- A text with i bytes laid from k on. -/
def layW (l : List Int) (k : Nat) (x : List Int) (i : Nat) : List Int := (List.range l.length).map fun j => if k ≤ j ∧ j < k + i then x.getD (j - k) 0 else l.getD j 0
theorem layW_length (l : List Int) (k : Nat) (x : List Int) (i : Nat) : (layW l k x i).length = l.length := by simp [layW]
theorem layW_getD (l : List Int) (k : Nat) (x : List Int) (i j : Nat) (h : j < l.length) : (layW l k x i).getD j 0 = if k ≤ j ∧ j < k + i then x.getD (j - k) 0 else l.getD j 0 := getD_range _ _ _ h
theorem layW_zero (l : List Int) (k : Nat) (x : List Int) : layW l k x 0 = l := by
  apply ext_getD (layW_length _ _ _ _)
  intro j hj
  rw [layW_length] at hj
  rw [layW_getD _ _ _ _ _ hj, if_neg (by omega)]
theorem layW_succ (l : List Int) (k : Nat) (x : List Int) (i : Nat) (h : k + i < l.length) : (layW l k x i).set (k + i) (x.getD i 0) = layW l k x (i + 1) := by
  apply ext_getD (by simp [layW_length])
  intro j hj
  rw [List.length_set, layW_length] at hj
  rw [getD_set _ _ _ _ (by rw [layW_length]; exact h), layW_getD _ _ _ _ _ hj, layW_getD _ _ _ _ _ hj]
  by_cases e : k + i = j
  · rw [if_pos e, if_pos (by omega)]; congr 1; omega
  · rw [if_neg e]
    by_cases h1 : k ≤ j ∧ j < k + i
    · rw [if_pos h1, if_pos (by omega)]
    · rw [if_neg h1, if_neg (by omega)]
theorem layW_bytes {l : List Int} (h : Bytes l) (k : Nat) {x : List Int} (hx : Bytes x) (i : Nat) : Bytes (layW l k x i) := by
  intro y hy
  simp only [layW, List.mem_map] at hy
  obtain ⟨j, _, rfl⟩ := hy
  split
  · exact hx.getD _
  · exact h.getD _
theorem layW_tears (l : List Int) (k : Nat) (x : List Int) (hk : k + 4 ≤ l.length) (hl : Bytes l) (hx : Bytes x) : (iv (sum l) == iv (sum (layW l k x 4))) = decide (l = layW l k x 4) := by
  have h := tears l (layW l k x 4) k hk (layW_length _ _ _ _).symm hl (layW_bytes hl k hx 4) (fun i hi => by
    by_cases hil : i < l.length
    · rw [layW_getD _ _ _ _ _ hil, if_neg (by omega)]
    · rw [List.getD_eq_getElem?_getD, List.getD_eq_getElem?_getD, List.getElem?_eq_none (by omega), List.getElem?_eq_none (by rw [layW_length]; omega)])
  rw [Bool.eq_iff_iff, beq_iff_eq, decide_eq_true_eq, iv_eq, h]
theorem RB.form {w : World} {B : Nat} {v : Value} {l : List Int} (h : RB w B v l) (hl : 0 < l.length) : ∃ g cap, v = .slice (some ⟨g, 0, none⟩) l.length cap ∧ B ≤ g ∧ g < w.heap.size ∧ ∃ cells, w.heap[g]? = some (.cells cells 5 (0, 0)) := Kd.R_form h hl
theorem RB.cell {w : World} {B g cap : Nat} {l : List Int} (h : RB w B (.slice (some ⟨g, 0, none⟩) l.length cap) l) (i : Nat) (hi : i < l.length) : w.cell? ⟨g, i, none⟩ = some (.int .u8 (l.getD i 0)) ∧ w.frozen? ⟨g, i, none⟩ = false := by
  have := Kd.R_cell (0 : Int) h (i : Int) (by omega) (by omega)
  simpa [rdOf] using this
theorem RB.set {w : World} {B g cap : Nat} {l : List Int} (h : RB w B (.slice (some ⟨g, 0, none⟩) l.length cap) l) (i : Nat) (x : Int) : RB (w.setCell ⟨g, i, none⟩ (.int .u8 x)) B (.slice (some ⟨g, 0, none⟩) l.length cap) (l.set i x) := by
  have := (Kd.R_put h (i : Int) x).1
  rw [Int.toNat_natCast] at this
  exact this
theorem C_far {w : World} {A : Option Addr} {n : Nat} {l : List Int} (h : CB w A n l) {B : Nat} {w0 : World} (_ : Below B w0 w) : CB w A n l := h
set_option maxHeartbeats 2000000 in
theorem tears_walk (W : World) (A : Option Addr) (c : Nat) (l : List Int) (_hlc : l.length ≤ c) (hC : CB W A l.length l) (hg : ∀ x ∈ l, (Lit.int .u8 x).wf = true)
    (a : Int) (ha : (Lit.int .u16 a).wf = true) (x : List Int) (cs : Array Value) (hK : (Dec.ints .u8 4).K W x cs.toList) (hx : ∀ y ∈ x, (Lit.int .u8 y).wf = true) :
    Calls Try.prog 12 #[.slice A l.length c, .int .u16 a, .agg cs] W (Holds W) := by
  have hm0 := Kd.C_max hC
  have hab := bounds_u16 ha
  obtain ⟨hxl, hcs⟩ := hK
  obtain rfl : cs = (encs (Value.int .u8) x).toArray := by cases cs; simp at hcs; rw [hcs]; rfl
  have HX := Aside0.mk (Bytes.of_wf hx)
  have HXL := Aside0.mk hxl
  have HC := Aside0.mk hC
  have HB := Aside0.mk (Bytes.of_wf hg)
  have HW := Aside0.mk (Below.refl W.heap.size W)
  clear hcs hxl hx hC hg ha
  by_cases hs : 4 ≤ l.length ∧ l.length ≤ 500
  · obtain ⟨h4, h5⟩ := hs
    go_enter Try.func12, Try.ntmps12
    go_wp2_with ((with_reducible refine gate_dst (N := 5) rfl ?_); refine wpl_box rfl 43 (.tmp 2) rfl _ rfl (encs (Value.int .u8) x) rfl ?_; intro w1 g h1 h2 h3; have H1 := Aside0.mk h1; have H2 := Aside0.mk h2; have H3 := Aside0.mk (below_new HW.out HW.out.size h3); clear h1 h2 h3)
    refine (awake_calls _).mono ?_
    rintro e w2 ⟨rfl, h4'⟩
    have H4 := Aside0.mk (H2.out.below' h4')
    have H5 := Aside0.mk (H3.out.trans (h4'.mono H3.out.size))
    clear h4' H2 H3
    have hk1 : 0 ≤ a := hab.1
    have hk2 : 1 ≤ (l.length : Int) - 3 := by omega
    obtain ⟨k, hk⟩ : ∃ k : Nat, a % ((l.length : Int) - 3) = k := ⟨(a % ((l.length : Int) - 3)).toNat, by have := Int.emod_nonneg a (show (l.length : Int) - 3 ≠ 0 by omega); omega⟩
    have hkl : k + 4 ≤ l.length := by have := Int.emod_lt_of_pos a (show 0 < (l.length : Int) - 3 by omega); omega
    have HE := Aside0.mk (layW_tears l k x hkl HB.out HX.out)
    have HR0 := Aside0.mk (Below.refl w2.heap.size w2)
    have HC2 := Aside0.mk (Kd.C_below HC.out H5.out)
    go_wp2_with (first | ((with_reducible refine gate_dst (N := 29) rfl ?_); refine lit0_u8 rfl 29 rfl rfl HR0.out (Nat.le_refl _) ?_; intro v3 w3 h6 h7 h8; have H6 := Aside0.mk h6; have H7 := Aside0.mk h7; clear h6 h7) | ((with_reducible refine gate_dst (N := 31) rfl ?_); refine apps_u8 rfl (.tmp 29) (.tmp 30) rfl v3 [] A l c rfl rfl H6.out (Kd.C_below HC2.out H7.out) H7.out h8 (by simp; omega) ?_; intro v4 w4 h9 h10 h11; rw [List.nil_append] at h9; obtain ⟨g4, c4, e4, hg4, hg4', _⟩ := RB.form h9 (by omega); subst e4; have H9 := Aside0.mk h9; have H10 := Aside0.mk h10; clear h9 h10))
    have hgw : g < w2.heap.size := H4.out.lt
    clear H6 H7 HW
    go_loopw [9] (fun i wr => ∃ j : Nat, j ≤ 4 ∧ i = .int .i64 j ∧ Aside0 (RB wr w2.heap.size (.slice (some ⟨g4, 0, none⟩) l.length c4) (layW l k x j)) ∧ Aside0 (Below w2.heap.size w2 wr)) (fun i _ => 4 - (intOf i).toNat)
    case atStart => exact ⟨0, by omega, rfl, ⟨by rw [layW_zero]; exact H9.out⟩, H10⟩
    case round =>
      clear H9 H10
      obtain ⟨j, hj, rfl, HO, HW⟩ := hrel
      have hll := layW_length l k x j
      have HLL := Aside0.mk hll
      clear hll
      by_cases hlt : j < 4
      · have hx := (H4.out.below HW.out hgw).encAt (0 : Int) j (by have := HXL.out; omega)
        have HOO := Aside0.mk (show RB wr w2.heap.size (.slice (some ⟨g4, 0, none⟩) (layW l k x j).length c4) (layW l k x j) from by rw [HLL.out]; exact HO.out)
        obtain ⟨hc1, hf1⟩ := RB.cell HOO.out (k + j) (by rw [HLL.out]; omega)
        have HS := Aside0.mk (RB.set HOO.out (k + j) (x.getD j 0))
        rw [layW_succ l k x j (by omega), HLL.out] at HS
        obtain ⟨y, hy⟩ : ∃ y, y = x.getD j 0 := ⟨_, rfl⟩
        rw [← hy] at hx HS
        clear hy
        go_wp2_with fail
        go_roundw
        case rel => exact ⟨j + 1, by omega, by go_num, HS, ⟨HW.out.setCell hg4 _⟩⟩
        case measure => simp [intOf]; omega
      · obtain rfl : j = 4 := by omega
        have HCC := Aside0.mk (Kd.C_below HC2.out HW.out)
        have HOO := Aside0.mk ((Kd.R_reads' HO.out).2.2)
        rw [HLL.out] at HOO
        go_wp2_with fail
        refine (sum_calls _ _ _ _ _ HCC.out HB.out).mono ?_
        rintro e w5 ⟨rfl, rfl⟩
        go_wp2_with fail
        refine (sum_calls _ _ _ _ _ HOO.out (layW_bytes HB.out k HX.out 4)).mono ?_
        rintro e w5 ⟨rfl, rfl⟩
        have hE := HE.out
        go_wp2_with fail
        refine (same_calls _ _ _ _ _ _ _ _ _ HCC.out HOO.out).mono ?_
        rintro e w5 ⟨rfl, ⟨n5, rfl⟩⟩
        go_wp2_with fail
        go_ret
        exact ⟨by simp, pw_below_drewN (H5.out.trans (HW.out.mono H5.out.size)) n5⟩
  · by_cases h4 : l.length < 4
    · go_enter Try.func12, Try.ntmps12
      go_wp2_with ((with_reducible refine gate_dst (N := 5) rfl ?_); refine wpl_box rfl 43 (.tmp 2) rfl _ rfl (encs (Value.int .u8) x) rfl ?_; intro w1 g h1 h2 h3; have H1 := Aside0.mk h1; have H2 := Aside0.mk h2; have H3 := Aside0.mk (below_new HW.out HW.out.size h3); clear h1 h2 h3)
      refine (awake_calls _).mono ?_
      rintro e w2 ⟨rfl, h4'⟩
      have H5 := Aside0.mk (H3.out.trans (h4'.mono H3.out.size))
      clear h4' H2 H3
      go_wp2_with fail
      refine (awake_calls _).mono ?_
      rintro e w3 ⟨rfl, h6⟩
      have H6 := Aside0.mk (H5.out.trans (h6.mono H5.out.size))
      clear h6
      go_wp2_with fail
      go_ret
      exact ⟨rfl, H6.out⟩
    · have h5 : 500 < l.length := by omega
      clear hs
      go_enter Try.func12, Try.ntmps12
      go_wp2_with ((with_reducible refine gate_dst (N := 5) rfl ?_); refine wpl_box rfl 43 (.tmp 2) rfl _ rfl (encs (Value.int .u8) x) rfl ?_; intro w1 g h1 h2 h3; have H1 := Aside0.mk h1; have H2 := Aside0.mk h2; have H3 := Aside0.mk (below_new HW.out HW.out.size h3); clear h1 h2 h3)
      refine (awake_calls _).mono ?_
      rintro e w2 ⟨rfl, h4'⟩
      have H5 := Aside0.mk (H3.out.trans (h4'.mono H3.out.size))
      clear h4' H2 H3
      go_wp2_with fail
      refine (awake_calls _).mono ?_
      rintro e w3 ⟨rfl, h6⟩
      have H6 := Aside0.mk (H5.out.trans (h6.mono H5.out.size))
      clear h6
      go_wp2_with fail
      go_ret
      exact ⟨rfl, H6.out⟩
end Go.Proofs.Ytbeodbelmnaeoaa.CrcLaws
