/- The walks of layer 17: what is read. -/
import Derived.Test.YtipbgldfomejpaaSnapWalks
namespace Go.Proofs.Ytipbgldfomejpaa.Snap
set_option linter.unusedSimpArgs false
set_option linter.unusedVariables false
open Go.RowKit Go.Proofs.YtipbgldfomejpaaW.PrintWords Go.Proofs.YtipbgldfomejpaaW.PrintLast Go.Proofs.YtipbgldfomejpaaW.PrintMore Arr

set_option maxHeartbeats 1000000 in
theorem now_calls (w : World) (s ob lb m : Nat) (now : Int) (L : Cont) (f : Int → Int) (hS : SnapAt w s ob lb now L f m) : Calls Try.prog 16 #[.pointer (some ⟨s, 0, none⟩)] w fun e w' => e = .returned (.int .i64 now) ∧ w = w' := by
  have h0 := hS.c0
  clear hS
  go_enter Try.func16, Try.ntmps16
  go_wp2_with fail
  go_ret
  exact ⟨rfl, rfl⟩
set_option maxHeartbeats 1000000 in
theorem last_calls (w : World) (s ob lb m : Nat) (now : Int) (L : Cont) (f : Int → Int) (hS : SnapAt w s ob lb now L f m) (b : Int) (hb : (Lit.int .i64 b).wf = true) : Calls Try.prog 21 #[.pointer (some ⟨s, 0, none⟩), .int .i64 b] w fun e w' => e = .returned (.int .i64 (f b)) ∧ w = w' := by
  have h2 := hS.c2
  have hlk := hS.last.look hb
  clear hS hb
  go_enter Try.func21, Try.ntmps21
  go_wp2_with fail
  go_ret
  exact ⟨rfl, rfl⟩
set_option maxHeartbeats 1000000 in
theorem size_calls (w : World) (s ob lb m : Nat) (now : Int) (L : Cont) (f : Int → Int) (hS : SnapAt w s ob lb now L f m) : Calls Try.prog 23 #[.pointer (some ⟨s, 0, none⟩)] w fun e w' => e = .returned (.int .i64 L.length) ∧ w = w' := by
  have h1 := hS.c1
  have hln := hS.old.len 3
  clear hS
  go_enter Try.func23, Try.ntmps23
  go_wp2_with fail
  go_ret
  exact ⟨rfl, rfl⟩
/-- What a reading answers. -/
def REnd (w : World) (now : Int) (L : Cont) (f : Int → Int) (b n : Int) (e : Ending) (w' : World) : Prop := ∃ o ok, e = .returned (.tuple #[.agg (oldC o).toArray, .bool ok]) ∧ ReadIs now L f b n o ok ∧ o.data.length = 32 ∧ Below w.heap.size w w'
attribute [local go_sem] max2_int max_two
set_option maxRecDepth 10000 in
set_option maxHeartbeats 4000000 in
theorem read_calls (w : World) (s ob lb m : Nat) (now : Int) (L : Cont) (f : Int → Int) (hS : SnapAt w s ob lb now L f m) (b n : Int) (hb : (Lit.int .i64 b).wf = true) (hn : (Lit.int .i64 n).wf = true) (hn0 : 0 ≤ now) (hn1 : now ≤ 100000) (hf : f b ≤ now) :
    Calls Try.prog 15 #[.pointer (some ⟨s, 0, none⟩), .int .i64 b, .int .i64 n] w (REnd w now L f b n) := by
  have HS := Aside0.mk hS
  have HB := Aside0.mk hb
  have hnb := bounds_i64 hn
  have HK := Aside0.mk (Keeps.refl w)
  clear hS hb hn
  go_enter Try.func15, Try.ntmps15
  by_cases hge : now ≤ n
  · have hd : decide (now ≤ n) = true := by simp; omega
    have h0 := HS.out.c0
    go_upto_region 1 with (first | ((with_reducible refine gate_dst (N := 6) rfl ?_); refine alloc29 rfl rfl ?_; intro w1 rg h6 h7 h8; have HK1 := Aside0.mk (HK.out.new h8 h7); have HS1 := Aside0.mk (HS.out.fresh h8); clear h7 h8))
    clear h0
    have h0 := HS1.out.c0
    have hrw := h6
    go_wp2_with (first | (refine store29 rfl rfl (.tmp 6) (.tmp 17) rfl rg rfl old0 rfl rfl (M := old0) rfl HK1.out.head ?_; intro w2 h21 h22 h23; have HK2 := Aside0.mk (HK1.out.put h22 hrw (by simp) h21); clear h21 h22 h23))
    refine bodyPost_ret (results_ct rfl _ _ rg 29 _ (0, 0) _ rfl HK2.out.head Try.underlying29 rfl (by rw [List.size_toArray, oldC_len old0 rfl]; exact size29)) rfl ?_
    exact ⟨old0, false, rfl, .inr ⟨rfl, rfl, .inl hge⟩, rfl, HK2.out.below⟩
  · have hd : decide (now ≤ n) = false := by simp; omega
    have h0 := HS.out.c0
    obtain ⟨n0, hn0e⟩ : ∃ n0, n0 = max n 0 := ⟨_, rfl⟩
    have hmx : (if n < 0 then 0 else n) = n0 := by rw [hn0e]; omega
    have hnn : 0 ≤ n0 ∧ n0 ≤ now := by omega
    have HN0 := Aside0.mk hn0e
    clear hn0e
    go_upto_region 3 with (first | ((with_reducible refine gate_dst (N := 6) rfl ?_); refine alloc29 rfl rfl ?_; intro w1 rg h6 h7 h8; have HK1 := Aside0.mk (HK.out.new h8 h7); have HS1 := Aside0.mk (HS.out.fresh h8); clear h7 h8; have h0 := HS1.out.c0))
    have hrw := h6
    go_wp2_with fail
    clear h0 hmx
    go_loopw [8] (fun i wr => ∃ j : Int, i = .int .i64 j ∧ n0 < j ∧ j ≤ now + 1 ∧ Aside0 (∀ x, n0 < x → x < j → fnd L (b, x) = none) ∧ Aside0 (Keeps w [(rg, 29, oldC old0)] wr) ∧ Aside0 (SnapAt wr s ob lb now L f m)) (fun i _ => (now + 1 - intOf i).toNat)
    case atStart => exact ⟨n0 + 1, rfl, by omega, by omega, ⟨fun x h1 h2 => by omega⟩, HK1, HS1⟩
    case round =>
      clear HK1 HS1
      obtain ⟨j, rfl, hj0, hj1, HNO, HK1, HS1⟩ := hrel
      have h1 := HS1.out.c1
      have h2 := HS1.out.c2
      have hlk := HS1.out.last.look HB.out
      obtain ⟨fb, hfb⟩ : ∃ fb, fb = f b := ⟨_, rfl⟩
      have HFB := Aside0.mk hfb
      rw [← hfb] at hlk hf
      clear hfb
      by_cases hle : j ≤ fb
      · have hd2 : decide (j ≤ fb) = true := by simp; omega
        have HJW := Aside0.mk (wf_i64 (x := j) (by omega))
        rcases hfk : fnd L (b, j) with _ | ov
        · have HNF := Aside0.mk hfk
          clear hfk
          go_wp2_with (first | ((with_reducible refine gate_dst (N := 39) rfl ?_); refine wpl_look71 rfl (.tmp 35) (.tmp 38) rfl b j rfl rfl HB.out HJW.out HS1.out.old old0 false (by rw [HNF.out]; rfl) (by rw [HNF.out]; rfl) ?_) | ((with_reducible refine gate_dst (N := 9) rfl ?_); refine alloc29 rfl rfl ?_; intro w3 yg h11 h12 h13; have H3 := Aside0.mk h12; have HK3 := Aside0.mk (HK1.out.fresh h13); have HS3 := Aside0.mk (HS1.out.fresh h13); have hyr := ((by have := HK1.out.head.lt; omega) : rg ≠ yg); have hyw := Nat.le_trans HK1.out.size h11; clear h12 h13) | (refine store29 rfl rfl (.tmp 9) (.tmp 40) rfl yg rfl old0 rfl rfl (M := old0) rfl H3.out ?_; intro w4 h14 h15 h16; have HK4 := Aside0.mk (HK3.out.grown h15 hyw (by simpa using hyr)); have HS4 := Aside0.mk (HS3.out.grown h15 (by simpa using HS3.out.blk.ne H3.out (by decide)) (by simpa using HS3.out.old.ne_blk H3.out) (by simpa using HS3.out.last.ne_blk H3.out)); clear h14 h15 h16))
          go_roundw
          case rel => exact ⟨j + 1, by go_num, by omega, by omega, ⟨fun x h1 h2 => by by_cases e : x = j; exact e ▸ HNF.out; exact HNO.out x h1 (by omega)⟩, HK4, HS4⟩
          case measure => simp [intOf]; omega
        · have HNF := Aside0.mk hfk
          have HOV := Aside0.mk (HS1.out.old.good hfk)
          clear hfk
          go_wp2_with (first | ((with_reducible refine gate_dst (N := 39) rfl ?_); refine wpl_look71 rfl (.tmp 35) (.tmp 38) rfl b j rfl rfl HB.out HJW.out HS1.out.old ov true (by rw [HNF.out]; rfl) (by rw [HNF.out]; rfl) ?_) | ((with_reducible refine gate_dst (N := 9) rfl ?_); refine alloc29 rfl rfl ?_; intro w3 yg h11 h12 h13; have H3 := Aside0.mk h12; have HK3 := Aside0.mk (HK1.out.fresh h13); have HS3 := Aside0.mk (HS1.out.fresh h13); have hyr := ((by have := HK1.out.head.lt; omega) : rg ≠ yg); have hyw := Nat.le_trans HK1.out.size h11; clear h12 h13) | (refine store29 rfl rfl (.tmp 9) (.tmp 40) rfl yg rfl ov HOV.out rfl (M := old0) rfl H3.out ?_; intro w4 h14 h15 h16; have H4 := Aside0.mk h14; have HK4 := Aside0.mk (HK3.out.grown h15 hyw (by simpa using hyr)); clear h14 h15 h16) | ((with_reducible refine gate_dst (N := 43) rfl ?_); refine loadB29 rfl (.tmp 9) rfl yg rfl ov HOV.out H4.out ?_) | (refine store29 rfl rfl (.tmp 6) (.tmp 43) rfl rg rfl ov HOV.out rfl (M := old0) rfl HK4.out.head ?_; intro w5 h21 h22 h23; have HK5 := Aside0.mk (HK4.out.put h22 hrw (by simp) h21); clear h21 h22 h23))
          refine bodyPost_ret (results_ct rfl _ _ rg 29 _ (0, 0) _ rfl HK5.out.head Try.underlying29 rfl (by rw [List.size_toArray, oldC_len ov HOV.out]; exact size29)) rfl ?_
          exact ⟨ov, true, rfl, .inl ⟨rfl, by omega, j, by rw [← HN0.out]; exact hj0, by rw [← HFB.out]; exact hle, HNF.out, fun x h1 h2 => HNO.out x (by rw [HN0.out]; exact h1) h2⟩, HOV.out, HK5.out.below⟩
      · have hd2 : decide (j ≤ fb) = false := by simp; omega
        go_wp2_with (first | (refine store29 rfl rfl (.tmp 6) (.tmp 44) rfl rg rfl old0 rfl rfl (M := old0) rfl HK1.out.head ?_; intro w5 h21 h22 h23; have HK5 := Aside0.mk (HK1.out.put h22 hrw (by simp) h21); clear h21 h22 h23))
        refine bodyPost_ret (results_ct rfl _ _ rg 29 _ (0, 0) _ rfl HK5.out.head Try.underlying29 rfl (by rw [List.size_toArray, oldC_len old0 rfl]; exact size29)) rfl ?_
        exact ⟨old0, false, rfl, .inr ⟨rfl, rfl, .inr fun x h1 h2 => HNO.out x (by rw [HN0.out]; exact h1) (by rw [← HFB.out] at h2; omega)⟩, rfl, HK5.out.below⟩
end Go.Proofs.Ytipbgldfomejpaa.Snap
