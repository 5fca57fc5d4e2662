/- The walks of layer 17's document's answers: Last, Size. -/
import Derived.Test.YtipbgldfomejpaaSnapRWalks
namespace Go.Proofs.Ytipbgldfomejpaa.Snap
set_option linter.unusedSimpArgs false
set_option linter.unusedVariables false
open Go.RowKit Go.Proofs.YtipbgldfomejpaaW.PrintWords Go.Proofs.YtipbgldfomejpaaW.PrintLast Go.Proofs.YtipbgldfomejpaaW.PrintMore Arr

theorem lastTo_hit {all : All} {b : Int} {k : Nat} (h : (inL (al all k) b).isSome = true) : lastTo all b (k + 1) = (k : Int) + 1 := by
  unfold lastTo; rw [if_pos h]
theorem lastTo_miss {all : All} {b : Int} {k : Nat} (h : ¬ (inL (al all k) b).isSome = true) : lastTo all b (k + 1) = lastTo all b k := by
  show (if (inL (al all k) b).isSome then _ else _) = _
  rw [if_neg h]
set_option maxRecDepth 10000 in
set_option maxHeartbeats 4000000 in
theorem rlast_calls (w : World) (A : Option Addr) (c : Nat) (all : All) (gone : Nat) (hA : AllAt w A all) (b : Int) : Calls Try.prog 22 #[.agg (docV A all.length c gone).toArray, .int .i64 b] w fun e w' => e = .returned (.int .i64 (lastOf all b)) ∧ Below w.heap.size w w' := by
  have HA0 := Aside0.mk hA
  have hm := hA.max
  have HK := Aside0.mk (Keeps.refl w)
  clear hA
  show Calls Try.prog 22 #[.agg #[.slice A all.length c, .int .i64 gone], .int .i64 b] w _
  obtain ⟨G, hG⟩ : ∃ G, G = (gone : Int) := ⟨_, rfl⟩
  rw [← hG]
  clear hG
  go_enter Try.func22, Try.ntmps22
  go_upto_region 1 with (first | ((with_reducible refine gate_dst (N := 2) rfl ?_); refine box45 rfl (.tmp 0) rfl A all.length c G rfl ?_; intro w1 dg h1 h2 h3; have HK2 := Aside0.mk (HK.out.new h3 h2); clear h2 h3))
  clear HK
  have e0 : w1.cell? ⟨dg, 0, none⟩ = some (.slice A all.length c) := HK2.out.head.cell rfl
  go_wp2_with fail
  clear e0
  go_loopw [5] (fun i wr => ∃ k : Nat, k ≤ all.length ∧ i = .int .i64 k ∧ Aside0 (lastOf all b = lastTo all b k) ∧ Aside0 (Keeps w [(dg, 45, docV A all.length c G)] wr)) (fun i _ => (intOf i).toNat)
  case atStart => exact ⟨all.length, Nat.le_refl _, rfl, ⟨rfl⟩, HK2⟩
  case round =>
    clear HK2
    obtain ⟨k, hk, rfl, HN, HK2⟩ := hrel
    rcases k with _ | k
    · have HZ := Aside0.mk (show lastOf all b = 0 from HN.out)
      go_wp2_with fail
      go_ret
      exact ⟨by rw [HZ.out]; rfl, HK2.out.below⟩
    · have e0 : wr.cell? ⟨dg, 0, none⟩ = some (.slice A all.length c) := HK2.out.head.cell rfl
      have hlt : k < all.length := by omega
      have hd : decide (0 < (((k + 1 : Nat) : Nat) : Int)) = true := by simp
      have HA1 := Aside0.mk (HA0.out.below HK2.out.below)
      obtain ⟨ad, Ao, co, hAe, hc0, hl, hCO⟩ := HA1.out.elem k hlt
      subst hAe
      have HCL := Aside0.mk (rin_calls wr Ao co (al all k) hCO b)
      obtain ⟨v, hv⟩ : ∃ v, v = inL (al all k) b := ⟨_, rfl⟩
      have HV := Aside0.mk hv
      obtain ⟨q, hq⟩ : ∃ q, q = (al all k).length := ⟨_, rfl⟩
      unfold IEnd at HCL
      rw [← hq, ← hv] at HCL
      rw [← hq] at hc0
      obtain ⟨x, hx⟩ : ∃ x, x = v.getD old0 := ⟨_, rfl⟩
      obtain ⟨y, hy⟩ : ∃ y, y = v.isSome := ⟨_, rfl⟩
      rw [← hx, ← hy] at HCL
      have HY := Aside0.mk hy
      clear hCO hv hq hx hy hl
      rw [show (((k + 1 : Nat) : Nat) : Int) = (k : Int) + 1 by omega]
      have hd : decide (0 < (k : Int) + 1) = true := by simp <;> omega
      go_upto_region 5 with (first | (go_at_call 34; refine HCL.out.mono ?_; rintro e w3 ⟨rfl, hxl, hB⟩; have HK3 := Aside0.mk (HK2.out.step hB); clear hB) | ((with_reducible refine gate_dst (N := 6) rfl ?_); refine alloc29 rfl rfl ?_; intro w4 yg h11 h12 h13; have H4 := Aside0.mk h12; have HK4 := Aside0.mk (HK3.out.fresh h13); have hyd := ((by have := HK3.out.head.lt; omega) : dg ≠ yg); have hyw := Nat.le_trans HK3.out.size h11; clear h12 h13) | (refine store29 rfl rfl (.tmp 6) (.tmp 24) rfl yg rfl x hxl rfl (M := old0) rfl H4.out ?_; intro w5 h14 h15 h16; have HK5 := Aside0.mk (HK4.out.grown h15 hyw (by simp; exact hyd)); clear h14 h15 h16))
      cases y with
      | true =>
        have HR := Aside0.mk (show lastOf all b = (k : Int) + 1 by rw [HN.out]; exact lastTo_hit (by rw [← HV.out, ← HY.out]))
        go_wp2_with fail
        go_ret
        exact ⟨by rw [HR.out]; rfl, HK5.out.below⟩
      | false =>
        have HR := Aside0.mk (show lastOf all b = lastTo all b k by rw [HN.out]; exact lastTo_miss (by rw [← HV.out, ← HY.out]; simp))
        go_wp2_with fail
        go_roundw
        case rel => exact ⟨k, by omega, by go_num, HR, HK5⟩
        case measure => simp [intOf] <;> omega
end Go.Proofs.Ytipbgldfomejpaa.Snap
