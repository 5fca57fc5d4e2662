/- The walks of layer 17's document's answers: in, Read, Last, Size. -/
import Derived.Test.YtipbgldfomejpaaSnapEq
namespace Go.Proofs.Ytipbgldfomejpaa.Snap
set_option linter.unusedSimpArgs false
set_option linter.unusedVariables false
open Go.RowKit Go.Proofs.YtipbgldfomejpaaW.PrintWords Go.Proofs.YtipbgldfomejpaaW.PrintLast Go.Proofs.YtipbgldfomejpaaW.PrintMore Arr

theorem inL_found {l : List Old} {b : Int} {k : Nat} (hk : k < l.length) (h0 : inL (l.take k) b = none) (h1 : (og l k).blk = b) : inL l b = some (og l k) := by
  have e : l = l.take k ++ og l k :: l.drop (k + 1) := by
    rw [show og l k :: l.drop (k + 1) = l.drop k by
      rw [List.drop_eq_getElem_cons hk]; congr 1; unfold og; rw [List.getD_eq_getElem?_getD, List.getElem?_eq_getElem hk]; rfl]
    exact (List.take_append_drop k l).symm
  have h2 : inL (l.take k ++ og l k :: l.drop (k + 1)) b = some (og l k) := by
    unfold inL at h0 ⊢
    rw [List.find?_append, h0]
    simp [h1]
  rw [← e] at h2
  exact h2
theorem inL_next {l : List Old} {b : Int} {k : Nat} (hk : k < l.length) (h0 : inL (l.take k) b = none) (h1 : ¬ (og l k).blk = b) : inL (l.take (k + 1)) b = none := by
  rw [take_og l k hk, inL_snoc, h0, if_neg h1]; rfl
def IEnd (w : World) (l : List Old) (b : Int) (e : Ending) (w' : World) : Prop := e = .returned (.tuple #[.agg (oldC ((inL l b).getD old0)).toArray, .bool (inL l b).isSome]) ∧ ((inL l b).getD old0).data.length = 32 ∧ Below w.heap.size w w'
set_option maxRecDepth 10000 in
set_option maxHeartbeats 4000000 in
theorem rin_calls (w : World) (A : Option Addr) (c : Nat) (l : List Old) (hC : CO w A l.length l) (b : Int) : Calls Try.prog 34 #[.slice A l.length c, .int .i64 b] w (IEnd w l b) := by
  have HC := Aside0.mk hC
  have HK := Aside0.mk (Keeps.refl w)
  have hm := Kd.C_max hC
  clear hC
  go_enter Try.func34, Try.ntmps34
  go_upto_region 1 with (first | ((with_reducible refine gate_dst (N := 4) rfl ?_); refine alloc29 rfl rfl ?_; intro w1 rg h6 h7 h8; have HK1 := Aside0.mk (HK.out.new h8 h7); clear h7 h8))
  have hrw := h6
  have HC1 := Aside0.mk (Kd.C_below HC.out HK1.out.below)
  clear HC HK
  go_wp2_with fail
  go_loop [6] (fun i => ∃ k : Nat, k ≤ l.length ∧ i = .int .i64 k ∧ Aside0 (inL (l.take k) b = none)) (fun i => l.length - (intOf i).toNat)
  case atStart => exact ⟨0, by omega, rfl, ⟨rfl⟩⟩
  case round =>
    obtain ⟨k, hk, rfl, HN⟩ := hrel
    by_cases hlt : k < l.length
    · have hd : decide ((k : Int) < l.length) = true := by simp; omega
      obtain ⟨ad, hA, hcx, hxl⟩ := at29 HC1.out k hlt
      subst hA
      have HCX := Aside0.mk hcx
      have hc0 : w1.cell? (ad.add (k * 34)) = some (.int .i64 (og l k).blk) := hcx 0 _ rfl
      clear hcx
      by_cases hb : (og l k).blk = b
      · have HF := Aside0.mk (inL_found hlt HN.out hb)
        have hd2 : ((og l k).blk == b) = true := by simp; exact hb
        obtain ⟨x, hx⟩ : ∃ x, x = og l k := ⟨_, rfl⟩
        rw [← hx] at HF hc0 hd2 HCX hxl
        clear hx hb
        go_wp2_with (first | ((with_reducible refine gate_dst (N := 23) rfl ?_); refine load29 rfl (.tmp 22) rfl (ad.add (k * 34)) rfl x hxl HCX.out ?_) | (refine store29 rfl rfl (.tmp 4) (.tmp 23) rfl rg rfl x hxl rfl (M := old0) rfl HK1.out.head ?_; intro w5 h21 h22 h23; have HK5 := Aside0.mk (HK1.out.put h22 hrw (by simp) h21); clear h21 h22 h23))
        refine bodyPost_ret (results_ct rfl _ _ rg 29 _ (0, 0) _ rfl HK5.out.head Try.underlying29 rfl (by rw [List.size_toArray, oldC_len x hxl]; exact size29)) rfl ?_
        unfold IEnd
        rw [HF.out]
        exact ⟨rfl, hxl, HK5.out.below⟩
      · have hd2 : ((og l k).blk == b) = false := by simp; exact hb
        have HN' := Aside0.mk (inL_next hlt HN.out hb)
        go_wp2_with fail
        go_round
        case rel => exact ⟨k + 1, by omega, by go_num, HN'⟩
        case measure => simp [intOf]; omega
    · obtain rfl : k = l.length := by omega
      have hd : decide ((l.length : Int) < l.length) = false := by simp
      rw [List.take_length] at HN
      go_wp2_with (first | (refine store29 rfl rfl (.tmp 4) (.tmp 24) rfl rg rfl old0 rfl rfl (M := old0) rfl HK1.out.head ?_; intro w5 h21 h22 h23; have HK5 := Aside0.mk (HK1.out.put h22 hrw (by simp) h21); clear h21 h22 h23))
      refine bodyPost_ret (results_ct rfl _ _ rg 29 _ (0, 0) _ rfl HK5.out.head Try.underlying29 rfl (by rw [List.size_toArray, oldC_len old0 rfl]; exact size29)) rfl ?_
      unfold IEnd
      rw [HN.out]
      exact ⟨rfl, rfl, HK5.out.below⟩
/-! ### The document -/
structure AllAt (w : World) (A : Option Addr) (all : All) : Prop where
  max : all.length ≤ 9223372036854775807
  elem : ∀ i, i < all.length → ∃ ad Ao co, A = some ad ∧ w.cell? (ad.add i) = some (.slice Ao (al all i).length co) ∧ (al all i).length ≤ co ∧ CO w Ao (al all i).length (al all i)
theorem AllAt.below {w w1 : World} {A : Option Addr} {all : All} (h : AllAt w A all) (hb : Below w.heap.size w w1) : AllAt w1 A all := ⟨h.max, fun i hi => by
  obtain ⟨ad, Ao, co, h1, h2, h3, h4⟩ := h.elem i hi
  exact ⟨ad, Ao, co, h1, bel_cell hb h2, h3, Kd.C_below h4 hb⟩⟩
def docV (A : Option Addr) (n c : Nat) (gone : Int) : List Value := [.slice A n c, .int .i64 gone]
def DEnd (w : World) (all : All) (gone : Nat) (b n : Int) (e : Ending) (w' : World) : Prop := ∃ o ok, e = .returned (.tuple #[.agg (oldC o).toArray, .bool ok]) ∧ RefIs all gone b n o ok ∧ o.data.length = 32 ∧ Below w.heap.size w w'
section
variable {ops : Array Oper} {rest : List Oper} {o : Oper} {a : Go.Act} {Q : Exit → Go.Act → World → Prop} {W : World}
theorem box45 (hgd : o.guard = none) (x : Operand) (ho : o.op = .box 45 x) (A : Option Addr) (n c : Nat) (G : Int) (hx : a.eval x = .agg #[.slice A n c, .int .i64 G])
    (h : ∀ w1 g, W.heap.size ≤ g → Blk w1 g 45 (docV A n c G) → W.grownBy w1 none → wpList Try.prog ops Q rest (a.put o.dst (.pointer (some ⟨g, 0, none⟩))) w1) : wpList Try.prog ops Q (o :: rest) a W :=
  wpl_box hgd 45 x ho _ hx (docV A n c G) rfl h
end
set_option maxRecDepth 10000 in
set_option maxHeartbeats 4000000 in
theorem rread_calls (w : World) (A : Option Addr) (c : Nat) (all : All) (gone : Nat) (hA : AllAt w A all) (b n : Int) : Calls Try.prog 20 #[.agg (docV A all.length c gone).toArray, .int .i64 b, .int .i64 n] w (DEnd w all gone b n) := by
  have HA0 := Aside0.mk hA
  have hm := hA.max
  have HK := Aside0.mk (Keeps.refl w)
  clear hA
  show Calls Try.prog 20 #[.agg #[.slice A all.length c, .int .i64 gone], .int .i64 b, .int .i64 n] w _
  obtain ⟨G, hG⟩ : ∃ G, G = (gone : Int) := ⟨_, rfl⟩
  have HG := Aside0.mk hG
  rw [← hG]
  clear hG
  go_enter Try.func20, Try.ntmps20
  go_upto_region 1 with (first | ((with_reducible refine gate_dst (N := 3) rfl ?_); refine box45 rfl (.tmp 0) rfl A all.length c G rfl ?_; intro w1 dg h1 h2 h3; have HK1 := Aside0.mk (HK.out.new h3 h2); clear h2 h3) | ((with_reducible refine gate_dst (N := 6) rfl ?_); refine alloc29 rfl rfl ?_; intro w2 rg h6 h7 h8; have HK2 := Aside0.mk (HK1.out.new h8 h7); have hdr := ((by have := HK1.out.head.lt; omega) : dg ≠ rg); clear h7 h8))
  have hrw := Nat.le_trans HK1.out.size h6
  clear HK HK1
  go_wp2_with fail
  go_loopw [8] (fun i wr => ∃ k : Nat, k ≤ all.length ∧ i = .int .i64 k ∧ Aside0 (∀ j : Nat, j < k → ¬ ((inL (al all j) b).isSome = true ∧ n ≤ (j : Int) ∧ gone ≤ j)) ∧ Aside0 (Keeps w [(rg, 29, oldC old0), (dg, 45, docV A all.length c G)] wr)) (fun i _ => all.length - (intOf i).toNat)
  case atStart => exact ⟨0, by omega, rfl, ⟨fun j hj => absurd hj (Nat.not_lt_zero _)⟩, HK2⟩
  case round =>
    clear HK2
    obtain ⟨k, hk, rfl, HN, HK2⟩ := hrel
    have e0 : wr.cell? ⟨dg, 0, none⟩ = some (.slice A all.length c) := HK2.out.tail.head.cell rfl
    by_cases hlt : k < all.length
    · have hd : decide ((k : Int) < all.length) = true := by simp; omega
      have HA1 := Aside0.mk (HA0.out.below HK2.out.below)
      obtain ⟨ad, Ao, co, hAe, hc0, hl, hCO⟩ := HA1.out.elem k hlt
      subst hAe
      have HCL := Aside0.mk (rin_calls wr Ao co (al all k) hCO b)
      have HAL := Aside0.mk (al_at all k hlt)
      obtain ⟨v, hv⟩ : ∃ v, v = inL (al all k) b := ⟨_, rfl⟩
      have HV := Aside0.mk hv
      obtain ⟨q, hq⟩ : ∃ q, q = (al all k).length := ⟨_, rfl⟩
      unfold IEnd at HCL
      rw [← hq, ← hv] at HCL
      rw [← hq] at hc0
      obtain ⟨x, hx⟩ : ∃ x, x = v.getD old0 := ⟨_, rfl⟩
      obtain ⟨y, hy⟩ : ∃ y, y = v.isSome := ⟨_, rfl⟩
      rw [← hx, ← hy] at HCL
      have HX := Aside0.mk hx
      have HY := Aside0.mk hy
      clear hCO hv hq hx hy hl
      go_upto_region 5 with (first | (go_at_call 34; refine HCL.out.mono ?_; rintro e w3 ⟨rfl, hxl, hB⟩; have HK3 := Aside0.mk (HK2.out.step hB); clear hB) | ((with_reducible refine gate_dst (N := 9) rfl ?_); refine alloc29 rfl rfl ?_; intro w4 yg h11 h12 h13; have H4 := Aside0.mk h12; have HK4 := Aside0.mk (HK3.out.fresh h13); have hyr := ((by have := HK3.out.head.lt; omega) : rg ≠ yg); have hyd := ((by have := HK3.out.tail.head.lt; omega) : dg ≠ yg); have hyw := Nat.le_trans HK3.out.size h11; clear h12 h13) | (refine store29 rfl rfl (.tmp 9) (.tmp 26) rfl yg rfl x hxl rfl (M := old0) rfl H4.out ?_; intro w5 h14 h15 h16; have H5 := Aside0.mk h14; have HK5 := Aside0.mk (HK4.out.grown h15 hyw (by simp; exact ⟨hyr, hyd⟩)); clear h14 h15 h16))
      have e1 : w5.cell? ⟨dg, 1, none⟩ = some (.int .i64 G) := HK5.out.tail.head.cell rfl
      by_cases hc : y = true ∧ n ≤ (k : Int) ∧ G ≤ (k : Int)
      · obtain ⟨hy, d1, d2⟩ := hc
        have HSO := Aside0.mk (show inL (al all k) b = some x by
          rw [← HV.out]
          have h1 := HY.out
          have h2 := HX.out
          rw [hy] at h1
          cases v with
          | none => cases h1
          | some z => rw [h2]; rfl)
        have h1 : decide (n ≤ (k : Int)) = true := by simp; exact d1
        have h2 : decide (G ≤ (k : Int)) = true := by simp; exact d2
        subst hy
        go_wp2_with (first | ((with_reducible refine gate_dst (N := 40) rfl ?_); refine loadB29 rfl (.tmp 9) rfl yg rfl x hxl H5.out ?_) | (refine store29 rfl rfl (.tmp 6) (.tmp 40) rfl rg rfl x hxl rfl (M := old0) rfl HK5.out.head ?_; intro w6 h21 h22 h23; have HK6 := Aside0.mk (HK5.out.put h22 hrw (by simp; exact hdr) h21); clear h21 h22 h23))
        refine bodyPost_ret (results_ct rfl _ _ rg 29 _ (0, 0) _ rfl HK6.out.head Try.underlying29 rfl (by rw [List.size_toArray, oldC_len x hxl]; exact size29)) rfl ?_
        exact ⟨x, true, rfl, .inl ⟨rfl, k, hlt, d1, by have := HG.out; omega, HSO.out, HN.out⟩, hxl, HK6.out.below⟩
      · have HN' := Aside0.mk (show ∀ j : Nat, j < k + 1 → ¬ ((inL (al all j) b).isSome = true ∧ n ≤ (j : Int) ∧ gone ≤ j) from fun j hj hh => by
          by_cases e : j = k
          · subst e
            refine hc ⟨by rw [HY.out, HV.out]; exact hh.1, hh.2.1, by have := HG.out; have := hh.2.2; omega⟩
          · exact HN.out j (by omega) hh)
        cases y with
        | false =>
          go_wp2_with fail
          go_roundw
          case rel => exact ⟨k + 1, by omega, by go_num, HN', HK5⟩
          case measure => simp [intOf]; omega
        | true =>
          by_cases d1 : n ≤ (k : Int)
          · have h1 : decide (n ≤ (k : Int)) = true := by simp; exact d1
            have h2 : decide (G ≤ (k : Int)) = false := by have hn : ¬ G ≤ (k : Int) := fun h => hc ⟨rfl, d1, h⟩; simp; omega
            go_wp2_with fail
            go_roundw
            case rel => exact ⟨k + 1, by omega, by go_num, HN', HK5⟩
            case measure => simp [intOf]; omega
          · have h1 : decide (n ≤ (k : Int)) = false := by simp; omega
            go_wp2_with fail
            go_roundw
            case rel => exact ⟨k + 1, by omega, by go_num, HN', HK5⟩
            case measure => simp [intOf]; omega
    · obtain rfl : k = all.length := by omega
      have hd : decide ((all.length : Int) < all.length) = false := by simp
      go_wp2_with (first | (refine store29 rfl rfl (.tmp 6) (.tmp 41) rfl rg rfl old0 rfl rfl (M := old0) rfl HK2.out.head ?_; intro w5 h21 h22 h23; have HK5 := Aside0.mk (HK2.out.put h22 hrw (by simp; exact hdr) h21); clear h21 h22 h23))
      refine bodyPost_ret (results_ct rfl _ _ rg 29 _ (0, 0) _ rfl HK5.out.head Try.underlying29 rfl (by rw [List.size_toArray, oldC_len old0 rfl]; exact size29)) rfl ?_
      exact ⟨old0, false, rfl, .inr ⟨rfl, rfl, HN.out⟩, rfl, HK5.out.below⟩
end Go.Proofs.Ytipbgldfomejpaa.Snap
