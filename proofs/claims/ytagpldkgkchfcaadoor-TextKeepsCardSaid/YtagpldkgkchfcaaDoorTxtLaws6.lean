/- Layer 25's laws: TextJoin. -/
import Derived.Test.YtagpldkgkchfcaaDoorTxtLaws5
namespace Go.Proofs.YtagpldkgkchfcaaDoor.Txt
set_option linter.unusedSimpArgs false
set_option linter.unusedVariables false
open Go.RowKit Go.Proofs.YtagpldkgkchfcaaDoorW.PrintWords Go.Proofs.YtagpldkgkchfcaaDoorW.PrintLast Go.Proofs.YtagpldkgkchfcaaDoorW.PrintMore Arr PTextPrints

/-! ### steps whose kept numbers stand elsewhere, in an elder world -/
def kF (W0 : World) : Kd Step := Kd.fixed k41 W0
abbrev RF (W0 W : World) (B : Nat) (v : Value) (l : List Step) : Prop := Kd.R (kF W0) 41 W B (fun _ => True) v l
theorem CF_of {W0 W : World} {A : Option Addr} {n : Nat} {l : List Step} (h : k41.C W0 A n l) (hb : Below W0.heap.size W0 W) : ReadsRow (k41.K W0) k41.sz W A n l := ReadsRow.imp_ h hb (fun _ _ hp => hp)
theorem C_of {W0 W : World} {A : Option Addr} {n : Nat} {l : List Step} (h : (kF W0).C W A n l) (hb : Below W0.heap.size W0 W) : k41.C W A n l := ReadsRow.imp_ h (Below.refl _ _) (fun _ _ hp => k41.K_below hb hp)
section
variable {ops : Array Oper} {rest : List Oper} {o : Oper} {a : Go.Act} {Q : Exit → Go.Act → World → Prop} {w0 W W0 : World} {B : Nat}
theorem lit0F (hgd : o.guard = none) (N : Tmp) (hd : o.dst = some N) (ho : o.op = .buildSlice 23 0 #[]) (HB : Below B w0 W) (hb : B ≤ W.heap.size)
    (h : ∀ v1 w1, RF W0 w1 B v1 [] → Below B w0 w1 → wpList Tryd.prog ops Q rest (a.put o.dst v1) w1) : wpList Tryd.prog ops Q (o :: rest) a W :=
  Kd.R_lit (kF W0) B 41 hgd hd (xs := ([] : List Step)) (inner := []) (ok := fun _ => True) (okp := fun _ => True) (by simp only [execOp, ho]; kernel_rfl) (Reps.none _ _) (fun _ h => h) trivial HB hb (by simp)
    fun v1 w1 h1 h2 h3 _ => h v1 w1 h1 h2
theorem app_rowF (hgd : o.guard = none) (s x : Operand) (ho : o.op = .call { callee := .builtin .append, args := #[s, x], argTypes := #[23, 23] })
    (v : Value) (l ys : List Step) (A : Option Addr) (m c : Nat) (hs : a.eval s = v) (hx : a.eval x = .slice A m c) (HO : RF W0 W B v l) (HR : ReadsRow (k41.K W0) k41.sz W A m ys) (HB : Below B w0 W) (hb : B ≤ W.heap.size) (hl : l.length + m ≤ 1000000)
    (h : ∀ v1 w1, RF W0 w1 B v1 (l ++ ys) → Below B w0 w1 → wpList Tryd.prog ops Q rest (a.put o.dst v1) w1) : wpList Tryd.prog ops Q (o :: rest) a W :=
  Kd.R_append_rows (kF W0) (Rr := k41.K W0) (w0 := w0) B hgd s x 23 41 (.agg (stepC step0 (.slice none 0 0)).toArray) 128 ho Tryd.underlying23 info41 (show _ = k41.sz by rw [k41_sz]; rfl) (show 0 < k41.sz by rw [k41_sz]; decide) (by decide) v l ys A m c (fun _ => True) (fun _ => False) hs hx HO HR
    (fun _ _ h => h) (fun _ hk => hk.elim) (fun _ _ => trivial) HB hb (by omega)
    fun v1 w1 h1 h2 _ _ => h v1 w1 h1 h2
end
theorem join_parse {a b : List Step} {x y : Bs} (ha : ∀ q ∈ a, Good q) (hb : ∀ q ∈ b, Good q) (hx : refPrint a = some x) (hy : refPrint b = some y) : parseOf (x ++ y) = .ok (a ++ b) ∧ printOf (a ++ b) = x ++ y := by
  have hg : ∀ q ∈ a ++ b, good q := fun q hq => by
    rcases List.mem_append.1 hq with hq | hq
    · exact (ha q hq).good
    · exact (hb q hq).good
  have hp := refPrint_append a b hx hy
  exact ⟨parse_iff.2 ⟨hp, hg⟩, print_ref _ _ hg hp⟩
set_option maxRecDepth 10000 in
set_option maxHeartbeats 1500000 in
theorem law_join (w : World) (hE : Env w) (A : Option Addr) (c : Nat) (l : List Step) (hC : k41.C w A l.length l) (hg : ∀ x ∈ l, Good x) (hfw : l.length ≤ 281474976710656) (hkw : ∀ x ∈ l, x.keep.length ≤ 281474976710656)
    (B : Option Addr) (d : Nat) (m : List Step) (hD : k41.C w B m.length m) (hgm : ∀ x ∈ m, Good x) (hfm : m.length ≤ 281474976710656) (hkm : ∀ x ∈ m, x.keep.length ≤ 281474976710656) :
    Calls Tryd.prog 9 #[.slice A l.length c, .slice B m.length d] w fun e w' => e = .returned (.bool true) ∧ Below w.heap.size w w' := by
  have HK := Aside0.mk (Keeps.refl w)
  have HE := Aside0.mk hE
  have HAW := Aside0.mk (fun W hW => awake_calls W (hE.below hW))
  have HFA := Aside0.mk (fun W hW => few_calls W A c l (Kd.C_below hC hW) hfw hkw)
  have HFB := Aside0.mk (fun W hW => few_calls W B d m (Kd.C_below hD hW) hfm hkm)
  by_cases hfa : fewB l = true
  · by_cases hfb : fewB m = true
    · have HSA := Aside0.mk (few_steps hC hg hfa)
      have HSB := Aside0.mk (few_steps hD hgm hfb)
      have HA1 := Aside0.mk hfa
      have HB1 := Aside0.mk hfb
      rcases hra : refPrint l with _ | x
      · have HRA := Aside0.mk hra
        clear hra hfa hfb hC hg hfw hkw hD hgm hfm hkm hE
        go_enter Tryd.func9, Tryd.ntmps9
        go_wp2_with (first | (go_at_call 10; refine (HAW.out _ HK.out.below).mono ?_; rintro e w1 ⟨rfl, hbb⟩; have HK1 := Aside0.mk (HK.out.step hbb); clear hbb) | (go_at_call 15; first | (refine (HFB.out _ HK2.out.below).mono ?_; rintro e w3 ⟨rfl, hbb⟩; rw [HB1.out]; have HK3 := Aside0.mk (HK2.out.step hbb); clear hbb) | (refine (HFA.out _ HK1.out.below).mono ?_; rintro e w2 ⟨rfl, hbb⟩; rw [HA1.out]; have HK2 := Aside0.mk (HK1.out.step hbb); clear hbb)) | (go_at_call 12; first | (refine (rprint_calls _ B d m (HSB.out.below HK4.out.below).rsteps).mono ?_; unfold RPrintEnd; rintro e w5 ⟨s5, rfl, _, hbb⟩; have HK5 := Aside0.mk (HK4.out.step hbb); clear hbb) | (refine (rprint_calls _ A c l (HSA.out.below HK3.out.below).rsteps).mono ?_; unfold RPrintEnd; rw [HRA.out]; rintro e w4 ⟨s4, rfl, _, hbb⟩; have HK4 := Aside0.mk (HK3.out.step hbb); clear hbb)))
        go_ret
        exact ⟨rfl, HK5.out.below⟩
      · rcases hrb : refPrint m with _ | y
        · have HRA := Aside0.mk hra
          have HRB := Aside0.mk hrb
          clear hra hrb hfa hfb hC hg hfw hkw hD hgm hfm hkm hE
          go_enter Tryd.func9, Tryd.ntmps9
          go_wp2_with (first | (go_at_call 10; refine (HAW.out _ HK.out.below).mono ?_; rintro e w1 ⟨rfl, hbb⟩; have HK1 := Aside0.mk (HK.out.step hbb); clear hbb) | (go_at_call 15; first | (refine (HFB.out _ HK2.out.below).mono ?_; rintro e w3 ⟨rfl, hbb⟩; rw [HB1.out]; have HK3 := Aside0.mk (HK2.out.step hbb); clear hbb) | (refine (HFA.out _ HK1.out.below).mono ?_; rintro e w2 ⟨rfl, hbb⟩; rw [HA1.out]; have HK2 := Aside0.mk (HK1.out.step hbb); clear hbb)) | (go_at_call 12; first | (refine (rprint_calls _ B d m (HSB.out.below HK4.out.below).rsteps).mono ?_; unfold RPrintEnd; rw [HRB.out]; rintro e w5 ⟨s5, rfl, _, hbb⟩; have HK5 := Aside0.mk (HK4.out.step hbb); clear hbb) | (refine (rprint_calls _ A c l (HSA.out.below HK3.out.below).rsteps).mono ?_; unfold RPrintEnd; rw [HRA.out]; rintro e w4 ⟨s4, rfl, _, hbb⟩; have HK4 := Aside0.mk (HK3.out.step hbb); clear hbb)))
          go_ret
          exact ⟨rfl, HK5.out.below⟩
        · have HRA := Aside0.mk hra
          have HRB := Aside0.mk hrb
          obtain ⟨hjp, hjt⟩ := join_parse hg hgm hra hrb
          have hla := HSA.out.few
          have hlb := HSB.out.few
          have hpa := print_len_take HSA.out l.length
          have hpb := print_len_take HSB.out m.length
          rw [List.take_length] at hpa hpb
          rw [print_ref l x (fun x hx => (hg x hx).good) hra] at hpa
          rw [print_ref m y (fun x hx => (hgm x hx).good) hrb] at hpb
          have HGG := Aside0.mk (show ∀ q ∈ l ++ m, Good q from fun q hq => by
            rcases List.mem_append.1 hq with hq | hq
            · exact hg q hq
            · exact hgm q hq)
          have HKP := Aside0.mk (show ∀ q ∈ l ++ m, q.keep.length ≤ 400 from fun q hq => by
            rcases List.mem_append.1 hq with hq | hq
            · exact HSA.out.keep q hq
            · exact HSB.out.keep q hq)
          have hfl : l.length ≤ 400 := by have := hfa; unfold fewB at this; rw [decide_eq_true_eq] at this; omega
          have hfl2 : m.length ≤ 400 := by have := hfb; unfold fewB at this; rw [decide_eq_true_eq] at this; omega
          obtain ⟨L, hL⟩ : ∃ L, L = l ++ m := ⟨_, rfl⟩
          have hlm : L.length ≤ 800 := by rw [hL, List.length_append]; omega
          rw [← hL] at HGG HKP hjp hjt
          have HL := Aside0.mk hL
          obtain ⟨S, hS⟩ : ∃ S, S = str x ++ str y := ⟨_, rfl⟩
          have hSd : S = str (x ++ y) := by rw [hS]; unfold str; apply ByteArray.ext; simp
          have HSZ := Aside0.mk (show S.size ≤ 2147483648 by rw [hSd, Lib.size_eq, str_data, List.length_append]; omega)
          have HPO := Aside0.mk (show parseOf S.data.toList = .ok L by rw [hSd, str_data]; exact hjp)
          have HPT := Aside0.mk (show str (printOf L) = S by rw [hjt, hSd])
          have HS := Aside0.mk hS
          obtain ⟨X, hX⟩ : ∃ X, X = str x := ⟨_, rfl⟩
          obtain ⟨Y, hY⟩ : ∃ Y, Y = str y := ⟨_, rfl⟩
          rw [← hX, ← hY] at HS
          have hsum : X.size + Y.size ≤ 2147483648 := by have := HSZ.out; rw [HS.out, ByteArray.size_append] at this; exact this
          have hq1 : (S.toList == (X ++ Y).toList) = true := by rw [HS.out]; simp
          have hq2 : S.toList = (X ++ Y).toList := by rw [HS.out]
          have HX := Aside0.mk hX
          have HY := Aside0.mk hY
          have HCA := Aside0.mk hC
          have HCB := Aside0.mk hD
          clear hra hrb hfa hfb hC hg hfw hkw hD hgm hfm hkm hE hjp hjt hpa hpb hS hSd hX hY hL
          go_enter Tryd.func9, Tryd.ntmps9
          go_upto_region 8 with (first | (go_at_call 10; refine (HAW.out _ HK.out.below).mono ?_; rintro e w1 ⟨rfl, hbb⟩; have HK1 := Aside0.mk (HK.out.step hbb); clear hbb) | (go_at_call 15; first | (refine (HFB.out _ HK2.out.below).mono ?_; rintro e w3 ⟨rfl, hbb⟩; rw [HB1.out]; have HK3 := Aside0.mk (HK2.out.step hbb); clear hbb) | (refine (HFA.out _ HK1.out.below).mono ?_; rintro e w2 ⟨rfl, hbb⟩; rw [HA1.out]; have HK2 := Aside0.mk (HK1.out.step hbb); clear hbb)) | (go_at_call 12; first | (refine (rprint_calls _ B d m (HSB.out.below HK4.out.below).rsteps).mono ?_; unfold RPrintEnd; rw [HRB.out]; rintro e w5 ⟨s5, rfl, h5, hbb⟩; obtain rfl : s5 = Y := (by rw [HY.out]; exact h5 _ rfl); have HK5 := Aside0.mk (HK4.out.step hbb); clear hbb h5) | (refine (rprint_calls _ A c l (HSA.out.below HK3.out.below).rsteps).mono ?_; unfold RPrintEnd; rw [HRA.out]; rintro e w4 ⟨s4, rfl, h4, hbb⟩; obtain rfl : s4 = X := (by rw [HX.out]; exact h4 _ rfl); have HK4 := Aside0.mk (HK3.out.step hbb); clear hbb h4)) | ((with_reducible refine gate_dst (N := 42) rfl ?_); refine lit0F (W0 := w) (w0 := w) (B := w.heap.size) rfl _ rfl rfl HK5.out.below HK5.out.size ?_; intro v6 w6 h1 h2; have HR6 := Aside0.mk h1; have HB6 := Aside0.mk h2; clear h1 h2) | ((with_reducible refine gate_dst (N := 44) rfl ?_); refine app_rowF (W0 := w) (w0 := w) (B := w.heap.size) rfl (.tmp 42) (.tmp 43) rfl v6 [] l _ _ _ rfl rfl HR6.out (CF_of HCA.out HB6.out) HB6.out HB6.out.size (by simp; omega) ?_; intro v7 w7 h1 h2; have HR7 := Aside0.mk (show RF w w7 w.heap.size v7 l from h1); have HB7 := Aside0.mk h2; clear h1 h2) | ((with_reducible refine gate_dst (N := 46) rfl ?_); refine app_rowF (W0 := w) (w0 := w) (B := w.heap.size) rfl (.tmp 44) (.tmp 45) rfl v7 l m _ _ _ rfl rfl HR7.out (CF_of HCB.out HB7.out) HB7.out HB7.out.size (by omega) ?_; intro v8 w8 h1 h2; rw [← HL.out] at h1; obtain ⟨A8, c8, rfl, hc8, hC8⟩ := Kd.R_reads h1; have HC8 := Aside0.mk (C_of hC8 h2); have HK8 := Aside0.mk (show Keeps w [] w8 from ⟨h2, fun _ h => by cases h⟩); clear h1 h2 hC8))
          go_wp2_with (first | (go_at_call 11; rw [← HS.out]; refine (parse_calls _ (HE.out.keeps HK8.out) S HSZ.out).mono ?_; unfold ParseEnd; rw [HPO.out]; rintro e w9 ⟨v, rfl, hv, hgv, hbb⟩; obtain ⟨A9, c9, rfl, hc9, hC9⟩ := Kd.R_reads hv; have HK9 := Aside0.mk (HK8.out.step hbb); have HCP := Aside0.mk hC9; have HC9 := Aside0.mk (Kd.C_below HC8.out hbb); clear hbb hv hgv hC9) | (go_at_call 18; refine (print_calls _ (HE.out.keeps HK9.out) A8 c8 L ⟨HC9.out, HGG.out, hlm, HKP.out⟩).mono ?_; unfold PrintEnd; rw [HPT.out]; rintro e w10 ⟨rfl, hbb⟩; have HK10 := Aside0.mk (HK9.out.step hbb); have HCP2 := Aside0.mk (Kd.C_below HCP.out hbb); have HC10 := Aside0.mk (Kd.C_below HC9.out hbb); clear hbb) | (go_at_call 14; refine (rsame_calls _ A9 A8 c9 c8 L L ⟨HCP2.out, HGG.out, by omega, fun x hx => by have := HKP.out x hx; omega⟩ ⟨HC10.out, HGG.out, by omega, fun x hx => by have := HKP.out x hx; omega⟩).mono ?_; rintro e w11 ⟨rfl, hbb⟩; rw [show decide (L = L) = true from decide_eq_true rfl]; have HK11 := Aside0.mk (HK10.out.step hbb); clear hbb))
          go_ret
          exact ⟨by simp [HS.out], HK11.out.below⟩
    · have HA1 := Aside0.mk hfa
      have HB1 := Aside0.mk (show fewB m = false by simpa using hfb)
      clear hfa hfb hC hg hfw hkw hD hgm hfm hkm hE
      go_enter Tryd.func9, Tryd.ntmps9
      go_wp2_with (first | (go_at_call 10; first | (refine (HAW.out _ HK3.out.below).mono ?_; rintro e w4 ⟨rfl, hbb⟩; have HK4 := Aside0.mk (HK3.out.step hbb); clear hbb) | (refine (HAW.out _ HK.out.below).mono ?_; rintro e w1 ⟨rfl, hbb⟩; have HK1 := Aside0.mk (HK.out.step hbb); clear hbb)) | (go_at_call 15; first | (refine (HFB.out _ HK2.out.below).mono ?_; rintro e w3 ⟨rfl, hbb⟩; rw [HB1.out]; have HK3 := Aside0.mk (HK2.out.step hbb); clear hbb) | (refine (HFA.out _ HK1.out.below).mono ?_; rintro e w2 ⟨rfl, hbb⟩; rw [HA1.out]; have HK2 := Aside0.mk (HK1.out.step hbb); clear hbb)))
      go_ret
      exact ⟨rfl, HK4.out.below⟩
  · have HA1 := Aside0.mk (show fewB l = false by simpa using hfa)
    clear hfa hC hg hfw hkw hD hgm hfm hkm hE
    go_enter Tryd.func9, Tryd.ntmps9
    go_wp2_with (first | (go_at_call 10; first | (refine (HAW.out _ HK2.out.below).mono ?_; rintro e w3 ⟨rfl, hbb⟩; have HK3 := Aside0.mk (HK2.out.step hbb); clear hbb) | (refine (HAW.out _ HK.out.below).mono ?_; rintro e w1 ⟨rfl, hbb⟩; have HK1 := Aside0.mk (HK.out.step hbb); clear hbb)) | (go_at_call 15; refine (HFA.out _ HK1.out.below).mono ?_; rintro e w2 ⟨rfl, hbb⟩; rw [HA1.out]; have HK2 := Aside0.mk (HK1.out.step hbb); clear hbb))
    go_ret
    exact ⟨rfl, HK3.out.below⟩
theorem row_join (w : World) (hE : Env w) (A : Option Addr) (c : Nat) (l : List Step) (hlc : l.length ≤ c) (hC : k41.C w A l.length l) (hg : l.length * Tryd.prog.bytesOf 41 ≤ reachBytes ∧ ∀ x ∈ l, gStep x)
    (B : Option Addr) (d : Nat) (m : List Step) (hmd : m.length ≤ d) (hD : k41.C w B m.length m) (hgm : m.length * Tryd.prog.bytesOf 41 ≤ reachBytes ∧ ∀ x ∈ m, gStep x) : Calls Tryd.prog 9 #[.slice A l.length c, .slice B m.length d] w fun e w' => e = .returned (.bool true) ∧ Below w.heap.size w w' := by
  obtain ⟨h1, h2, h3⟩ := args_good hC hg
  obtain ⟨g1, g2, g3⟩ := args_good hD hgm
  exact law_join w hE A c l hC h1 h2 h3 B d m hD g1 g2 g3
end Go.Proofs.YtagpldkgkchfcaaDoor.Txt
