/- Layer 25: the walk of operation. -/
import Derived.Test.YtagpldkgkchfcaaDoorTxtD
namespace Go.Proofs.YtagpldkgkchfcaaDoor.Txt
section
set_option linter.unusedSimpArgs false
set_option linter.unusedVariables false
open Go.RowKit Go.Proofs.YtagpldkgkchfcaaDoorW.PrintWords Go.Proofs.YtagpldkgkchfcaaDoorW.PrintLast Go.Proofs.YtagpldkgkchfcaaDoorW.PrintMore Arr PTextPrints

def opKS (k : Int) (s : Bool) : Op := { op0 with kind := k, sync := s }
section
variable {ops : Array Oper} {rest : List Oper} {o : Oper} {a : Act} {Q : Exit → Act → World → Prop} {w0 W : World} {B : Nat}
theorem build35 (hgd : o.guard = none) (x y : Operand) (ho : o.op = .build 35 #[(0, x), (4, y)]) (k : Int) (s : Bool) (hx : a.eval x = .int .i64 k) (hy : a.eval y = .bool s) (h : wpList Tryd.prog ops Q rest (a.put o.dst (.agg (opC (opKS k s)).toArray)) W) : wpList Tryd.prog ops Q (o :: rest) a W :=
  Kd.event_run hgd (by simp only [execOp, ho, List.map_toArray, List.map_cons, List.map_nil, hx, hy]; kernel_rfl) h
theorem build35z (hgd : o.guard = none) (ho : o.op = .build 35 #[]) (h : wpList Tryd.prog ops Q rest (a.put o.dst (.agg (opC op0).toArray)) W) : wpList Tryd.prog ops Q (o :: rest) a W :=
  Kd.event_run hgd (by simp only [execOp, ho, List.map_toArray, List.map_nil]; kernel_rfl) h
theorem alloc35 (hgd : o.guard = none) (ho : o.op = .alloc 35)
    (h : ∀ w1 g, W.heap.size ≤ g → Blk w1 g 35 (opC op0) → W.grownBy w1 none → wpList Tryd.prog ops Q rest (a.put o.dst (.pointer (some ⟨g, 0, none⟩))) w1) : wpList Tryd.prog ops Q (o :: rest) a W :=
  wpl_alloc hgd 35 ho _ zero35 _ rfl h
theorem loadB35 (hgd : o.guard = none) (p : Operand) (ho : o.op = .load 35 p) (g : Nat) (hp : a.eval p = .pointer (some ⟨g, 0, none⟩)) (f : Op) (hl : f.data.length = 32) (hb : Blk W g 35 (opC f))
    (h : wpList Tryd.prog ops Q rest (a.put o.dst (.agg (opC f).toArray)) W) : wpList Tryd.prog ops Q (o :: rest) a W :=
  wpl_loadAll hgd 35 p ho g hp hb Tryd.underlying35 rfl (by rw [opC_len f hl]; exact size35) h
theorem store35 (hgd : o.guard = none) (hN : o.dst = none) (p x : Operand) (ho : o.op = .store 35 p x) (g : Nat) (hp : a.eval p = .pointer (some ⟨g, 0, none⟩)) (f : Op) (hl : f.data.length = 32) (hx : a.eval x = .agg (opC f).toArray) {m : Op} (hm : m.data.length = 32) (hb : Blk W g 35 (opC m))
    (h : ∀ w1, Blk w1 g 35 (opC f) → W.grownBy w1 (some g) → w1.heap.size = W.heap.size → wpList Tryd.prog ops Q rest a w1) : wpList Tryd.prog ops Q (o :: rest) a W :=
  wpl_storeAll hgd hN 35 p x ho g hp (opC f) hx (by rw [opC_len f hl]; exact size35) (opC_one f) hb (by rw [opC_len f hl, opC_len m hm]) h
theorem storeData (hgd : o.guard = none) (hN : o.dst = none) (p x : Operand) (ho : o.op = .store 33 p x) (g : Nat) (hp : a.eval p = .pointer (some ⟨g, 3, none⟩)) (d : List Int) (hl : d.length = 32) (hx : a.eval x = .agg (encs (Value.int .u8) d).toArray) {m : Op} (hm : m.data.length = 32) (hb : Blk W g 35 (opC m))
    (h : ∀ w1, Blk w1 g 35 (opC { m with data := d }) → W.grownBy w1 (some g) → w1.heap.size = W.heap.size → wpList Tryd.prog ops Q rest a w1) : wpList Tryd.prog ops Q (o :: rest) a W := by
  refine wpl_store hgd hN 33 p x ho g 3 hp (encs (Value.int .u8) d) hx (size33 d hl) (encs_one .u8 d) hb (by rw [opC_len m hm]; simp [encs, hl]) (fun w1 h1 h2 h3 => h w1 ?_ h2 h3)
  have e : (opC m).take 3 ++ encs (Value.int .u8) d ++ (opC m).drop (3 + (encs (Value.int .u8) d).length) = opC { m with data := d } := by
    have hd : (encs (Value.int .u8) d).length = 32 := by simp [encs, hl]
    have hd2 : (encs (Value.int .u8) m.data).length = 32 := by simp [encs, hm]
    rw [hd]
    show [Value.int .i64 m.kind, .int .i64 m.id, .int .i64 m.blk] ++ encs (Value.int .u8) d ++ (encs (Value.int .u8) m.data ++ [Value.bool m.sync, Value.int .i64 m.policy]).drop 32 = _
    rw [List.drop_append_of_le_length (by omega), List.drop_of_length_le (by omega)]
    simp [opC]
  rw [← e]; exact h1
end
theorem set_id (o : Op) (n : Int) : (opC o).set 1 (.int .i64 n) = opC { o with id := n } := rfl
theorem set_blk (o : Op) (n : Int) : (opC o).set 2 (.int .i64 n) = opC { o with blk := n } := rfl
theorem set_policy (o : Op) (n : Int) (h : o.data.length = 32) : (opC o).set 36 (.int .i64 n) = opC { o with policy := n } := by
  unfold opC
  rw [List.set_append_right _ _ (by simp), List.set_append_right _ _ (by simp [encs, h])]
  simp [encs, h]
theorem opOf_none {l : List Bs} (h : ∀ j, j < 13 → ((wd j).name == l.headD [] && l.length == 1 + (wd j).tells.length) = false) : opOf l = none := by
  have : wordList.find? (fun w => w.name == l.headD [] && l.length == 1 + w.tells.length) = none := by
    rw [List.find?_eq_none]
    intro w hw
    obtain ⟨j, hj, rfl⟩ := List.getElem_of_mem hw
    have := h j (by simpa [wordList] using hj)
    unfold wd at this
    rw [List.getD_eq_getElem?_getD, List.getElem?_eq_getElem hj] at this
    simp only [Option.getD_some] at this
    rw [this]; decide
  unfold opOf
  rw [this]
theorem opOf_some {l : List Bs} {k : Nat} (hk : k < 13) (h : ∀ j, j < k → ((wd j).name == l.headD [] && l.length == 1 + (wd j).tells.length) = false) (hm : ((wd k).name == l.headD [] && l.length == 1 + (wd k).tells.length) = true) : opOf l = setTells (wd k).tells l.tail (opKS (wd k).kind (wd k).sync) := by
  have hl : wordList.length = 13 := rfl
  have : wordList.find? (fun w => w.name == l.headD [] && l.length == 1 + w.tells.length) = some (wd k) := by
    rw [List.find?_eq_some_iff_getElem]
    refine ⟨hm, k, by omega, ?_, fun j hj => ?_⟩
    · unfold wd; rw [List.getD_eq_getElem?_getD, List.getElem?_eq_getElem (by omega)]; rfl
    · have := h j hj
      unfold wd at this
      rw [List.getD_eq_getElem?_getD, List.getElem?_eq_getElem (by omega)] at this
      simp only [Option.getD_some] at this
      rw [this]; rfl
  unfold opOf
  rw [this]
  rfl
/-- One more told. -/
theorem set_step {ts : Bs} {fs : List Bs} {m : Nat} (hm : m < ts.length) (hl : fs.length = ts.length) (o : Op) : setTells (ts.drop m) (fs.drop m) o = match setTell o (ts.getD m 0) (fs.getD m []) with
    | none => none
    | some o' => setTells (ts.drop (m + 1)) (fs.drop (m + 1)) o' := by
  rw [List.drop_eq_getElem_cons hm, List.drop_eq_getElem_cons (show m < fs.length by omega), List.getD_eq_getElem?_getD, List.getElem?_eq_getElem hm, List.getD_eq_getElem?_getD, List.getElem?_eq_getElem (show m < fs.length by omega)]
  rfl
theorem good_tell {o o' : Op} {t : UInt8} {f : Bs} (h : GoodOp o) (hs : setTell o t f = some o') : GoodOp o' := by
  have key : ∀ n : Nat, numOf f = some n → -9223372036854775808 ≤ (n : Int) ∧ (n : Int) ≤ 9223372036854775807 := fun n hn => by
    have := ((numOf_iff _ _).1 hn).1
    omega
  unfold setTell at hs
  split at hs
  · obtain ⟨n, hn, rfl⟩ := Option.map_eq_some_iff.1 hs
    exact ⟨h.len, h.byte, key n hn, h.blk, h.policy, h.kind⟩
  · split at hs
    · obtain ⟨n, hn, rfl⟩ := Option.map_eq_some_iff.1 hs
      exact ⟨h.len, h.byte, h.id, key n hn, h.policy, h.kind⟩
    · split at hs
      · obtain ⟨n, hn, rfl⟩ := Option.map_eq_some_iff.1 hs
        exact ⟨h.len, h.byte, h.id, h.blk, key n hn, h.kind⟩
      · obtain ⟨d, hd, rfl⟩ := Option.map_eq_some_iff.1 hs
        obtain ⟨d1, d2, _⟩ := (dataOf_iff _ _).1 hd
        exact ⟨d1, d2, h.id, h.blk, h.policy, h.kind⟩
/-- The pieces of a line, as Split lays them. -/
structure Pieces (w : World) (h : Nat) (l : List Bs) : Prop where
  blk : Blk w h 9 (encs Value.string (sl l))
  len : ∀ f ∈ l, f.length ≤ 281474976710656
  few : l.length ≤ 4294967296
  ne : l ≠ []
theorem Pieces.below {w w1 : World} {h : Nat} {l : List Bs} (p : Pieces w h l) (hb : Below w.heap.size w w1) : Pieces w1 h l := ⟨p.blk.below' hb, p.len, p.few, p.ne⟩
theorem Pieces.cell {w : World} {h : Nat} {l : List Bs} (p : Pieces w h l) (i : Nat) (hi : i < l.length) : w.cell? ⟨h, i, none⟩ = some (.string (str (l.getD i []))) := by
  refine p.blk.cell ?_
  have := encs_get (enc := Value.string) (d := str []) (sl l) i (by simpa [sl] using hi)
  rw [this]
  congr 2
  unfold sl
  rw [List.getD_eq_getElem?_getD, List.getD_eq_getElem?_getD, List.getElem?_map]
  cases l[i]? <;> rfl
theorem cutP (h n j : Nat) (hj : j ≤ n) : ∃ TA : Option Addr, (∀ W, (Instr.slice 69 (.slice (some ⟨h, 0, none⟩) n n) (some (.int .i64 (j : Int))) none none).run Tryd.prog W = .ok (.slice TA (n - j) (n - j)) W) ∧ (j < n → TA = some ⟨h, j, none⟩) := by
  obtain ⟨i, hi, hsz⟩ := Option.map_eq_some_iff.1 (show (Tryd.prog.info? 9).map (·.size) = some 1 by kernel_rfl)
  refine ⟨_, fun W => cut_from (P := Tryd.prog) 69 9 .i64 Tryd.underlying69 hi 1 hsz (some ⟨h, 0, none⟩) n n (j : Int) (by omega) (by omega) W, fun hlt => ?_⟩
  rw [if_neg (by omega)]
  simp only [Option.map_some, Int.toNat_natCast, Nat.mul_one, addr_at, Nat.zero_add]
theorem fs_get (l : List Bs) (m : Nat) : l.tail.getD m [] = l.getD (m + 1) [] := by cases l <;> rfl
theorem keeps3 {w w6 w7 : World} {og wg rg : Nat} {c1 c2 c3 c4 : List Value} (h : Keeps w [(og, 35, c1), (wg, 89, c2), (rg, 35, c3)] w6) (hg : w6.grownBy w7 (some og)) (hB : w.heap.size ≤ og) (hn : og ≠ wg ∧ og ≠ rg) (hb : Blk w7 og 35 c4) : Keeps w [(og, 35, c4), (wg, 89, c2), (rg, 35, c3)] w7 :=
  h.put hg hB (by intro b hb; simp only [List.mem_cons, List.not_mem_nil, or_false] at hb; rcases hb with rfl | rfl; exact hn.1.symm; exact hn.2.symm) hb
theorem keeps3r {w w6 w7 : World} {og wg rg : Nat} {c1 c2 c3 c4 : List Value} (h : Keeps w [(og, 35, c1), (wg, 89, c2), (rg, 35, c3)] w6) (hg : w6.grownBy w7 (some rg)) (hB : w.heap.size ≤ rg) (hn : og ≠ rg ∧ wg ≠ rg) (hb : Blk w7 rg 35 c4) : Keeps w [(rg, 35, c4)] w7 :=
  (h.tail.tail.put hg hB (by simp) hb)
def OpEnd (w : World) (l : List Bs) (e : Ending) (w' : World) : Prop := ∃ o, e = .returned (.tuple #[.agg (opC o).toArray, .bool (opOf l).isSome]) ∧ GoodOp o ∧ (∀ o', opOf l = some o' → o = o') ∧ Below w.heap.size w w'
end
section
set_option linter.unusedSimpArgs false
set_option linter.unusedVariables false
open Go.RowKit Go.Proofs.YtagpldkgkchfcaaDoorW.PrintWords Go.Proofs.YtagpldkgkchfcaaDoorW.PrintLast Go.Proofs.YtagpldkgkchfcaaDoorW.PrintMore Arr PTextPrints

theorem word_kd {k : Nat} (h : k < 13) : -9223372036854775808 ≤ (wd k).kind ∧ (wd k).kind ≤ 9223372036854775807 := by
  have hm := wd_mem h
  simp only [wordList, List.mem_cons, List.not_mem_nil, or_false] at hm
  rcases hm with e | e | e | e | e | e | e | e | e | e | e | e | e <;> rw [e] <;> decide
set_option maxRecDepth 10000 in
set_option maxHeartbeats 4000000 in
theorem op_calls (w : World) (hE : Env w) (h : Nat) (l : List Bs) (hP : Pieces w h l) : Calls Tryd.prog 34 #[.slice (some ⟨h, 0, none⟩) l.length l.length] w (OpEnd w l) := by
  have HK := Aside0.mk (Keeps.refl w)
  have HE := Aside0.mk hE
  have HP := Aside0.mk hP
  have hfew := hP.few
  have hpos : 0 < l.length := List.length_pos_iff.2 hP.ne
  clear hE hP
  go_enter Tryd.func34, Tryd.ntmps34
  go_wp2_with (first | ((with_reducible refine gate_dst (N := 2) rfl ?_); refine alloc35 rfl rfl ?_; intro w1 rg h1 h2 h3; have HK1 := Aside0.mk (HK.out.new h3 h2); have HRG := Aside0.mk h1; clear h1 h2 h3) | (go_at_call 46; refine (text_words.calls _ _ words_eq).mono ?_; rintro e w2 ⟨v0, rfl, hR, hb⟩; have HK2 := Aside0.mk (HK1.out.step hb); have HR := Aside0.mk hR; clear hR hb; obtain ⟨A, c0, rfl, hc13, hC⟩ := Kd.R_reads HR.out; have HC := Aside0.mk (show Kd.C k89 w2 A 13 (wordList.map ws) from hC); clear hC HR))
  go_loopw [5, 6, 7, 8, 9, 12] (fun _ _ _ _ _ i wr => ∃ k : Nat, k ≤ 13 ∧ i = .int .i64 k ∧ Aside0 (∀ j, j < k → ((wd j).name == l.headD [] && l.length == 1 + (wd j).tells.length) = false) ∧ Aside0 (Keeps w [(rg, 35, opC op0)] wr) ∧ Aside0 (Below w2.heap.size w2 wr)) (fun _ _ _ _ _ i _ => 13 - (intOf i).toNat)
  case atStart => exact ⟨0, by omega, rfl, ⟨fun j hj => by omega⟩, HK2, ⟨Below.refl _ _⟩⟩
  case round =>
    obtain ⟨k, hk, rfl, HN, HB, HW⟩ := hrel
    rename World => wr
    by_cases hlt : k < 13
    · obtain ⟨ad, hA, hcx⟩ := at89 (Kd.C_below HC.out HW.out) k hlt
      subst hA
      have HX := Aside0.mk hcx
      have HTL := Aside0.mk (tells_of hlt)
      have HWK := Aside0.mk (word_kd hlt)
      have HTK := Aside0.mk (fun (h1 : ((wd k).name == l.headD [] && l.length == 1 + (wd k).tells.length) = true) => opOf_some (l := l) hlt HN.out h1)
      have HNX := Aside0.mk (fun (h : ((wd k).name == l.headD [] && l.length == 1 + (wd k).tells.length) = false) => (show ∀ j, j < k + 1 → ((wd j).name == l.headD [] && l.length == 1 + (wd j).tells.length) = false from fun j hj => by
        rcases Nat.lt_or_ge j k with h' | h'
        · exact HN.out j h'
        · obtain rfl : j = k := by omega
          exact h))
      obtain ⟨wk, hwk⟩ : ∃ wk, wk = wd k := ⟨_, rfl⟩
      rw [← hwk] at HX HTL HTK HNX HWK
      clear hcx hwk
      have l0 := (HP.out.below HB.out.below).cell 0 hpos
      obtain ⟨hd0, hhd⟩ : ∃ hd0, hd0 = l.getD 0 [] := ⟨_, rfl⟩
      have HHD := Aside0.mk (show l.headD [] = hd0 by rw [hhd]; cases l <;> rfl)
      have HHD2 := Aside0.mk hhd
      rw [← hhd] at l0
      clear hhd
      obtain ⟨T, hT⟩ : ∃ T, T = str wk.tells := ⟨_, rfl⟩
      have HTs := Aside0.mk (show T.size = wk.tells.length by rw [hT, Lib.size_eq, str_data])
      have hT4 : T.size ≤ 3 := by have := HTL.out.1; have := HTs.out; omega
      have HT := Aside0.mk hT
      have HW64 := Aside0.mk (show IntKind.i64.wrap (1 + (T.size : Int)) = 1 + (T.size : Int) from IntWalk.i64_in _ (by omega))
      clear hT
      by_cases hnm : wk.name = hd0
      · have HNM := Aside0.mk (show (str wk.name).toList = (str hd0).toList by rw [hnm])
        by_cases hln : l.length = 1 + wk.tells.length
        · have HM := Aside0.mk (HTK.out (by rw [HHD.out, Bool.and_eq_true]; exact ⟨beq_iff_eq.2 hnm, beq_iff_eq.2 hln⟩))
          have hlT : l.length = 1 + T.size := by rw [HTs.out]; exact hln
          have HLN := Aside0.mk hlT
          clear hnm hln hlT
          go_upto_region 4 with (first | ((with_reducible refine gate_dst (N := 15) rfl ?_); refine load89 rfl (.tmp 14) rfl _ rfl wk HX.out ?_) | ((with_reducible refine gate_dst (N := 5) rfl ?_); refine alloc89 rfl rfl ?_; intro w3 wg h4 h5 h6; have HK3 := Aside0.mk (HB.out.new h6 h5); have HW3 := Aside0.mk (HW.out.trans ((grown_fresh h6).mono HW.out.size)); have HWG := Aside0.mk (show w.heap.size ≤ wg from Nat.le_trans HB.out.size h4); have HWG2 := Aside0.mk (show w2.heap.size ≤ wg from Nat.le_trans HW.out.size h4); have HGN := Aside0.mk (show rg ≠ wg by have a1 := HB.out.head.lt; have a2 := h4; omega); clear h4 h5 h6) | (refine store89 rfl rfl (.tmp 5) (.tmp 15) rfl wg rfl wk rfl (M := word0) HK3.out.head ?_; intro w4 h7 h8 h9; have HK4 := Aside0.mk (HK3.out.put h8 HWG.out (by simpa using HGN.out) h7); have HW4 := Aside0.mk (below_grown HW3.out HWG2.out HW3.out.size h8); clear h7 h8 h9))
          have l04 : w4.cell? ⟨h, 0, none⟩ = some (.string (str hd0)) := by rw [HHD2.out]; exact (HP.out.below HK4.out.below).cell 0 hpos
          have y3 : w4.cell? ⟨wg, 3, none⟩ = some (.string T) := by rw [HT.out]; exact HK4.out.head.cell (i := 3) rfl
          refine wp_region_held_drew (S := (fun w' => (w'.cell? ⟨wg, 0, none⟩ = some (.string (str wk.name)) ∧ w'.cell? ⟨wg, 3, none⟩ = some (.string T)) ∧ w'.cell? ⟨h, 0, none⟩ = some (.string (str hd0)))) (by kernel_rfl) (by exact ⟨⟨HK4.out.head.cell (i := 0) rfl, y3⟩, l04⟩) (fun hHeld => ?_)
          refine wpAnyH_tk (i := 0) (v := ?vz1) 16 rfl rfl (by kernel_rfl) (by kernel_rfl) (by kernel_rfl) (fun _ _ _ h => h) (Or.inl ⟨by rfl, ?yz1⟩) hHeld ?rz1
          case yz1 => (intro w hSw; go_simp; try (first | with_reducible rfl | (rw [if_neg (by omega)]; try with_reducible rfl)))
          (try simp only [Act.put, List.setIfInBounds_toArray, List.set_cons_zero, List.set_cons_succ])
          refine wpAnyH_tk (i := 1) (v := _) 17 rfl rfl (by kernel_rfl) (by kernel_rfl) (by kernel_rfl) (fun _ _ _ h => h) (yields_cell (by rfl) 9 (.tmp 16) rfl ⟨wg, 0, none⟩ rfl (v := .string (str wk.name)) (fun w h => h.1.1) Tryd.underlying9 rfl) hHeld ?_
          (try simp only [Act.put, List.setIfInBounds_toArray, List.set_cons_zero, List.set_cons_succ])
          refine wpAnyH_tk (i := 2) (v := ?vz2) 18 rfl rfl (by kernel_rfl) (by kernel_rfl) (by kernel_rfl) (fun _ _ _ h => h) (Or.inl ⟨by rfl, ?yz2⟩) hHeld ?rz2
          case yz2 => (intro w hSw; go_simp; try (first | with_reducible rfl | (rw [if_neg (by omega)]; try with_reducible rfl)))
          (try simp only [Act.put, List.setIfInBounds_toArray, List.set_cons_zero, List.set_cons_succ])
          refine wpAnyH_tk (i := 3) (v := ?vz3) 19 rfl rfl (by kernel_rfl) (by kernel_rfl) (by kernel_rfl) (fun _ _ _ h => h) (Or.inl ⟨by rfl, ?yz3⟩) hHeld ?rz3
          case yz3 => (intro w hSw; go_simp; try (first | with_reducible rfl | (rw [if_neg (by omega)]; try with_reducible rfl)))
          (try simp only [Act.put, List.setIfInBounds_toArray, List.set_cons_zero, List.set_cons_succ])
          refine wpAnyH_tk (i := 4) (v := _) 20 rfl rfl (by kernel_rfl) (by kernel_rfl) (by kernel_rfl) (fun _ _ _ h => h) (yields_cell (by rfl) 9 (.tmp 19) rfl ⟨h, 0, none⟩ rfl (v := .string (str hd0)) (fun w h => h.2) Tryd.underlying9 rfl) hHeld ?_
          (try simp only [Act.put, List.setIfInBounds_toArray, List.set_cons_zero, List.set_cons_succ])
          refine wpAnyH_tk (i := 5) (v := _) 21 rfl rfl (by kernel_rfl) (by kernel_rfl) (by kernel_rfl) (fun _ _ _ h => h) (show YieldsIf Tryd.prog _ _ _ (.bool false) _ from Or.inl ⟨(by rfl), fun w hSw => by go_simp; exact HNM.out⟩) hHeld ?_
          (try simp only [Act.put, List.setIfInBounds_toArray, List.set_cons_zero, List.set_cons_succ])
          refine wpAnyH_tk (i := 6) (v := ?vz4) 22 rfl rfl (by kernel_rfl) (by kernel_rfl) (by kernel_rfl) (fun _ _ _ h => h) (Or.inl ⟨by rfl, ?yz4⟩) hHeld ?rz4
          case yz4 => (intro w hSw; go_simp; try (first | with_reducible rfl | (rw [if_neg (by omega)]; try with_reducible rfl)))
          (try simp only [Act.put, List.setIfInBounds_toArray, List.set_cons_zero, List.set_cons_succ])
          refine wpAnyH_tk (i := 7) (v := ?vz5) 23 rfl rfl (by kernel_rfl) (by kernel_rfl) (by kernel_rfl) (fun _ _ _ h => h) (Or.inl ⟨by rfl, ?yz5⟩) hHeld ?rz5
          case yz5 => (intro w hSw; go_simp; try (first | with_reducible rfl | (rw [if_neg (by omega)]; try with_reducible rfl)))
          (try simp only [Act.put, List.setIfInBounds_toArray, List.set_cons_zero, List.set_cons_succ])
          refine wpAnyH_tk (i := 8) (v := ?vz6) 24 rfl rfl (by kernel_rfl) (by kernel_rfl) (by kernel_rfl) (fun _ _ _ h => h) (Or.inl ⟨by rfl, ?yz6⟩) hHeld ?rz6
          case yz6 => (intro w hSw; go_simp; try (first | with_reducible rfl | (rw [if_neg (by omega)]; try with_reducible rfl)))
          (try simp only [Act.put, List.setIfInBounds_toArray, List.set_cons_zero, List.set_cons_succ])
          refine wpAnyH_tk (i := 9) (v := ?vz7) 25 rfl rfl (by kernel_rfl) (by kernel_rfl) (by kernel_rfl) (fun _ _ _ h => h) (Or.inl ⟨by rfl, ?yz7⟩) hHeld ?rz7
          case yz7 => (intro w hSw; go_simp; try (first | with_reducible rfl | (rw [if_neg (by omega)]; try with_reducible rfl)))
          (try simp only [Act.put, List.setIfInBounds_toArray, List.set_cons_zero, List.set_cons_succ])
          refine wpAnyH_tk (i := 10) (v := _) 26 rfl rfl (by kernel_rfl) (by kernel_rfl) (by kernel_rfl) (fun _ _ _ h => h) (yields_cell (by rfl) 9 (.tmp 25) rfl ⟨wg, 3, none⟩ rfl (v := .string T) (fun w h => h.1.2) Tryd.underlying9 rfl) hHeld ?_
          (try simp only [Act.put, List.setIfInBounds_toArray, List.set_cons_zero, List.set_cons_succ])
          refine wpAnyH_tk (i := 11) (v := ?vz8) 27 rfl rfl (by kernel_rfl) (by kernel_rfl) (by kernel_rfl) (fun _ _ _ h => h) (Or.inl ⟨by rfl, ?yz8⟩) hHeld ?rz8
          case yz8 => (intro w hSw; go_simp; try (first | with_reducible rfl | (rw [if_neg (by omega)]; try with_reducible rfl)))
          (try simp only [Act.put, List.setIfInBounds_toArray, List.set_cons_zero, List.set_cons_succ])
          refine wpAnyH_tk (i := 12) (v := ?vz9) 28 rfl rfl (by kernel_rfl) (by kernel_rfl) (by kernel_rfl) (fun _ _ _ h => h) (Or.inl ⟨by rfl, ?yz9⟩) hHeld ?rz9
          case yz9 => (intro w hSw; go_simp; try (first | with_reducible rfl | (rw [if_neg (by omega)]; try with_reducible rfl)))
          (try simp only [Act.put, List.setIfInBounds_toArray, List.set_cons_zero, List.set_cons_succ])
          refine wpAnyH_tk (i := 13) (v := _) 29 rfl rfl (by kernel_rfl) (by kernel_rfl) (by kernel_rfl) (fun _ _ _ h => h) (show YieldsIf Tryd.prog _ _ _ (.bool false) _ from Or.inl ⟨(by rfl), fun w hSw => by go_simp; rw [HW64.out]; have := HLN.out; omega⟩) hHeld ?_
          (try simp only [Act.put, List.setIfInBounds_toArray, List.set_cons_zero, List.set_cons_succ])
          refine wpAnyH_tk (i := 14) (v := ?vz10) 30 rfl rfl (by kernel_rfl) (by kernel_rfl) (by kernel_rfl) (fun _ _ _ h => h) (Or.inl ⟨by rfl, ?yz10⟩) hHeld ?rz10
          case yz10 => (intro w hSw; go_simp; try (first | with_reducible rfl | (rw [if_neg (by omega)]; try with_reducible rfl)))
          (try simp only [Act.put, List.setIfInBounds_toArray, List.set_cons_zero, List.set_cons_succ])
          refine wpAnyH_done (by kernel_rfl) ?_ _
          skip
          clear hHeld l04
          have y1 : w4.drew.cell? ⟨wg, 1, none⟩ = some (.int .i64 wk.kind) := HK4.out.head.cell (i := 1) rfl
          have y2 : w4.drew.cell? ⟨wg, 2, none⟩ = some (.bool wk.sync) := HK4.out.head.cell (i := 2) rfl
          obtain ⟨TA, hcut, hTA⟩ := cutP h l.length 1 (by omega)
          have HTA := Aside0.mk hTA
          have hcut2 : ∀ W, (Instr.slice 69 (.slice (some ⟨h, 0, none⟩) l.length l.length) (some (.int .i64 1)) none none).run Tryd.prog W = .ok (.slice TA T.size T.size) W := fun W => by
            have := hcut W
            rw [show l.length - 1 = T.size from by have := HLN.out; omega] at this
            exact this
          clear hcut hTA
          have HKD := Aside0.mk HK4.out.drew
          go_wp2_with (first | ((with_reducible refine gate_dst (N := 35) rfl ?_); refine build35 rfl (.tmp 32) (.tmp 34) rfl wk.kind wk.sync rfl rfl ?_) | ((with_reducible refine gate_dst (N := 6) rfl ?_); refine alloc35 rfl rfl ?_; intro w5 og h4 h5 h6; have HK5 := Aside0.mk (HKD.out.new h6 h5); have HOG := Aside0.mk (show w.heap.size ≤ og from Nat.le_trans HKD.out.size h4); have HON := Aside0.mk (show og ≠ wg ∧ og ≠ rg by have a1 := HKD.out.head.lt; have a2 := HKD.out.tail.head.lt; have a3 := h4; omega); clear h4 h5 h6) | (refine store35 rfl rfl (.tmp 6) (.tmp 35) rfl og rfl (opKS wk.kind wk.sync) rfl rfl (m := op0) rfl HK5.out.head ?_; intro w6 h7 h8 h9; have HK6 := Aside0.mk (HK5.out.put h8 HOG.out (by intro b hb; simp only [List.mem_cons, List.not_mem_nil, or_false] at hb; rcases hb with rfl | rfl; exact HON.out.1.symm; exact HON.out.2.symm) h7); clear h7 h8 h9))
          have HGK := Aside0.mk (show GoodOp (opKS wk.kind wk.sync) from ⟨rfl, goodop0.byte, goodop0.id, goodop0.blk, goodop0.policy, HWK.out⟩)
          go_loopw [7, 8, 9, 39] (fun _ _ _ i wr => ∃ m : Nat, m ≤ T.size ∧ i = .int .i64 m ∧ ∃ om : Op, Aside0 (GoodOp om) ∧ Aside0 (opOf l = setTells (wk.tells.drop m) (l.tail.drop m) om) ∧ Aside0 (Keeps w [(og, 35, opC om), (wg, 89, wordC wk), (rg, 35, opC op0)] wr)) (fun _ _ _ i _ => T.size - (intOf i).toNat)
          case atStart => exact ⟨0, by omega, rfl, _, HGK, HM, HK6⟩
          case round =>
            obtain ⟨m, hm, rfl, om, HOM, HS, HB2⟩ := hrel
            rename World => wq
            by_cases hlt2 : m < T.size
            · obtain ⟨c, hc⟩ : ∃ c, c = wk.tells.getD m 0 := ⟨_, rfl⟩
              obtain ⟨f, hf⟩ : ∃ f, f = l.getD (m + 1) [] := ⟨_, rfl⟩
              have hml : m < wk.tells.length := by rw [← HTs.out]; exact hlt2
              have hcm : c ∈ wk.tells := by rw [hc, List.getD_eq_getElem?_getD, List.getElem?_eq_getElem hml]; exact List.getElem_mem _
              have hsk : ∀ h : m < T.size, T[m]'h = c := fun h => by
                have e : T = str wk.tells := HT.out
                subst e
                rw [hc, List.getD_eq_getElem?_getD, List.getElem?_eq_getElem hml]; rfl
              have hcc := HTL.out.2 c hcm
              have HST := Aside0.mk (show opOf l = match setTell om c f with | none => none | some o' => setTells (wk.tells.drop (m + 1)) (l.tail.drop (m + 1)) o' by
                rw [HS.out, set_step hml (by rw [List.length_tail]; have := HLN.out; have := HTs.out; omega) om, fs_get, hc, hf]; try (cases setTell om (wk.tells.getD m 0) (l.getD (m + 1) []) <;> rfl))
              have hml2 : m + 1 < l.length := by have := HLN.out; omega
              have hTAe : TA = some ⟨h, 1, none⟩ := HTA.out (by omega)
              subst hTAe
              have hfl : wq.cell? ⟨h, 1 + m, none⟩ = some (.string (str f)) := by rw [hf, Nat.add_comm]; exact (HP.out.below HB2.out.below).cell (m + 1) hml2
              have HFS := Aside0.mk (show (str f).size ≤ 281474976710656 by
                rw [Lib.size_eq, str_data, hf, List.getD_eq_getElem?_getD, List.getElem?_eq_getElem hml2]; exact HP.out.len _ (List.getElem_mem _))
              have y3 : wq.cell? ⟨wg, 3, none⟩ = some (.string T) := by rw [HT.out]; exact HB2.out.tail.head.cell (i := 3) (v := .string (str wk.tells)) rfl
              clear hc hf hcm
              rcases hcc with rfl | rfl | rfl | rfl
              · have HSS := Aside0.mk (show setTell om 105 f = (numOf f).map fun (n : Nat) => ({ om with id := (n : Int) } : Op) from rfl)
                rcases hnum : numOf f with _ | n
                · have HF := Aside0.mk (show opOf l = none by rw [HST.out, HSS.out, hnum]; rfl)
                  have HIS := Aside0.mk (show (numOf (str f).data.toList).isSome = false by rw [str_data, hnum]; rfl)
                  clear hnum
                  go_wp2_with (first | (go_at_call 33; refine (number_calls _ (HE.out.below HB2.out.below) (str f) HFS.out).mono ?_; rintro e w7 ⟨v, rfl, _, hvb, hb⟩; rw [HIS.out]; have HK7 := Aside0.mk (HB2.out.step hb); have z1 := HK7.out.head.cell (i := 1) (v := .int .i64 om.id) rfl; have z1f := HK7.out.head.frozen 1; have HK8 := Aside0.mk (keeps3 HK7.out (grown_set w7 og 1 (.int .i64 v)) HOG.out HON.out (by have := HK7.out.head.set 1 (.int .i64 v); rwa [set_id om v] at this)); clear hb hvb) | ((with_reducible refine gate_dst (N := 80) rfl ?_); refine build35z rfl rfl ?_) | (refine store35 rfl rfl (.tmp 2) (.tmp 80) rfl rg rfl op0 rfl rfl (m := op0) rfl HK8.out.tail.tail.head ?_; intro w9 h21 h22 h23; have HK9 := Aside0.mk (keeps3r HK8.out h22 HRG.out ⟨HON.out.2, HGN.out.symm⟩ h21); clear h21 h22 h23))
                  refine bodyPost_ret (results_ct rfl _ _ rg 35 _ (0, 0) _ rfl HK9.out.head Tryd.underlying35 rfl (by rw [List.size_toArray, opC_len op0 rfl]; exact size35)) rfl ?_
                  unfold OpEnd
                  rw [HF.out]
                  exact ⟨op0, rfl, goodop0, (fun o' h => by cases h), HK9.out.below⟩
                · have HT2 := Aside0.mk (show setTell om 105 f = some { om with id := (n : Int) } by rw [HSS.out, hnum]; rfl)
                  have HF := Aside0.mk (show opOf l = setTells (wk.tells.drop (m + 1)) (l.tail.drop (m + 1)) { om with id := (n : Int) } by rw [HST.out, HT2.out])
                  have HG2 := Aside0.mk (good_tell HOM.out HT2.out)
                  have HIS := Aside0.mk (show (numOf (str f).data.toList).isSome = true by rw [str_data, hnum]; rfl)
                  have HNF := Aside0.mk (show numOf (str f).data.toList = some n by rw [str_data, hnum])
                  clear hnum
                  go_wp2_with (first | (go_at_call 33; refine (number_calls _ (HE.out.below HB2.out.below) (str f) HFS.out).mono ?_; rintro e w7 ⟨v, rfl, hv, hvb, hb⟩; rw [HIS.out]; obtain rfl := hv n HNF.out; have HK7 := Aside0.mk (HB2.out.step hb); have z1 := HK7.out.head.cell (i := 1) (v := .int .i64 om.id) rfl; have z1f := HK7.out.head.frozen 1; have HK8 := Aside0.mk (keeps3 HK7.out (grown_set w7 og 1 (.int .i64 (n : Int))) HOG.out HON.out (by have := HK7.out.head.set 1 (.int .i64 (n : Int)); rwa [set_id om (n : Int)] at this)); clear hb hvb hv))
                  go_roundw
                  case rel => exact ⟨m + 1, by omega, by go_num, _, HG2, HF, HK8⟩
                  case measure => simp [intOf]; omega
              · have HSS := Aside0.mk (show setTell om 98 f = (numOf f).map fun (n : Nat) => ({ om with blk := (n : Int) } : Op) from rfl)
                rcases hnum : numOf f with _ | n
                · have HF := Aside0.mk (show opOf l = none by rw [HST.out, HSS.out, hnum]; rfl)
                  have HIS := Aside0.mk (show (numOf (str f).data.toList).isSome = false by rw [str_data, hnum]; rfl)
                  clear hnum
                  go_wp2_with (first | (go_at_call 33; refine (number_calls _ (HE.out.below HB2.out.below) (str f) HFS.out).mono ?_; rintro e w7 ⟨v, rfl, _, hvb, hb⟩; rw [HIS.out]; have HK7 := Aside0.mk (HB2.out.step hb); have z1 := HK7.out.head.cell (i := 2) (v := .int .i64 om.blk) rfl; have z1f := HK7.out.head.frozen 2; have HK8 := Aside0.mk (keeps3 HK7.out (grown_set w7 og 2 (.int .i64 v)) HOG.out HON.out (by have := HK7.out.head.set 2 (.int .i64 v); rwa [set_blk om v] at this)); clear hb hvb) | ((with_reducible refine gate_dst (N := 80) rfl ?_); refine build35z rfl rfl ?_) | (refine store35 rfl rfl (.tmp 2) (.tmp 80) rfl rg rfl op0 rfl rfl (m := op0) rfl HK8.out.tail.tail.head ?_; intro w9 h21 h22 h23; have HK9 := Aside0.mk (keeps3r HK8.out h22 HRG.out ⟨HON.out.2, HGN.out.symm⟩ h21); clear h21 h22 h23))
                  refine bodyPost_ret (results_ct rfl _ _ rg 35 _ (0, 0) _ rfl HK9.out.head Tryd.underlying35 rfl (by rw [List.size_toArray, opC_len op0 rfl]; exact size35)) rfl ?_
                  unfold OpEnd
                  rw [HF.out]
                  exact ⟨op0, rfl, goodop0, (fun o' h => by cases h), HK9.out.below⟩
                · have HT2 := Aside0.mk (show setTell om 98 f = some { om with blk := (n : Int) } by rw [HSS.out, hnum]; rfl)
                  have HF := Aside0.mk (show opOf l = setTells (wk.tells.drop (m + 1)) (l.tail.drop (m + 1)) { om with blk := (n : Int) } by rw [HST.out, HT2.out])
                  have HG2 := Aside0.mk (good_tell HOM.out HT2.out)
                  have HIS := Aside0.mk (show (numOf (str f).data.toList).isSome = true by rw [str_data, hnum]; rfl)
                  have HNF := Aside0.mk (show numOf (str f).data.toList = some n by rw [str_data, hnum])
                  clear hnum
                  go_wp2_with (first | (go_at_call 33; refine (number_calls _ (HE.out.below HB2.out.below) (str f) HFS.out).mono ?_; rintro e w7 ⟨v, rfl, hv, hvb, hb⟩; rw [HIS.out]; obtain rfl := hv n HNF.out; have HK7 := Aside0.mk (HB2.out.step hb); have z1 := HK7.out.head.cell (i := 2) (v := .int .i64 om.blk) rfl; have z1f := HK7.out.head.frozen 2; have HK8 := Aside0.mk (keeps3 HK7.out (grown_set w7 og 2 (.int .i64 (n : Int))) HOG.out HON.out (by have := HK7.out.head.set 2 (.int .i64 (n : Int)); rwa [set_blk om (n : Int)] at this)); clear hb hvb hv))
                  go_roundw
                  case rel => exact ⟨m + 1, by omega, by go_num, _, HG2, HF, HK8⟩
                  case measure => simp [intOf]; omega
              · have HSS := Aside0.mk (show setTell om 112 f = (numOf f).map fun (n : Nat) => ({ om with policy := (n : Int) } : Op) from rfl)
                rcases hnum : numOf f with _ | n
                · have HF := Aside0.mk (show opOf l = none by rw [HST.out, HSS.out, hnum]; rfl)
                  have HIS := Aside0.mk (show (numOf (str f).data.toList).isSome = false by rw [str_data, hnum]; rfl)
                  clear hnum
                  go_wp2_with (first | (go_at_call 33; refine (number_calls _ (HE.out.below HB2.out.below) (str f) HFS.out).mono ?_; rintro e w7 ⟨v, rfl, _, hvb, hb⟩; rw [HIS.out]; have HK7 := Aside0.mk (HB2.out.step hb); have z1 := HK7.out.head.cell (i := 36) (v := .int .i64 om.policy) (op_policy om HOM.out.len); have z1f := HK7.out.head.frozen 36; have HK8 := Aside0.mk (keeps3 HK7.out (grown_set w7 og 36 (.int .i64 v)) HOG.out HON.out (by have := HK7.out.head.set 36 (.int .i64 v); rwa [set_policy om v HOM.out.len] at this)); clear hb hvb) | ((with_reducible refine gate_dst (N := 80) rfl ?_); refine build35z rfl rfl ?_) | (refine store35 rfl rfl (.tmp 2) (.tmp 80) rfl rg rfl op0 rfl rfl (m := op0) rfl HK8.out.tail.tail.head ?_; intro w9 h21 h22 h23; have HK9 := Aside0.mk (keeps3r HK8.out h22 HRG.out ⟨HON.out.2, HGN.out.symm⟩ h21); clear h21 h22 h23))
                  refine bodyPost_ret (results_ct rfl _ _ rg 35 _ (0, 0) _ rfl HK9.out.head Tryd.underlying35 rfl (by rw [List.size_toArray, opC_len op0 rfl]; exact size35)) rfl ?_
                  unfold OpEnd
                  rw [HF.out]
                  exact ⟨op0, rfl, goodop0, (fun o' h => by cases h), HK9.out.below⟩
                · have HT2 := Aside0.mk (show setTell om 112 f = some { om with policy := (n : Int) } by rw [HSS.out, hnum]; rfl)
                  have HF := Aside0.mk (show opOf l = setTells (wk.tells.drop (m + 1)) (l.tail.drop (m + 1)) { om with policy := (n : Int) } by rw [HST.out, HT2.out])
                  have HG2 := Aside0.mk (good_tell HOM.out HT2.out)
                  have HIS := Aside0.mk (show (numOf (str f).data.toList).isSome = true by rw [str_data, hnum]; rfl)
                  have HNF := Aside0.mk (show numOf (str f).data.toList = some n by rw [str_data, hnum])
                  clear hnum
                  go_wp2_with (first | (go_at_call 33; refine (number_calls _ (HE.out.below HB2.out.below) (str f) HFS.out).mono ?_; rintro e w7 ⟨v, rfl, hv, hvb, hb⟩; rw [HIS.out]; obtain rfl := hv n HNF.out; have HK7 := Aside0.mk (HB2.out.step hb); have z1 := HK7.out.head.cell (i := 36) (v := .int .i64 om.policy) (op_policy om HOM.out.len); have z1f := HK7.out.head.frozen 36; have HK8 := Aside0.mk (keeps3 HK7.out (grown_set w7 og 36 (.int .i64 (n : Int))) HOG.out HON.out (by have := HK7.out.head.set 36 (.int .i64 (n : Int)); rwa [set_policy om (n : Int) HOM.out.len] at this)); clear hb hvb hv))
                  go_roundw
                  case rel => exact ⟨m + 1, by omega, by go_num, _, HG2, HF, HK8⟩
                  case measure => simp [intOf]; omega
              · have HSS := Aside0.mk (show setTell om 100 f = (dataOf f).map fun d => ({ om with data := d } : Op) from rfl)
                rcases hnum : dataOf f with _ | dd
                · have HF := Aside0.mk (show opOf l = none by rw [HST.out, HSS.out, hnum]; rfl)
                  have HIS := Aside0.mk (show (dataOf (str f).data.toList).isSome = false by rw [str_data, hnum]; rfl)
                  clear hnum
                  go_wp2_with (first | (go_at_call 47; refine (data_calls _ (str f)).mono ?_; rintro e w7 ⟨d, rfl, hdl, _, hb⟩; rw [HIS.out]; have HDL := Aside0.mk hdl; have HK7 := Aside0.mk (HB2.out.step hb); clear hb hdl) | (refine storeData rfl rfl (.tmp 53) (.tmp 51) rfl og rfl d HDL.out rfl (m := om) HOM.out.len HK7.out.head ?_; intro w8 h31 h32 h33; have HK8 := Aside0.mk (keeps3 HK7.out h32 HOG.out HON.out h31); clear h31 h32 h33) | ((with_reducible refine gate_dst (N := 80) rfl ?_); refine build35z rfl rfl ?_) | (refine store35 rfl rfl (.tmp 2) (.tmp 80) rfl rg rfl op0 rfl rfl (m := op0) rfl HK8.out.tail.tail.head ?_; intro w9 h21 h22 h23; have HK9 := Aside0.mk (keeps3r HK8.out h22 HRG.out ⟨HON.out.2, HGN.out.symm⟩ h21); clear h21 h22 h23))
                  refine bodyPost_ret (results_ct rfl _ _ rg 35 _ (0, 0) _ rfl HK9.out.head Tryd.underlying35 rfl (by rw [List.size_toArray, opC_len op0 rfl]; exact size35)) rfl ?_
                  unfold OpEnd
                  rw [HF.out]
                  exact ⟨op0, rfl, goodop0, (fun o' h => by cases h), HK9.out.below⟩
                · have HT2 := Aside0.mk (show setTell om 100 f = some { om with data := dd } by rw [HSS.out, hnum]; rfl)
                  have HF := Aside0.mk (show opOf l = setTells (wk.tells.drop (m + 1)) (l.tail.drop (m + 1)) { om with data := dd } by rw [HST.out, HT2.out])
                  have HG2 := Aside0.mk (good_tell HOM.out HT2.out)
                  have HIS := Aside0.mk (show (dataOf (str f).data.toList).isSome = true by rw [str_data, hnum]; rfl)
                  have HNF := Aside0.mk (show dataOf (str f).data.toList = some dd by rw [str_data, hnum])
                  clear hnum
                  go_wp2_with (first | (go_at_call 47; refine (data_calls _ (str f)).mono ?_; rintro e w7 ⟨d, rfl, hdl, hv, hb⟩; rw [HIS.out]; obtain rfl := hv dd HNF.out; have HDL := Aside0.mk hdl; have HK7 := Aside0.mk (HB2.out.step hb); clear hb hdl hv) | (refine storeData rfl rfl (.tmp 53) (.tmp 51) rfl og rfl d HDL.out rfl (m := om) HOM.out.len HK7.out.head ?_; intro w8 h31 h32 h33; have HK8 := Aside0.mk (keeps3 HK7.out h32 HOG.out HON.out h31); clear h31 h32 h33))
                  go_roundw
                  case rel => exact ⟨m + 1, by omega, by go_num, _, HG2, HF, HK8⟩
                  case measure => simp [intOf]; omega
            · obtain rfl : m = T.size := by omega
              have HF := Aside0.mk (show opOf l = some om by
                rw [HS.out, HTs.out, List.drop_length, List.drop_eq_nil_of_le (by rw [List.length_tail]; have := HLN.out; have := HTs.out; omega)]; rfl)
              go_wp2_with (first | ((with_reducible refine gate_dst (N := 82) rfl ?_); refine loadB35 rfl (.tmp 6) rfl og rfl om HOM.out.len HB2.out.head ?_) | (refine store35 rfl rfl (.tmp 2) (.tmp 82) rfl rg rfl om HOM.out.len rfl (m := op0) rfl HB2.out.tail.tail.head ?_; intro w9 h21 h22 h23; have HK9 := Aside0.mk (keeps3r HB2.out h22 HRG.out ⟨HON.out.2, HGN.out.symm⟩ h21); clear h21 h22 h23))
              refine bodyPost_ret (results_ct rfl _ _ rg 35 _ (0, 0) _ rfl HK9.out.head Tryd.underlying35 rfl (by rw [List.size_toArray, opC_len om HOM.out.len]; exact size35)) rfl ?_
              unfold OpEnd
              rw [HF.out]
              exact ⟨om, rfl, HOM.out, (fun o' h => by injection h), HK9.out.below⟩
        · have HNN := Aside0.mk (HNX.out (by rw [Bool.and_eq_false_iff]; right; rw [beq_eq_false_iff_ne]; exact hln))
          have hlT : ¬ l.length = 1 + T.size := by rw [HTs.out]; exact hln
          clear hnm hln
          go_upto_region 4 with (first | ((with_reducible refine gate_dst (N := 15) rfl ?_); refine load89 rfl (.tmp 14) rfl _ rfl wk HX.out ?_) | ((with_reducible refine gate_dst (N := 5) rfl ?_); refine alloc89 rfl rfl ?_; intro w3 wg h4 h5 h6; have HK3 := Aside0.mk (HB.out.new h6 h5); have HW3 := Aside0.mk (HW.out.trans ((grown_fresh h6).mono HW.out.size)); have HWG := Aside0.mk (show w.heap.size ≤ wg from Nat.le_trans HB.out.size h4); have HWG2 := Aside0.mk (show w2.heap.size ≤ wg from Nat.le_trans HW.out.size h4); have HGN := Aside0.mk (show rg ≠ wg by have a1 := HB.out.head.lt; have a2 := h4; omega); clear h4 h5 h6) | (refine store89 rfl rfl (.tmp 5) (.tmp 15) rfl wg rfl wk rfl (M := word0) HK3.out.head ?_; intro w4 h7 h8 h9; have HK4 := Aside0.mk (HK3.out.put h8 HWG.out (by simpa using HGN.out) h7); have HW4 := Aside0.mk (below_grown HW3.out HWG2.out HW3.out.size h8); clear h7 h8 h9))
          have l04 : w4.cell? ⟨h, 0, none⟩ = some (.string (str hd0)) := by rw [HHD2.out]; exact (HP.out.below HK4.out.below).cell 0 hpos
          have y3 : w4.cell? ⟨wg, 3, none⟩ = some (.string T) := by rw [HT.out]; exact HK4.out.head.cell (i := 3) rfl
          refine wp_region_held_drew (S := (fun w' => (w'.cell? ⟨wg, 0, none⟩ = some (.string (str wk.name)) ∧ w'.cell? ⟨wg, 3, none⟩ = some (.string T)) ∧ w'.cell? ⟨h, 0, none⟩ = some (.string (str hd0)))) (by kernel_rfl) (by exact ⟨⟨HK4.out.head.cell (i := 0) rfl, y3⟩, l04⟩) (fun hHeld => ?_)
          refine wpAnyH_tk (i := 0) (v := ?vz11) 16 rfl rfl (by kernel_rfl) (by kernel_rfl) (by kernel_rfl) (fun _ _ _ h => h) (Or.inl ⟨by rfl, ?yz11⟩) hHeld ?rz11
          case yz11 => (intro w hSw; go_simp; try (first | with_reducible rfl | (rw [if_neg (by omega)]; try with_reducible rfl)))
          (try simp only [Act.put, List.setIfInBounds_toArray, List.set_cons_zero, List.set_cons_succ])
          refine wpAnyH_tk (i := 1) (v := _) 17 rfl rfl (by kernel_rfl) (by kernel_rfl) (by kernel_rfl) (fun _ _ _ h => h) (yields_cell (by rfl) 9 (.tmp 16) rfl ⟨wg, 0, none⟩ rfl (v := .string (str wk.name)) (fun w h => h.1.1) Tryd.underlying9 rfl) hHeld ?_
          (try simp only [Act.put, List.setIfInBounds_toArray, List.set_cons_zero, List.set_cons_succ])
          refine wpAnyH_tk (i := 2) (v := ?vz12) 18 rfl rfl (by kernel_rfl) (by kernel_rfl) (by kernel_rfl) (fun _ _ _ h => h) (Or.inl ⟨by rfl, ?yz12⟩) hHeld ?rz12
          case yz12 => (intro w hSw; go_simp; try (first | with_reducible rfl | (rw [if_neg (by omega)]; try with_reducible rfl)))
          (try simp only [Act.put, List.setIfInBounds_toArray, List.set_cons_zero, List.set_cons_succ])
          refine wpAnyH_tk (i := 3) (v := ?vz13) 19 rfl rfl (by kernel_rfl) (by kernel_rfl) (by kernel_rfl) (fun _ _ _ h => h) (Or.inl ⟨by rfl, ?yz13⟩) hHeld ?rz13
          case yz13 => (intro w hSw; go_simp; try (first | with_reducible rfl | (rw [if_neg (by omega)]; try with_reducible rfl)))
          (try simp only [Act.put, List.setIfInBounds_toArray, List.set_cons_zero, List.set_cons_succ])
          refine wpAnyH_tk (i := 4) (v := _) 20 rfl rfl (by kernel_rfl) (by kernel_rfl) (by kernel_rfl) (fun _ _ _ h => h) (yields_cell (by rfl) 9 (.tmp 19) rfl ⟨h, 0, none⟩ rfl (v := .string (str hd0)) (fun w h => h.2) Tryd.underlying9 rfl) hHeld ?_
          (try simp only [Act.put, List.setIfInBounds_toArray, List.set_cons_zero, List.set_cons_succ])
          refine wpAnyH_tk (i := 5) (v := _) 21 rfl rfl (by kernel_rfl) (by kernel_rfl) (by kernel_rfl) (fun _ _ _ h => h) (show YieldsIf Tryd.prog _ _ _ (.bool false) _ from Or.inl ⟨(by rfl), fun w hSw => by go_simp; exact HNM.out⟩) hHeld ?_
          (try simp only [Act.put, List.setIfInBounds_toArray, List.set_cons_zero, List.set_cons_succ])
          refine wpAnyH_tk (i := 6) (v := ?vz14) 22 rfl rfl (by kernel_rfl) (by kernel_rfl) (by kernel_rfl) (fun _ _ _ h => h) (Or.inl ⟨by rfl, ?yz14⟩) hHeld ?rz14
          case yz14 => (intro w hSw; go_simp; try (first | with_reducible rfl | (rw [if_neg (by omega)]; try with_reducible rfl)))
          (try simp only [Act.put, List.setIfInBounds_toArray, List.set_cons_zero, List.set_cons_succ])
          refine wpAnyH_tk (i := 7) (v := ?vz15) 23 rfl rfl (by kernel_rfl) (by kernel_rfl) (by kernel_rfl) (fun _ _ _ h => h) (Or.inl ⟨by rfl, ?yz15⟩) hHeld ?rz15
          case yz15 => (intro w hSw; go_simp; try (first | with_reducible rfl | (rw [if_neg (by omega)]; try with_reducible rfl)))
          (try simp only [Act.put, List.setIfInBounds_toArray, List.set_cons_zero, List.set_cons_succ])
          refine wpAnyH_tk (i := 8) (v := ?vz16) 24 rfl rfl (by kernel_rfl) (by kernel_rfl) (by kernel_rfl) (fun _ _ _ h => h) (Or.inl ⟨by rfl, ?yz16⟩) hHeld ?rz16
          case yz16 => (intro w hSw; go_simp; try (first | with_reducible rfl | (rw [if_neg (by omega)]; try with_reducible rfl)))
          (try simp only [Act.put, List.setIfInBounds_toArray, List.set_cons_zero, List.set_cons_succ])
          refine wpAnyH_tk (i := 9) (v := ?vz17) 25 rfl rfl (by kernel_rfl) (by kernel_rfl) (by kernel_rfl) (fun _ _ _ h => h) (Or.inl ⟨by rfl, ?yz17⟩) hHeld ?rz17
          case yz17 => (intro w hSw; go_simp; try (first | with_reducible rfl | (rw [if_neg (by omega)]; try with_reducible rfl)))
          (try simp only [Act.put, List.setIfInBounds_toArray, List.set_cons_zero, List.set_cons_succ])
          refine wpAnyH_tk (i := 10) (v := _) 26 rfl rfl (by kernel_rfl) (by kernel_rfl) (by kernel_rfl) (fun _ _ _ h => h) (yields_cell (by rfl) 9 (.tmp 25) rfl ⟨wg, 3, none⟩ rfl (v := .string T) (fun w h => h.1.2) Tryd.underlying9 rfl) hHeld ?_
          (try simp only [Act.put, List.setIfInBounds_toArray, List.set_cons_zero, List.set_cons_succ])
          refine wpAnyH_tk (i := 11) (v := ?vz18) 27 rfl rfl (by kernel_rfl) (by kernel_rfl) (by kernel_rfl) (fun _ _ _ h => h) (Or.inl ⟨by rfl, ?yz18⟩) hHeld ?rz18
          case yz18 => (intro w hSw; go_simp; try (first | with_reducible rfl | (rw [if_neg (by omega)]; try with_reducible rfl)))
          (try simp only [Act.put, List.setIfInBounds_toArray, List.set_cons_zero, List.set_cons_succ])
          refine wpAnyH_tk (i := 12) (v := ?vz19) 28 rfl rfl (by kernel_rfl) (by kernel_rfl) (by kernel_rfl) (fun _ _ _ h => h) (Or.inl ⟨by rfl, ?yz19⟩) hHeld ?rz19
          case yz19 => (intro w hSw; go_simp; try (first | with_reducible rfl | (rw [if_neg (by omega)]; try with_reducible rfl)))
          (try simp only [Act.put, List.setIfInBounds_toArray, List.set_cons_zero, List.set_cons_succ])
          refine wpAnyH_tk (i := 13) (v := _) 29 rfl rfl (by kernel_rfl) (by kernel_rfl) (by kernel_rfl) (fun _ _ _ h => h) (show YieldsIf Tryd.prog _ _ _ (.bool true) _ from Or.inl ⟨(by rfl), fun w hSw => by go_simp; rw [HW64.out]; omega⟩) hHeld ?_
          (try simp only [Act.put, List.setIfInBounds_toArray, List.set_cons_zero, List.set_cons_succ])
          refine wpAnyH_tk (i := 14) (v := ?vz20) 30 rfl rfl (by kernel_rfl) (by kernel_rfl) (by kernel_rfl) (fun _ _ _ h => h) (Or.inl ⟨by rfl, ?yz20⟩) hHeld ?rz20
          case yz20 => (intro w hSw; go_simp; try (first | with_reducible rfl | (rw [if_neg (by omega)]; try with_reducible rfl)))
          (try simp only [Act.put, List.setIfInBounds_toArray, List.set_cons_zero, List.set_cons_succ])
          refine wpAnyH_done (by kernel_rfl) ?_ _
          skip
          go_wp2_with fail
          go_roundw
          case rel => exact ⟨k + 1, by omega, by go_num, HNN, ⟨HK4.out.tail.drew⟩, ⟨below_drew HW4.out⟩⟩
          case measure => simp [intOf]; omega
      · have HNE := Aside0.mk (show ¬ (str wk.name).toList = (str hd0).toList by rw [Lib.toList_data, Lib.toList_data, str_data, str_data]; exact hnm)
        have HNN := Aside0.mk (HNX.out (by rw [Bool.and_eq_false_iff]; left; rw [beq_eq_false_iff_ne, HHD.out]; exact hnm))
        clear hnm
        go_upto_region 4 with (first | ((with_reducible refine gate_dst (N := 15) rfl ?_); refine load89 rfl (.tmp 14) rfl _ rfl wk HX.out ?_) | ((with_reducible refine gate_dst (N := 5) rfl ?_); refine alloc89 rfl rfl ?_; intro w3 wg h4 h5 h6; have HK3 := Aside0.mk (HB.out.new h6 h5); have HW3 := Aside0.mk (HW.out.trans ((grown_fresh h6).mono HW.out.size)); have HWG := Aside0.mk (show w.heap.size ≤ wg from Nat.le_trans HB.out.size h4); have HWG2 := Aside0.mk (show w2.heap.size ≤ wg from Nat.le_trans HW.out.size h4); have HGN := Aside0.mk (show rg ≠ wg by have a1 := HB.out.head.lt; have a2 := h4; omega); clear h4 h5 h6) | (refine store89 rfl rfl (.tmp 5) (.tmp 15) rfl wg rfl wk rfl (M := word0) HK3.out.head ?_; intro w4 h7 h8 h9; have HK4 := Aside0.mk (HK3.out.put h8 HWG.out (by simpa using HGN.out) h7); have HW4 := Aside0.mk (below_grown HW3.out HWG2.out HW3.out.size h8); clear h7 h8 h9))
        have l04 : w4.cell? ⟨h, 0, none⟩ = some (.string (str hd0)) := by rw [HHD2.out]; exact (HP.out.below HK4.out.below).cell 0 hpos
        have y3 : w4.cell? ⟨wg, 3, none⟩ = some (.string T) := by rw [HT.out]; exact HK4.out.head.cell (i := 3) rfl
        refine wp_region_held_drew (S := (fun w' => (w'.cell? ⟨wg, 0, none⟩ = some (.string (str wk.name)) ∧ w'.cell? ⟨wg, 3, none⟩ = some (.string T)) ∧ w'.cell? ⟨h, 0, none⟩ = some (.string (str hd0)))) (by kernel_rfl) (by exact ⟨⟨HK4.out.head.cell (i := 0) rfl, y3⟩, l04⟩) (fun hHeld => ?_)
        refine wpAnyH_tk (i := 0) (v := ?vz21) 16 rfl rfl (by kernel_rfl) (by kernel_rfl) (by kernel_rfl) (fun _ _ _ h => h) (Or.inl ⟨by rfl, ?yz21⟩) hHeld ?rz21
        case yz21 => (intro w hSw; go_simp; try (first | with_reducible rfl | (rw [if_neg (by omega)]; try with_reducible rfl)))
        (try simp only [Act.put, List.setIfInBounds_toArray, List.set_cons_zero, List.set_cons_succ])
        refine wpAnyH_tk (i := 1) (v := _) 17 rfl rfl (by kernel_rfl) (by kernel_rfl) (by kernel_rfl) (fun _ _ _ h => h) (yields_cell (by rfl) 9 (.tmp 16) rfl ⟨wg, 0, none⟩ rfl (v := .string (str wk.name)) (fun w h => h.1.1) Tryd.underlying9 rfl) hHeld ?_
        (try simp only [Act.put, List.setIfInBounds_toArray, List.set_cons_zero, List.set_cons_succ])
        refine wpAnyH_tk (i := 2) (v := ?vz22) 18 rfl rfl (by kernel_rfl) (by kernel_rfl) (by kernel_rfl) (fun _ _ _ h => h) (Or.inl ⟨by rfl, ?yz22⟩) hHeld ?rz22
        case yz22 => (intro w hSw; go_simp; try (first | with_reducible rfl | (rw [if_neg (by omega)]; try with_reducible rfl)))
        (try simp only [Act.put, List.setIfInBounds_toArray, List.set_cons_zero, List.set_cons_succ])
        refine wpAnyH_tk (i := 3) (v := ?vz23) 19 rfl rfl (by kernel_rfl) (by kernel_rfl) (by kernel_rfl) (fun _ _ _ h => h) (Or.inl ⟨by rfl, ?yz23⟩) hHeld ?rz23
        case yz23 => (intro w hSw; go_simp; try (first | with_reducible rfl | (rw [if_neg (by omega)]; try with_reducible rfl)))
        (try simp only [Act.put, List.setIfInBounds_toArray, List.set_cons_zero, List.set_cons_succ])
        refine wpAnyH_tk (i := 4) (v := _) 20 rfl rfl (by kernel_rfl) (by kernel_rfl) (by kernel_rfl) (fun _ _ _ h => h) (yields_cell (by rfl) 9 (.tmp 19) rfl ⟨h, 0, none⟩ rfl (v := .string (str hd0)) (fun w h => h.2) Tryd.underlying9 rfl) hHeld ?_
        (try simp only [Act.put, List.setIfInBounds_toArray, List.set_cons_zero, List.set_cons_succ])
        refine wpAnyH_tk (i := 5) (v := _) 21 rfl rfl (by kernel_rfl) (by kernel_rfl) (by kernel_rfl) (fun _ _ _ h => h) (show YieldsIf Tryd.prog _ _ _ (.bool true) _ from Or.inl ⟨(by rfl), fun w hSw => by go_simp; exact HNE.out⟩) hHeld ?_
        (try simp only [Act.put, List.setIfInBounds_toArray, List.set_cons_zero, List.set_cons_succ])
        refine wpAnyH_tk (i := 6) (v := ?vz24) 22 rfl rfl (by kernel_rfl) (by kernel_rfl) (by kernel_rfl) (fun _ _ _ h => h) (Or.inl ⟨by rfl, ?yz24⟩) hHeld ?rz24
        case yz24 => (intro w hSw; go_simp; try (first | with_reducible rfl | (rw [if_neg (by omega)]; try with_reducible rfl)))
        (try simp only [Act.put, List.setIfInBounds_toArray, List.set_cons_zero, List.set_cons_succ])
        refine wpAnyH_tk (i := 7) (v := undef) 23 rfl rfl (by kernel_rfl) (by kernel_rfl) (by kernel_rfl) (fun _ _ _ h => h) (yields_not (by rfl)) hHeld ?_
        (try simp only [Act.put, List.setIfInBounds_toArray, List.set_cons_zero, List.set_cons_succ])
        refine wpAnyH_tk (i := 8) (v := undef) 24 rfl rfl (by kernel_rfl) (by kernel_rfl) (by kernel_rfl) (fun _ _ _ h => h) (yields_not (by rfl)) hHeld ?_
        (try simp only [Act.put, List.setIfInBounds_toArray, List.set_cons_zero, List.set_cons_succ])
        refine wpAnyH_tk (i := 9) (v := undef) 25 rfl rfl (by kernel_rfl) (by kernel_rfl) (by kernel_rfl) (fun _ _ _ h => h) (yields_not (by rfl)) hHeld ?_
        (try simp only [Act.put, List.setIfInBounds_toArray, List.set_cons_zero, List.set_cons_succ])
        refine wpAnyH_tk (i := 10) (v := undef) 26 rfl rfl (by kernel_rfl) (by kernel_rfl) (by kernel_rfl) (fun _ _ _ h => h) (yields_not (by rfl)) hHeld ?_
        (try simp only [Act.put, List.setIfInBounds_toArray, List.set_cons_zero, List.set_cons_succ])
        refine wpAnyH_tk (i := 11) (v := undef) 27 rfl rfl (by kernel_rfl) (by kernel_rfl) (by kernel_rfl) (fun _ _ _ h => h) (yields_not (by rfl)) hHeld ?_
        (try simp only [Act.put, List.setIfInBounds_toArray, List.set_cons_zero, List.set_cons_succ])
        refine wpAnyH_tk (i := 12) (v := undef) 28 rfl rfl (by kernel_rfl) (by kernel_rfl) (by kernel_rfl) (fun _ _ _ h => h) (yields_not (by rfl)) hHeld ?_
        (try simp only [Act.put, List.setIfInBounds_toArray, List.set_cons_zero, List.set_cons_succ])
        refine wpAnyH_tk (i := 13) (v := undef) 29 rfl rfl (by kernel_rfl) (by kernel_rfl) (by kernel_rfl) (fun _ _ _ h => h) (yields_not (by rfl)) hHeld ?_
        (try simp only [Act.put, List.setIfInBounds_toArray, List.set_cons_zero, List.set_cons_succ])
        refine wpAnyH_tk (i := 14) (v := ?vz25) 30 rfl rfl (by kernel_rfl) (by kernel_rfl) (by kernel_rfl) (fun _ _ _ h => h) (Or.inl ⟨by rfl, ?yz25⟩) hHeld ?rz25
        case yz25 => (intro w hSw; go_simp; try (first | with_reducible rfl | (rw [if_neg (by omega)]; try with_reducible rfl)))
        (try simp only [Act.put, List.setIfInBounds_toArray, List.set_cons_zero, List.set_cons_succ])
        refine wpAnyH_done (by kernel_rfl) ?_ _
        skip
        go_wp2_with fail
        go_roundw
        case rel => exact ⟨k + 1, by omega, by go_num, HNN, ⟨HK4.out.tail.drew⟩, ⟨below_drew HW4.out⟩⟩
        case measure => simp [intOf]; omega
    · obtain rfl : k = 13 := by omega
      have HF := Aside0.mk (opOf_none HN.out)
      go_wp2_with (first | ((with_reducible refine gate_dst (N := 84) rfl ?_); refine build35z rfl rfl ?_) | (refine store35 rfl rfl (.tmp 2) (.tmp 84) rfl rg rfl op0 rfl rfl (m := op0) rfl HB.out.head ?_; intro w5 h21 h22 h23; have HK5 := Aside0.mk (HB.out.put h22 HRG.out (by simp) h21); clear h21 h22 h23))
      refine bodyPost_ret (results_ct rfl _ _ rg 35 _ (0, 0) _ rfl HK5.out.head Tryd.underlying35 rfl (by rw [List.size_toArray, opC_len op0 rfl]; exact size35)) rfl ?_
      unfold OpEnd
      rw [HF.out]
      exact ⟨op0, rfl, goodop0, (fun o' h => by cases h), HK5.out.below⟩
end
section
set_option linter.unusedSimpArgs false
set_option linter.unusedVariables false
open Go.RowKit Go.Proofs.YtagpldkgkchfcaaDoorW.PrintWords Go.Proofs.YtagpldkgkchfcaaDoorW.PrintLast Go.Proofs.YtagpldkgkchfcaaDoorW.PrintMore Arr PTextPrints

abbrev RK (w : World) (B : Nat) (v : Value) (l : List Int) : Prop := Kd.R (Kd.int .i64) 3 w B (fun _ => True) v l
def wreckC (v : Value) (s t : Int) : List Value := [v, .int .u64 s, .int .i64 t]
theorem size39 : (Tryd.prog.info? 39).map (·.size) = some 3 := by kernel_rfl
theorem zero39 : (Tryd.prog.info? 39).map (·.zero) = some (some (.agg (wreckC (.slice none 0 0) 0 0).toArray)) := by kernel_rfl
theorem wreckC_one (A : Option Addr) (n c : Nat) (s t : Int) : ∀ v ∈ wreckC (.slice A n c) s t, v.oneCell' = true := by
  intro v hv
  simp only [wreckC, List.mem_cons, List.not_mem_nil, or_false] at hv
  rcases hv with rfl | rfl | rfl <;> rfl
def stepCrash (k : List Int) (s t : Int) : Step := { step0 with crash := true, soft := s, tear := t, keep := k }
def stepArm (n : Int) : Step := { step0 with arm := n }
def stepOp (o : Op) : Step := { step0 with op := o }
section
variable {ops : Array Oper} {rest : List Oper} {o : Oper} {a : Act} {Q : Exit → Act → World → Prop} {w0 W : World} {B : Nat}
theorem build41z (hgd : o.guard = none) (ho : o.op = .build 41 #[]) (h : wpList Tryd.prog ops Q rest (a.put o.dst (.agg (stepC step0 (.slice none 0 0)).toArray)) W) : wpList Tryd.prog ops Q (o :: rest) a W :=
  Kd.event_run hgd (by simp only [execOp, ho, List.map_toArray, List.map_nil]; kernel_rfl) h
theorem build41c (hgd : o.guard = none) (x : Operand) (ho : o.op = .build 41 #[(2, .const (.bool true)), (3, x)]) (A : Option Addr) (n c : Nat) (s t : Int) (k : List Int) (hx : a.eval x = .agg (wreckC (.slice A n c) s t).toArray) (h : wpList Tryd.prog ops Q rest (a.put o.dst (.agg (stepC (stepCrash k s t) (.slice A n c)).toArray)) W) : wpList Tryd.prog ops Q (o :: rest) a W :=
  Kd.event_run hgd (by simp only [execOp, ho, List.map_toArray, List.map_cons, List.map_nil, hx]; kernel_rfl) h
theorem build39 (hgd : o.guard = none) (x y : Operand) (ho : o.op = .build 39 #[(1, x), (2, y)]) (s t : Int) (hx : a.eval x = .int .u64 s) (hy : a.eval y = .int .i64 t) (h : wpList Tryd.prog ops Q rest (a.put o.dst (.agg (wreckC (.slice none 0 0) s t).toArray)) W) : wpList Tryd.prog ops Q (o :: rest) a W :=
  Kd.event_run hgd (by simp only [execOp, ho, List.map_toArray, List.map_cons, List.map_nil, hx, hy]; kernel_rfl) h
theorem alloc39 (hgd : o.guard = none) (ho : o.op = .alloc 39)
    (h : ∀ w1 g, W.heap.size ≤ g → Blk w1 g 39 (wreckC (.slice none 0 0) 0 0) → W.grownBy w1 none → wpList Tryd.prog ops Q rest (a.put o.dst (.pointer (some ⟨g, 0, none⟩))) w1) : wpList Tryd.prog ops Q (o :: rest) a W :=
  wpl_alloc hgd 39 ho _ zero39 _ rfl h
theorem loadB39 (hgd : o.guard = none) (p : Operand) (ho : o.op = .load 39 p) (g : Nat) (hp : a.eval p = .pointer (some ⟨g, 0, none⟩)) (v : Value) (s t : Int) (hb : Blk W g 39 (wreckC v s t))
    (h : wpList Tryd.prog ops Q rest (a.put o.dst (.agg (wreckC v s t).toArray)) W) : wpList Tryd.prog ops Q (o :: rest) a W :=
  wpl_loadAll hgd 39 p ho g hp hb Tryd.underlying39 rfl size39 h
theorem store39 (hgd : o.guard = none) (hN : o.dst = none) (p x : Operand) (ho : o.op = .store 39 p x) (g : Nat) (hp : a.eval p = .pointer (some ⟨g, 0, none⟩)) (A : Option Addr) (n c : Nat) (s t : Int) (hx : a.eval x = .agg (wreckC (.slice A n c) s t).toArray) {vm : Value} {sm tm : Int} (hb : Blk W g 39 (wreckC vm sm tm))
    (h : ∀ w1, Blk w1 g 39 (wreckC (.slice A n c) s t) → W.grownBy w1 (some g) → w1.heap.size = W.heap.size → wpList Tryd.prog ops Q rest a w1) : wpList Tryd.prog ops Q (o :: rest) a W :=
  wpl_storeAll hgd hN 39 p x ho g hp (wreckC (.slice A n c) s t) hx size39 (wreckC_one A n c s t) hb rfl h
/-- A number appended. -/
theorem app36 (hgd : o.guard = none) (s x : Operand) (ho : o.op = .call { callee := .builtin .append, args := #[s, x], argTypes := #[36, 36] })
    (v : Value) (l : List Int) (p : Int) (hs : a.eval s = v) (hx : a.eval x = .slice (some ⟨W.heap.size, 0, none⟩) 1 1) (HO : RK W B v l) (HB : Below B w0 W) (hb : B ≤ W.heap.size) (hl : l.length ≤ 4294967296)
    (h : ∀ v1 w1, RK w1 B v1 (l ++ [p]) → Below B w0 w1 → W.grownBy w1 v.ownBlock → (v1.ownBlock = v.ownBlock ∨ ∃ b, v1.ownBlock = some b ∧ W.heap.size ≤ b) → wpList Tryd.prog ops Q rest (a.put o.dst v1) w1) : wpList Tryd.prog ops Q (o :: rest) a (W.alloc (.cells #[.int .i64 p] 3)) :=
  Kd.R_append (Kd.int .i64) (w0 := w0) B hgd s x 36 3 (.int .i64 0) 8 ho Tryd.underlying36 info3 rfl (by decide) (by omega) v l p [.int .i64 p] (fun _ => True) (fun _ => False) hs hx rfl (fun _ hk => hk.elim) (fun _ _ => trivial) HO HB hb (by omega)
    fun v1 w1 h1 h2 h3 h4 => h v1 w1 h1 h2 h3 h4
end
/-- What reading a line comes to. -/
def StepEnd (w : World) (r : Option Step) (e : Ending) (w' : World) : Prop := ∃ x v, e = .returned (.tuple #[.agg (stepC x v).toArray, .bool r.isSome]) ∧ Good x ∧ (∀ x', r = some x' → x = x') ∧ RK w' w.heap.size v x.keep ∧ Below w.heap.size w w'
theorem good0 : Good step0 := ⟨rfl, goodop0.byte, goodop0.kind, goodop0.id, goodop0.blk, goodop0.policy, by decide, by decide, by decide, fun y hy => by cases hy⟩
theorem keep_step {r : List Bs} {m : Nat} (hm : m < r.length) : keepOf (r.drop m) = match numOf (r.getD m []), keepOf (r.drop (m + 1)) with
    | some n, some l => some ((n : Int) :: l)
    | _, _ => none := by
  rw [List.drop_eq_getElem_cons hm, List.getD_eq_getElem?_getD, List.getElem?_eq_getElem hm]
  rfl
end
end Go.Proofs.YtagpldkgkchfcaaDoor.Txt
