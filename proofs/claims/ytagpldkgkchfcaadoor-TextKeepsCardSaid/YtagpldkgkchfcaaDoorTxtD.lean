/- Layer 25: walks of join, line, Print, same. -/
import Derived.Test.YtagpldkgkchfcaaDoorTxtC
import Derived.Lib.ItoaLen
namespace Go.Proofs.YtagpldkgkchfcaaDoor.Txt
section
set_option linter.unusedSimpArgs false
set_option linter.unusedVariables false
open Go.RowKit Go.Proofs.YtagpldkgkchfcaaDoorW.PrintWords Go.Proofs.YtagpldkgkchfcaaDoorW.PrintLast Go.Proofs.YtagpldkgkchfcaaDoorW.PrintMore Arr PTextPrints

/-! ### how long a line is -/
theorem joinTail_le {r : List Bs} {m : Nat} (h : ∀ x ∈ r, x.length ≤ m) : (Lib.joinTail [32] r).length ≤ (m + 1) * r.length := by
  induction r with
  | nil => simp [Lib.joinTail]
  | cons x r ih =>
    rw [joinTail_cons]
    have h1 := h x (List.mem_cons_self ..)
    have h2 := ih (fun y hy => h y (List.mem_cons_of_mem _ hy))
    simp only [List.length_cons, List.length_append]
    rw [Nat.mul_succ]
    omega
theorem join_le {xs : List Bs} {m : Nat} (h : ∀ x ∈ xs, x.length ≤ m) : (Lib.join xs [32]).length ≤ (m + 1) * xs.length := by
  cases xs with
  | nil => simp [Lib.join_nil]
  | cons x r =>
    rw [Lib.join_cons, List.length_append]
    have h1 := h x (List.mem_cons_self ..)
    have h2 := joinTail_le (fun y hy => h y (List.mem_cons_of_mem _ hy))
    rw [List.length_cons, Nat.mul_succ]
    omega
theorem dec_len (n : Nat) (h : n < 18446744073709551616) : (dec n).length ≤ 64 := by
  show (Lib.decDigits n).length ≤ 64
  rw [Lib.decDigits_length]
  rcases Nat.eq_zero_or_pos n with rfl | h1
  · rw [Lib.nDigits_small (by omega)]; omega
  · have := Lib.numDigits_eq n h1 h; split at this <;> omega
theorem itoa_len {n : Int} (h : -9223372036854775808 ≤ n ∧ n ≤ 9223372036854775807) : (Lib.itoa n).length ≤ 64 := Nat.le_trans (Lib.itoa_length_le n h.1 h.2) (by omega)
theorem fields_len {o : Op} (h : GoodOp o) : (∀ p ∈ fieldsOf o, p.length ≤ 64) ∧ (fieldsOf o).length ≤ 4 := by
  unfold fieldsOf
  split
  · exact ⟨(fun p hp => by cases hp), by simp⟩
  · rename_i w hw
    have hm := List.mem_of_find?_eq_some hw
    have hn : w.name.length ≤ 10 ∧ w.tells.length ≤ 3 := by
      simp only [wordList, List.mem_cons, List.not_mem_nil, or_false] at hm
      rcases hm with rfl | rfl | rfl | rfl | rfl | rfl | rfl | rfl | rfl | rfl | rfl | rfl | rfl <;> decide
    refine ⟨fun p hp => ?_, by simp; omega⟩
    rcases List.mem_cons.1 hp with rfl | hp
    · omega
    · obtain ⟨t, _, rfl⟩ := List.mem_map.1 hp
      unfold tell
      split
      · exact itoa_len h.id
      · split
        · exact itoa_len h.blk
        · split
          · exact itoa_len h.policy
          · rw [hexD_length, h.len]; omega
theorem parts_len {x : Step} (h : Good x) : (∀ p ∈ parts x, p.length ≤ 64) ∧ (parts x).length ≤ 4 + x.keep.length := by
  unfold parts
  split
  · refine ⟨fun p hp => ?_, by simp; omega⟩
    simp only [List.cons_append, List.nil_append, List.mem_cons, List.mem_map] at hp
    rcases hp with rfl | rfl | rfl | ⟨y, hy, rfl⟩
    · decide
    · exact dec_len _ (by have := h.soft; omega)
    · exact itoa_len h.tear
    · exact itoa_len (h.keep y hy)
  · split
    · refine ⟨fun p hp => ?_, by simp; omega⟩
      simp only [List.mem_cons, List.not_mem_nil, or_false] at hp
      rcases hp with rfl | rfl
      · decide
      · exact itoa_len h.arm
    · have := fields_len h.op
      exact ⟨this.1, by omega⟩
theorem line_len {x : Step} (h : Good x) : (lineOf x).length ≤ 300 + 65 * x.keep.length := by
  obtain ⟨h1, h2⟩ := parts_len h
  have h3 := join_le h1
  unfold lineOf
  rw [List.length_append]
  have h4 : (64 + 1) * (parts x).length ≤ 65 * (4 + x.keep.length) := Nat.mul_le_mul_left 65 h2
  simp only [List.length_cons, List.length_nil]
  omega
/-! ### a row of strings, joined -/
theorem str_join (l : List Bs) (sep : Bs) : (⟨(Lib.join ((sl l).map (·.data.toList)) (str sep).data.toList).toArray⟩ : ByteArray) = str (Lib.join l sep) := by
  rw [sl_data, str_data]; rfl
theorem join_calls (w : World) (B : Nat) (v : Value) (l : List Bs) (h : RS w B v (sl l)) (h1 : ∀ p ∈ l, p.length ≤ 64) (h2 : l.length ≤ 1000000) : Calls Tryd.prog 39 #[v, .string (str [32])] w fun e w' => e = .returned (.string (str (Lib.join l [32]))) ∧ Below w.heap.size w w' := by
  rcases Nat.eq_zero_or_pos l.length with h0 | h0
  · obtain rfl : l = [] := List.length_eq_zero_iff.1 h0
    obtain ⟨A, c, rfl⟩ := Kd.R_slice h
    refine (Tryd.strings_Join_none A c (str [32]) w).mono ?_
    rintro e w' ⟨rfl, rfl⟩
    exact ⟨rfl, Below.refl _ _⟩
  · have hls : (sl l).length = l.length := by simp [sl]
    obtain ⟨g, cap, rfl, hg1, hg2, _⟩ := Kd.R_form h (by omega)
    obtain ⟨_, hc, hC⟩ := Kd.R_reads' h
    obtain ⟨_, _, hC3⟩ := hC
    obtain ⟨ad, e, hcell⟩ := hC3 (by omega)
    injection e with e
    subst e
    refine (Tryd.strings_Join g 0 cap (sl l) (str [32]) w ?_ hg2 (by omega) (by omega) ?_).mono ?_
    · intro j x hj
      obtain ⟨cs, hcl, hK, hat⟩ := hcell j x hj
      obtain rfl : cs = [.string x] := hK
      have := hat 0 (.string x) rfl
      rw [addr_at] at this
      simpa [show Kd.string.sz = 1 from rfl] using this
    · rw [sl_data, str_data]
      have := join_le h1
      have h3 : (64 + 1) * l.length ≤ 65 * 1000000 := Nat.mul_le_mul_left 65 h2
      omega
    · rintro e w' ⟨rfl, hb⟩
      exact ⟨by rw [str_join], hb⟩
end
section
set_option linter.unusedSimpArgs false
set_option linter.unusedVariables false
open Go.RowKit Go.Proofs.YtagpldkgkchfcaaDoorW.PrintWords Go.Proofs.YtagpldkgkchfcaaDoorW.PrintLast Go.Proofs.YtagpldkgkchfcaaDoorW.PrintMore Arr PTextPrints

section
variable {ops : Array Oper} {rest : List Oper} {o : Oper} {a : Act} {Q : Exit → Act → World → Prop} {w0 W : World} {B : Nat} {Kc : Act → World → Prop}
theorem box41 (hgd : o.guard = none) (x : Operand) (ho : o.op = .box 41 x) (f : Step) (v : Value) (hx : a.eval x = .agg (stepC f v).toArray)
    (h : ∀ w1 g, W.heap.size ≤ g → Blk w1 g 41 (stepC f v) → W.grownBy w1 none → wpList Tryd.prog ops Q rest (a.put o.dst (.pointer (some ⟨g, 0, none⟩))) w1) : wpList Tryd.prog ops Q (o :: rest) a W :=
  wpl_box hgd 41 x ho _ hx _ rfl h
/-- An operation inside a step, read. -/
theorem loadOp (hgd : o.guard = none) (p : Operand) (ho : o.op = .load 35 p) (g : Nat) (hp : a.eval p = .pointer (some ⟨g, 0, none⟩)) (f : Step) (v : Value) (hl : f.op.data.length = 32) (hb : Blk W g 41 (stepC f v))
    (h : wpList Tryd.prog ops Q rest (a.put o.dst (.agg (opC f.op).toArray)) W) : wpList Tryd.prog ops Q (o :: rest) a W :=
  wpl_load hgd 35 p ho ⟨g, 0, none⟩ hp (opC f.op) Tryd.underlying35 rfl (by rw [opC_len _ hl]; exact size35) (fun j u hu => by
    rw [addr_at, Nat.zero_add]
    refine hb.cell ?_
    unfold stepC
    rw [List.getElem?_append_left (List.getElem?_eq_some_iff.1 hu).1]
    exact hu) h
/-- Strings laid in a slice. -/
theorem step_lits (N : Tmp) (hd : o.dst = some N) (x0 x1 x2 : Operand) (ho : o.op = .buildSlice 69 3 #[(0, x0), (1, x1), (2, x2)]) (p q r : ByteArray) (h0 : a.eval x0 = .string p) (h1 : a.eval x1 = .string q) (h2 : a.eval x2 = .string r) (hB : B ≤ W.heap.size)
    (h : ∀ v w1, RS w1 B v [p, q, r] → W.grownBy w1 none → Kc (a.put (some N) v) w1) : Oper.wp Tryd.prog o a W Kc Q := by
  have hrun : (execOp a.eval o).run Tryd.prog W = .ok (.value (.slice (some ⟨W.heap.size, 0, none⟩) 3 3)) (W.alloc (.cells (encs Value.string [p, q, r]).toArray 9)) := by
    simp only [execOp, ho, List.map_toArray, List.map_cons, List.map_nil, h0, h1, h2]
    kernel_rfl
  unfold Oper.wp
  rw [hrun]
  show Kc (a.put o.dst _) _
  rw [hd]
  exact h _ _ (Kd.R_of_own (own_lit_of (enc := Value.string) W B 9 [p, q, r] hB (by simp)) (fun _ _ => trivial)) (World.grownBy_alloc W _ none)
end
theorem step_at (x : Step) (v : Value) (hl : x.op.data.length = 32) : (stepC x v)[37]? = some (.int .i64 x.arm) ∧ (stepC x v)[38]? = some (.bool x.crash) ∧ (stepC x v)[39]? = some v ∧ (stepC x v)[40]? = some (.int .u64 x.soft) ∧ (stepC x v)[41]? = some (.int .i64 x.tear) := by
  unfold stepC
  have := opC_len x.op hl
  refine ⟨?_, ?_, ?_, ?_, ?_⟩ <;> rw [List.getElem?_append_right (by omega), this] <;> rfl
theorem str_snoc10 (l : Bs) : (str l ++ ⟨#[10]⟩ : ByteArray) = str (l ++ [10]) := by
  apply ByteArray.ext
  simp [str]
def LineEnd (w : World) (x : Step) (e : Ending) (w' : World) : Prop := e = .returned (.string (str (lineOf x))) ∧ Below w.heap.size w w'
set_option maxRecDepth 10000 in
set_option maxHeartbeats 4000000 in
theorem line_calls (w : World) (hE : Env w) (x : Step) (hG : Good x) (A : Option Addr) (c : Nat) (hC : (Kd.int .i64).C w A x.keep.length x.keep) (hc : x.keep.length ≤ c) (hl : x.keep.length ≤ 1000) : Calls Tryd.prog 26 #[.agg (stepC x (.slice A x.keep.length c)).toArray] w (LineEnd w x) := by
  have HK := Aside0.mk (Keeps.refl w)
  have HE := Aside0.mk hE
  have HG := Aside0.mk hG
  have HC := Aside0.mk hC
  have HL := Aside0.mk hG.len
  have HP := Aside0.mk (parts_len hG)
  have ht := hG.tear
  have ha := hG.arm
  have hs := hG.soft
  have HJS := Aside0.mk (show (str (Lib.join (parts x) [32])).size ≤ 1000000 by
    rw [Lib.size_eq, str_data]
    have h1 := join_le HP.out.1
    have h2 : (64 + 1) * (parts x).length ≤ 65 * (4 + x.keep.length) := Nat.mul_le_mul_left 65 HP.out.2
    omega)
  clear hE hG hC
  by_cases hcr : x.crash = true
  · have HPE := Aside0.mk (show parts x = [sCrash, dec x.soft.toNat, Lib.itoa x.tear] ++ x.keep.map Lib.itoa by unfold parts; rw [if_pos hcr])
    go_enter Tryd.func26, Tryd.ntmps26
    go_upto_region 4 with (first | ((with_reducible refine gate_dst (N := 1) rfl ?_); refine box41 rfl (.tmp 0) rfl x _ rfl ?_; intro w1 g h1 h2 h3; have HK1 := Aside0.mk (HK.out.new h3 h2); have HG1 := Aside0.mk h1; have q1 := h2.cell (step_at x _ HL.out).2.1; rw [hcr] at q1; clear h1 h2 h3))
    obtain ⟨u, hu⟩ : ∃ u : Nat, x.soft = (u : Int) := ⟨x.soft.toNat, by omega⟩
    have hu2 : u < 18446744073709551616 := by omega
    have C40 := Aside0.mk (show (stepC x (.slice A x.keep.length c))[40]? = some (.int .u64 (u : Int)) by rw [(step_at x _ HL.out).2.2.2.1, hu])
    have HDU := Aside0.mk (show x.soft.toNat = u by omega)
    have C41 := Aside0.mk (step_at x (.slice A x.keep.length c) HL.out).2.2.2.2
    have C39 := Aside0.mk (step_at x (.slice A x.keep.length c) HL.out).2.2.1
    clear hs hu q1
    refine wp_region_held_drew (S := (fun w' => Blk w' g 41 (stepC x (.slice A x.keep.length c)))) (by kernel_rfl) (by exact HK1.out.head.drew) (fun hHeld => ?_)
    refine wpAnyH_tk (i := 0) (v := ?vz1) 12 rfl rfl (by kernel_rfl) (by kernel_rfl) (by kernel_rfl) (fun _ _ _ h => h) (Or.inl ⟨by rfl, ?yz1⟩) hHeld ?rz1
    case yz1 => (intro w hSw; go_simp; try (first | with_reducible rfl | (rw [if_neg (by omega)]; try with_reducible rfl)))
    (try simp only [Act.put, List.setIfInBounds_toArray, List.set_cons_zero, List.set_cons_succ])
    refine wpAnyH_tk (i := 1) (v := ?vz2) 13 rfl rfl (by kernel_rfl) (by kernel_rfl) (by kernel_rfl) (fun _ _ _ h => h) (Or.inl ⟨by rfl, ?yz2⟩) hHeld ?rz2
    case yz2 => (intro w hSw; go_simp; try (first | with_reducible rfl | (rw [if_neg (by omega)]; try with_reducible rfl)))
    (try simp only [Act.put, List.setIfInBounds_toArray, List.set_cons_zero, List.set_cons_succ])
    refine wpAnyH_tk (i := 2) (v := _) 14 rfl rfl (by kernel_rfl) (by kernel_rfl) (by kernel_rfl) (fun _ _ _ h => h) (yields_cell (by rfl) 37 (.tmp 13) rfl ⟨g, 40, none⟩ rfl (v := .int .u64 (u : Int)) (fun w h => h.cell C40.out) Tryd.underlying37 rfl) hHeld ?_
    (try simp only [Act.put, List.setIfInBounds_toArray, List.set_cons_zero, List.set_cons_succ])
    refine wpAnyH_tk (i := 4) (v := ?vz3) 16 rfl rfl (by kernel_rfl) (by kernel_rfl) (by kernel_rfl) (fun _ _ _ h => h) (Or.inl ⟨by rfl, ?yz3⟩) hHeld ?rz3
    case yz3 => (intro w hSw; go_simp; try (first | with_reducible rfl | (rw [if_neg (by omega)]; try with_reducible rfl)))
    (try simp only [Act.put, List.setIfInBounds_toArray, List.set_cons_zero, List.set_cons_succ])
    refine wpAnyH_tk (i := 5) (v := ?vz4) 17 rfl rfl (by kernel_rfl) (by kernel_rfl) (by kernel_rfl) (fun _ _ _ h => h) (Or.inl ⟨by rfl, ?yz4⟩) hHeld ?rz4
    case yz4 => (intro w hSw; go_simp; try (first | with_reducible rfl | (rw [if_neg (by omega)]; try with_reducible rfl)))
    (try simp only [Act.put, List.setIfInBounds_toArray, List.set_cons_zero, List.set_cons_succ])
    refine wpAnyH_tk (i := 6) (v := _) 18 rfl rfl (by kernel_rfl) (by kernel_rfl) (by kernel_rfl) (fun _ _ _ h => h) (yields_cell (by rfl) 3 (.tmp 17) rfl ⟨g, 41, none⟩ rfl (v := .int .i64 x.tear) (fun w h => h.cell C41.out) Tryd.underlying3 rfl) hHeld ?_
    (try simp only [Act.put, List.setIfInBounds_toArray, List.set_cons_zero, List.set_cons_succ])
    refine wpAnyH_one (i := 3) (by kernel_rfl) rfl (fun K hK => ?_)
    go_simp
    go_wp2_with (go_at_call 36; refine (format_calls u hu2 _ (HE.out.below HK1.out.drew.below).pow).mono ?_; rintro e w2 ⟨rfl, hb2⟩; have HK2 := Aside0.mk (HK1.out.drew.step hb2); clear hb2)
    refine hK.out _ _ (by exact HK2.out.head) (fun hHeld => ?_)
    clear hK K
    refine wpAnyH_one (i := 7) (by kernel_rfl) rfl (fun K hK => ?_)
    go_simp
    go_wp2_with (go_at_call 37; refine (itoa_calls x.tear (by omega) (by omega) _ (HE.out.below HK2.out.below).pow).mono ?_; rintro e w3 ⟨rfl, hb3⟩; have HK3 := Aside0.mk (HK2.out.step hb3); clear hb3)
    refine hK.out _ _ (by exact HK3.out.head) (fun hHeld => ?_)
    clear hK K
    refine wpAnyH_one (i := 8) (by kernel_rfl) rfl (fun K hK => ?_)
    rw [if_pos (by rfl)]
    refine step_lits 20 rfl _ _ _ rfl _ _ _ rfl rfl rfl HK3.out.size ?_; intro v4 w4 h4 h5; have HR4 := Aside0.mk h4; have HK4 := Aside0.mk (HK3.out.fresh h5); clear h4 h5
    refine hK.out _ _ (by exact HK4.out.head) (fun hHeld => ?_)
    clear hK K
    (try simp only [Act.put, List.setIfInBounds_toArray, List.set_cons_zero, List.set_cons_succ])
    refine wpAnyH_tk (i := 9) (v := ?vz5) 3 rfl rfl (by kernel_rfl) (by kernel_rfl) (by kernel_rfl) (fun _ _ _ h => h) (Or.inl ⟨by rfl, ?yz5⟩) hHeld ?rz5
    case yz5 => (intro w hSw; go_simp; try (first | with_reducible rfl | (rw [if_neg (by omega)]; try with_reducible rfl)))
    (try simp only [Act.put, List.setIfInBounds_toArray, List.set_cons_zero, List.set_cons_succ])
    refine wpAnyH_done (by kernel_rfl) ?_ _
    skip
    clear hHeld
    have HR4' := Aside0.mk (show RS w4 w.heap.size v4 (sl ([sCrash, dec x.soft.toNat, Lib.itoa x.tear] ++ (x.keep.take 0).map Lib.itoa)) by
      rw [HDU.out, List.take_zero, List.map_nil, List.append_nil]; exact HR4.out)
    have q39 := HK4.out.head.cell C39.out
    have hmx := Kd.C_max HC.out
    go_wp2_with fail
    go_loopw [3, 5, 25] (fun v _ i wr => ∃ k : Nat, k ≤ x.keep.length ∧ i = .int .i64 k ∧ Aside0 (RS wr w.heap.size v (sl ([sCrash, dec x.soft.toNat, Lib.itoa x.tear] ++ (x.keep.take k).map Lib.itoa))) ∧ Aside0 (Keeps w [(g, 41, stepC x (.slice A x.keep.length c))] wr)) (fun _ _ i _ => x.keep.length - (intOf i).toNat)
    case atStart => exact ⟨0, by omega, rfl, HR4', HK4⟩
    case round =>
      obtain ⟨k, hk, rfl, HR, HB⟩ := hrel
      rename World => wr
      by_cases hlt : k < x.keep.length
      · have hd : decide ((k : Int) < x.keep.length) = true := by simp; omega
        obtain ⟨ad, hA, hcy⟩ := Kd.at_int (Kd.C_below HC.out HB.out.below) (k : Int) (by omega) (by omega)
        subst hA
        rw [Int.toNat_natCast] at hcy
        have hyr := HG.out.keep (rd x.keep k) (by unfold rd; rw [Int.toNat_natCast, List.getD_eq_getElem?_getD, List.getElem?_eq_getElem hlt]; exact List.getElem_mem _)
        have HT := Aside0.mk (show x.keep.take (k + 1) = x.keep.take k ++ [rd x.keep k] by unfold rd; rw [List.take_add_one, Int.toNat_natCast, List.getD_eq_getElem?_getD, List.getElem?_eq_getElem hlt]; rfl)
        obtain ⟨y, hy⟩ : ∃ y, y = rd x.keep k := ⟨_, rfl⟩
        rw [← hy] at hcy hyr HT
        obtain ⟨y0, y1⟩ := hyr
        clear hy
        have HTL := Aside0.mk (show (sl ([sCrash, dec x.soft.toNat, Lib.itoa x.tear] ++ (x.keep.take k).map Lib.itoa)).length ≤ 100000 by simp [sl]; omega)
        go_wp2_with (first | (go_at_call 37; refine (itoa_calls y (by omega) (by omega) _ (HE.out.below HB.out.below).pow).mono ?_; rintro e w6 ⟨rfl, hb⟩; have HB2 := Aside0.mk (HB.out.step hb); have HR2 := Aside0.mk (Kd.R_below HR.out hb); clear hb) | ((with_reducible refine gate_dst (N := 33) rfl ?_); refine app69 rfl (.tmp 29) (.tmp 32) rfl _ _ _ rfl rfl HR2.out (w0 := w) HB2.out.below HB2.out.size HTL.out ?_; intro v1 w7 h1 h2 h3 h4; have HR3 := Aside0.mk (show RS w7 w.heap.size v1 (sl ([sCrash, dec x.soft.toNat, Lib.itoa x.tear] ++ (x.keep.take (k + 1)).map Lib.itoa)) by rw [HT.out, List.map_append, ← List.append_assoc, List.map_cons, List.map_nil, sl_snoc]; exact h1); have HB3 := Aside0.mk (keeps_row HB2.out h3 (Kd.R_base HR2.out) (by intro b hm; obtain rfl := List.mem_singleton.1 hm; exact own_ne (Kd.own_of_R HR2.out) HB2.out.head (by decide))); clear h1 h2 h3 h4))
        go_roundw
        case rel => exact ⟨k + 1, by omega, by go_num, HR3, HB3⟩
        case measure => simp [intOf]; omega
      · obtain rfl : k = x.keep.length := by omega
        have hd : decide ((x.keep.length : Int) < x.keep.length) = false := by simp
        rw [List.take_length, ← HPE.out] at HR
        have hjs := HJS.out
        go_wp2_with (first | (go_at_call 39; refine (join_calls _ w.heap.size _ (parts x) HR.out HP.out.1 (by have := HP.out.2; omega)).mono ?_; rintro e w6 ⟨rfl, hb⟩; have HB2 := Aside0.mk (HB.out.step hb); clear hb))
        go_ret
        unfold LineEnd
        rw [str_snoc10]
        exact ⟨rfl, HB2.out.below⟩
  · have hcr2 : x.crash = false := by simpa using hcr
    clear hcr
    by_cases har : 0 < x.arm
    · have HPE := Aside0.mk (show parts x = [sArm, Lib.itoa x.arm] by unfold parts; rw [if_neg (by rw [hcr2]; decide), if_pos har])
      have hd : decide (x.arm > 0) = true := by simp; omega
      have hjs := HJS.out
      go_enter Tryd.func26, Tryd.ntmps26
      go_wp2_with (first | ((with_reducible refine gate_dst (N := 1) rfl ?_); refine box41 rfl (.tmp 0) rfl x _ rfl ?_; intro w1 g h1 h2 h3; have HK1 := Aside0.mk (HK.out.new h3 h2); have HG1 := Aside0.mk h1; have q1 := h2.cell (step_at x _ HL.out).2.1; rw [hcr2] at q1; have q2 := h2.cell (step_at x _ HL.out).1; clear h1 h2 h3) | (go_at_call 37; refine (itoa_calls x.arm (by omega) (by omega) _ (HE.out.below HK1.out.below).pow).mono ?_; rintro e w6 ⟨rfl, hb⟩; have HB2 := Aside0.mk (HK1.out.step hb); clear hb) | (go_at_call 39; refine (join_calls _ w.heap.size _ (parts x) (by rw [HPE.out]; exact Kd.R_of_own (own_lit_of (enc := Value.string) w6 w.heap.size 9 [str sArm, str (Lib.itoa x.arm)] HB2.out.size (by simp)) (fun _ _ => trivial)) HP.out.1 (by have := HP.out.2; omega)).mono ?_; rintro e w7 ⟨rfl, hb⟩; have HB3 := Aside0.mk ((HB2.out.fresh (World.grownBy_alloc w6 _ none)).step hb); clear hb))
      go_ret
      unfold LineEnd
      rw [str_snoc10]
      exact ⟨rfl, HB3.out.below⟩
    · have HPE := Aside0.mk (show parts x = fieldsOf x.op by unfold parts; rw [if_neg (by rw [hcr2]; decide), if_neg har])
      have hd : decide (x.arm > 0) = false := by simp; omega
      have hjs := HJS.out
      go_enter Tryd.func26, Tryd.ntmps26
      go_wp2_with (first | ((with_reducible refine gate_dst (N := 1) rfl ?_); refine box41 rfl (.tmp 0) rfl x _ rfl ?_; intro w1 g h1 h2 h3; have HK1 := Aside0.mk (HK.out.new h3 h2); have HG1 := Aside0.mk h1; have q1 := h2.cell (step_at x _ HL.out).2.1; rw [hcr2] at q1; have q2 := h2.cell (step_at x _ HL.out).1; clear h1 h2 h3) | ((with_reducible refine gate_dst (N := 7) rfl ?_); refine loadOp rfl (.tmp 6) rfl g rfl x _ HL.out HK1.out.head ?_) | (go_at_call 38; refine (fields_calls _ (HE.out.below HK1.out.below) x.op HG.out.op).mono ?_; rintro e w6 ⟨v6, rfl, hr, hb⟩; have HR2 := Aside0.mk hr; have HB2 := Aside0.mk (HK1.out.step hb); clear hb hr) | (go_at_call 39; refine (join_calls _ _ _ (parts x) (by rw [HPE.out]; exact HR2.out) HP.out.1 (by have := HP.out.2; omega)).mono ?_; rintro e w7 ⟨rfl, hb⟩; have HB3 := Aside0.mk (HB2.out.step hb); clear hb))
      go_ret
      unfold LineEnd
      rw [str_snoc10]
      exact ⟨rfl, HB3.out.below⟩
end
section
set_option linter.unusedSimpArgs false
set_option linter.unusedVariables false
open Go.RowKit Go.Proofs.YtagpldkgkchfcaaDoorW.PrintWords Go.Proofs.YtagpldkgkchfcaaDoorW.PrintLast Go.Proofs.YtagpldkgkchfcaaDoorW.PrintMore Arr PTextPrints

def sg (l : List Step) (i : Nat) : Step := l.getD i step0
theorem sg_mem (l : List Step) (i : Nat) (h : i < l.length) : sg l i ∈ l := by
  unfold sg; rw [List.getD_eq_getElem?_getD, List.getElem?_eq_getElem h]; exact List.getElem_mem h
theorem take_sg (l : List Step) (k : Nat) (h : k < l.length) : l.take (k + 1) = l.take k ++ [sg l k] := by
  unfold sg; rw [List.take_add_one, List.getElem?_eq_getElem h, List.getD_eq_getElem?_getD, List.getElem?_eq_getElem h]; rfl
theorem at41 {w : World} {A : Option Addr} {n : Nat} {l : List Step} (h : k41.C w A n l) (i : Nat) (h1 : i < n) : ∃ ad Ak ck, A = some ad ∧ (∀ j u, (stepC (sg l i) (.slice Ak (sg l i).keep.length ck))[j]? = some u → w.cell? ((ad.add (i * 42)).add j) = some u) ∧ (sg l i).op.data.length = 32 ∧ (sg l i).keep.length ≤ ck ∧ (Kd.int .i64).C w Ak (sg l i).keep.length (sg l i).keep := by
  have h2 := Kd.C_get h step0 (i : Int) (by omega) (by omega)
  rw [k41_sz, Int.toNat_natCast] at h2
  obtain ⟨ad, c, e, _, hK, hc0⟩ := h2
  obtain ⟨Ak, ck, h3, hl, hk, hC⟩ := k41_open hK
  rw [h3] at hc0
  refine ⟨ad, Ak, ck, e, fun j u hu => ?_, hl, hk, hC⟩
  rw [add_add]
  exact hc0 j u hu
section
variable {ops : Array Oper} {rest : List Oper} {o : Oper} {a : Act} {Q : Exit → Act → World → Prop} {w0 W : World} {B : Nat}
theorem load41 (hgd : o.guard = none) (p : Operand) (ho : o.op = .load 41 p) (ad : Addr) (hp : a.eval p = .pointer (some ad)) (x : Step) (v : Value) (hl : x.op.data.length = 32) (hc : ∀ j u, (stepC x v)[j]? = some u → W.cell? (ad.add j) = some u)
    (h : wpList Tryd.prog ops Q rest (a.put o.dst (.agg (stepC x v).toArray)) W) : wpList Tryd.prog ops Q (o :: rest) a W :=
  wpl_load hgd 41 p ho ad hp (stepC x v) Tryd.underlying41 rfl (by rw [stepC_len x v hl]; exact size41) hc h
theorem loadB41 (hgd : o.guard = none) (p : Operand) (ho : o.op = .load 41 p) (g : Nat) (hp : a.eval p = .pointer (some ⟨g, 0, none⟩)) (x : Step) (v : Value) (hl : x.op.data.length = 32) (hb : Blk W g 41 (stepC x v))
    (h : wpList Tryd.prog ops Q rest (a.put o.dst (.agg (stepC x v).toArray)) W) : wpList Tryd.prog ops Q (o :: rest) a W :=
  wpl_loadAll hgd 41 p ho g hp hb Tryd.underlying41 rfl (by rw [stepC_len x v hl]; exact size41) h
theorem alloc41 (hgd : o.guard = none) (ho : o.op = .alloc 41)
    (h : ∀ w1 g, W.heap.size ≤ g → Blk w1 g 41 (stepC step0 (.slice none 0 0)) → W.grownBy w1 none → wpList Tryd.prog ops Q rest (a.put o.dst (.pointer (some ⟨g, 0, none⟩))) w1) : wpList Tryd.prog ops Q (o :: rest) a W :=
  wpl_alloc hgd 41 ho _ zero41 _ rfl h
theorem store41 (hgd : o.guard = none) (hN : o.dst = none) (p x : Operand) (ho : o.op = .store 41 p x) (g : Nat) (hp : a.eval p = .pointer (some ⟨g, 0, none⟩)) (f : Step) (A : Option Addr) (n c : Nat) (hl : f.op.data.length = 32) (hx : a.eval x = .agg (stepC f (.slice A n c)).toArray) {m : Step} {vm : Value} (hm : m.op.data.length = 32) (hb : Blk W g 41 (stepC m vm))
    (h : ∀ w1, Blk w1 g 41 (stepC f (.slice A n c)) → W.grownBy w1 (some g) → w1.heap.size = W.heap.size → wpList Tryd.prog ops Q rest a w1) : wpList Tryd.prog ops Q (o :: rest) a W :=
  wpl_storeAll hgd hN 41 p x ho g hp (stepC f (.slice A n c)) hx (by rw [stepC_len f _ hl]; exact size41) (stepC_one f A n c) hb (by rw [stepC_len f _ hl, stepC_len m _ hm]) h
end
theorem print_take (l : List Step) (k : Nat) (h : k < l.length) : printOf (l.take (k + 1)) = printOf (l.take k) ++ lineOf (sg l k) := by
  rw [take_sg l k h]; unfold printOf; simp
/-- Steps that came in, few of them. -/
structure Steps (w : World) (A : Option Addr) (l : List Step) : Prop where
  cells : k41.C w A l.length l
  good : ∀ x ∈ l, Good x
  few : l.length ≤ 800
  keep : ∀ x ∈ l, x.keep.length ≤ 400
theorem Steps.below {w w1 : World} {A : Option Addr} {l : List Step} (h : Steps w A l) (hb : Below w.heap.size w w1) : Steps w1 A l := ⟨Kd.C_below h.cells hb, h.good, h.few, h.keep⟩
theorem print_len {l : List Step} (h1 : ∀ x ∈ l, Good x) (h2 : ∀ x ∈ l, x.keep.length ≤ 400) : (printOf l).length ≤ 27000 * l.length := by
  induction l with
  | nil => simp [printOf]
  | cons x l ih =>
    have h3 := line_len (h1 x (List.mem_cons_self ..))
    have h4 := h2 x (List.mem_cons_self ..)
    have h5 := ih (fun y hy => h1 y (List.mem_cons_of_mem _ hy)) (fun y hy => h2 y (List.mem_cons_of_mem _ hy))
    unfold printOf at h5 ⊢
    rw [List.map_cons, List.flatten_cons, List.length_append, List.length_cons, Nat.mul_succ]
    omega
theorem print_len_take {w : World} {A : Option Addr} {l : List Step} (h : Steps w A l) (k : Nat) : (printOf (l.take k)).length ≤ 21600000 := by
  have h1 := print_len (l := l.take k) (fun x hx => h.good x (List.mem_of_mem_take hx)) (fun x hx => h.keep x (List.mem_of_mem_take hx))
  have h2 : (l.take k).length ≤ 800 := Nat.le_trans (List.length_take_le' ..) h.few
  have h3 : 27000 * (l.take k).length ≤ 27000 * 800 := Nat.mul_le_mul_left _ h2
  omega
theorem builder_grown {w w1 : World} {B b : Nat} {bs : List Value} (h : Lib.IsBuilder 63 5 B b bs w) {row : Option Nat} (hg : w.grownBy w1 row) {t : TypeId} (ht : t ≠ 63 ∧ t ≠ 5) (hr : ∀ g, row = some g → ∃ cs : Array Value, w.heap[g]? = some (.cells cs t (0, 0))) : Lib.IsBuilder 63 5 B b bs w1 := by
  have key : ∀ p, Lib.BuilderAt 63 5 B b p bs w → Lib.BuilderAt 63 5 B b p bs w1 := by
    rintro p ⟨hB, v, hbk, hown, hne⟩
    have hlt : b < w.heap.size := (Array.getElem?_eq_some_iff.1 hbk).1
    have h1 : some b ≠ row := by
      intro e
      obtain ⟨cs, hcs⟩ := hr b e.symm
      rw [hbk] at hcs
      injection hcs with hcs
      injection hcs with _ hcs
      exact ht.1 hcs.symm
    have h2 : v.ownBlock = none ∨ v.ownBlock ≠ row := by
      rcases hv : v.ownBlock with _ | g
      · exact .inl rfl
      · right
        intro e
        obtain ⟨cs, hcs⟩ := hr g e.symm
        exact own_ne hown hcs (fun e => ht.2 e.symm) hv.symm
    exact ⟨hB, v, (hg.block b hlt h1).trans hbk, own_other hown hg h2, hne⟩
  rcases h with h | h
  · exact .inl (key _ h)
  · exact .inr (key _ h)
theorem builder_fresh {w w1 : World} {B b : Nat} {bs : List Value} (h : Lib.IsBuilder 63 5 B b bs w) (hg : w.grownBy w1 none) : Lib.IsBuilder 63 5 B b bs w1 := builder_grown h hg (t := 41) (by decide) (fun g e => by cases e)
def PrintEnd (w : World) (l : List Step) (e : Ending) (w' : World) : Prop := e = .returned (.string (str (printOf l))) ∧ Below w.heap.size w w'
set_option maxRecDepth 10000 in
set_option maxHeartbeats 4000000 in
theorem print_calls (w : World) (hE : Env w) (A : Option Addr) (c : Nat) (l : List Step) (hS : Steps w A l) : Calls Tryd.prog 18 #[.slice A l.length c] w (PrintEnd w l) := by
  have HS := Aside0.mk hS
  have HE := Aside0.mk hE
  have hfew := hS.few
  clear hS hE
  go_enter Tryd.func18, Tryd.ntmps18
  go_wp2_with fail
  go_loopw [5, 8] (fun _ i wr => ∃ k : Nat, k ≤ l.length ∧ i = .int .i64 k ∧ Aside0 (Lib.IsBuilder 63 5 w.heap.size w.heap.size (Lib.byteCells (printOf (l.take k))) wr) ∧ Aside0 (Below w.heap.size w wr)) (fun _ i _ => l.length - (intOf i).toNat)
  case atStart => exact ⟨0, by omega, rfl, ⟨Lib.fresh_isBuilder 63 5 w⟩, ⟨(Below.refl _ _).alloc (Nat.le_refl _) _⟩⟩
  case round =>
    obtain ⟨k, hk, rfl, HB, HW⟩ := hrel
    rename World => wr
    by_cases hlt : k < l.length
    · have hd : decide ((k : Int) < l.length) = true := by simp; omega
      obtain ⟨ad, Ak, ck, hA, hcx, hxl, hkc, hkC⟩ := at41 HS.out.cells k hlt
      subst hA
      have hG := HS.out.good _ (sg_mem l k hlt)
      have hK := HS.out.keep _ (sg_mem l k hlt)
      have HPL := Aside0.mk (print_len_take HS.out (k + 1))
      have HPT := Aside0.mk (print_take l k hlt)
      obtain ⟨x, hx⟩ : ∃ x, x = sg l k := ⟨_, rfl⟩
      rw [← hx] at hcx hxl hkc hkC hG hK HPT
      have HCX := Aside0.mk (fun j' u (hu : (stepC x (.slice Ak x.keep.length ck))[j']? = some u) => pw_cell_below HW.out (hcx j' u hu))
      have HKC := Aside0.mk hkC
      have HG := Aside0.mk hG
      have HXL := Aside0.mk hxl
      clear hcx hkC hG hx hxl
      go_wp2_with (first | ((with_reducible refine gate_dst (N := 11) rfl ?_); refine load41 rfl (.tmp 10) rfl (ad.add (k * 42)) rfl x _ HXL.out HCX.out ?_) | ((with_reducible refine gate_dst (N := 5) rfl ?_); refine alloc41 rfl rfl ?_; intro w4 xg h6 h7 h8; have H4 := Aside0.mk h7; have HB4 := Aside0.mk (builder_fresh HB.out h8); have HW4 := Aside0.mk (HW.out.trans ((grown_fresh h8).mono HW.out.size)); have HXG := Aside0.mk (show w.heap.size ≤ xg from Nat.le_trans HW.out.size h6); clear h6 h7 h8) | (refine store41 rfl rfl (.tmp 5) (.tmp 11) rfl xg rfl x _ _ _ HXL.out rfl (m := step0) rfl H4.out ?_; intro w5 h9 h10 h11; have H5 := Aside0.mk h9; have HB5 := Aside0.mk (builder_grown HB4.out h10 (t := 41) (by decide) (fun g e => by injection e with e; subst e; exact ⟨_, H4.out⟩)); have HW5 := Aside0.mk (below_grown HW4.out HXG.out HW4.out.size h10); clear h9 h10 h11) | ((with_reducible refine gate_dst (N := 12) rfl ?_); refine loadB41 rfl (.tmp 5) rfl xg rfl x _ HXL.out H5.out ?_) | (go_at_call 26; refine (line_calls _ (HE.out.below HW5.out) x HG.out Ak ck (Kd.C_below HKC.out HW5.out) hkc (by omega)).mono ?_; rintro e w6 ⟨rfl, hb⟩; have HB6 := Aside0.mk (builder_fresh HB5.out (grown_of_below hb none)); have HW6 := Aside0.mk (HW5.out.trans (hb.mono HW5.out.size)); clear hb) | (go_at_call 28; refine (writeString _ _ _ _ _ HB6.out (by rw [Lib.byteCells_length, Lib.size_eq, str_data]; have := HPL.out; rw [HPT.out, List.length_append] at this; omega) HW6.out.size).mono ?_; rintro e w7 ⟨rfl, hb1, hb2⟩; have HB7 := Aside0.mk (show Lib.IsBuilder 63 5 w.heap.size w.heap.size (Lib.byteCells (printOf (l.take (k + 1)))) w7 by rw [HPT.out]; simpa [Lib.byteCells, Lib.strCells, str] using hb1); have HW7 := Aside0.mk (HW6.out.trans hb2); clear hb1 hb2))
      go_roundw
      case rel => exact ⟨k + 1, by omega, by go_num, HB7, HW7⟩
      case measure => simp [intOf]; omega
    · obtain rfl : k = l.length := by omega
      have hd : decide ((l.length : Int) < l.length) = false := by simp
      rw [List.take_length] at HB
      go_wp2_with (first | (go_at_call 29; refine (Tryd.Builder_String_any _ _ _ _ HB.out HW.out.size).mono ?_; rintro e w7 ⟨rfl, hb⟩; have HW7 := Aside0.mk (HW.out.trans hb); clear hb))
      go_ret
      exact ⟨rfl, HW7.out⟩
end
section
set_option linter.unusedSimpArgs false
set_option linter.unusedVariables false
open Go.RowKit Go.Proofs.YtagpldkgkchfcaaDoorW.PrintWords Go.Proofs.YtagpldkgkchfcaaDoorW.PrintLast Go.Proofs.YtagpldkgkchfcaaDoorW.PrintMore Arr PTextPrints

theorem goodop0 : GoodOp op0 := ⟨rfl, fun y hy => by rw [List.eq_of_mem_replicate hy]; omega, by decide, by decide, by decide, by decide⟩
theorem eqg35 : Tryd.prog.eqGuardType Tryd.prog.depth 35 = false := by kernel_rfl
theorem wf_u8 {x : Int} (h : 0 ≤ x ∧ x ≤ 255) : (Go.Lit.int .u8 x).wf = true := by
  simp [Go.Lit.wf, IntKind.min, IntKind.max, IntKind.signed, IntKind.bits]
  omega
def opL (o : Op) : List Go.Lit := [Go.Lit.int .i64 o.kind, Go.Lit.int .i64 o.id, Go.Lit.int .i64 o.blk] ++ (o.data.map (Go.Lit.int .u8) ++ [Go.Lit.bool o.sync, Go.Lit.int .i64 o.policy])
theorem lits35 (o : Op) (h : GoodOp o) : Tryd.prog.keyLits 4 35 (opC o) = some (opL o) := by
  have g : ∀ x : Int, -9223372036854775808 ≤ x ∧ x ≤ 9223372036854775807 → Tryd.prog.keyLits 3 3 [Value.int .i64 x] = some [Go.Lit.int .i64 x] := fun x hx => lits_int (P := Tryd.prog) (D := 2) (e := 3) (k := .i64) Tryd.underlying3 (wf_i64 hx)
  have h1 := g _ h.kind
  have h2 := g _ h.id
  have h3 := g _ h.blk
  have h4 := lits_ints (P := Tryd.prog) (D := 1) (T := 33) (e := 5) (n := 32) (k := .u8) Tryd.underlying33 Tryd.underlying5 (by kernel_rfl) (by kernel_rfl) h.len (fun x hx => wf_u8 (h.byte x hx))
  have h5 := lits_bool (P := Tryd.prog) (D := 2) (e := 4) Tryd.underlying4 o.sync
  have h6 := g _ h.policy
  have hlen : (opC o).length = Tryd.prog.cellsOf 35 := by rw [opC_len o h.len]; kernel_rfl
  have c3 : Tryd.prog.cellsOf 3 = 1 := by kernel_rfl
  have c4 : Tryd.prog.cellsOf 4 = 1 := by kernel_rfl
  have c33 : Tryd.prog.cellsOf 33 = 32 := by kernel_rfl
  have e1 : ((opC o).drop 0).take 1 = [Value.int .i64 o.kind] := rfl
  have e2 : ((opC o).drop 1).take 1 = [Value.int .i64 o.id] := rfl
  have e3 : ((opC o).drop 2).take 1 = [Value.int .i64 o.blk] := rfl
  have hd : (encs (Value.int .u8) o.data).length = 32 := by simp [encs, h.len]
  have e4 : ((opC o).drop 3).take 32 = encs (Value.int .u8) o.data := by
    show (encs (Value.int .u8) o.data ++ _).take 32 = _
    rw [List.take_append_of_le_length (by omega), List.take_of_length_le (by omega)]
  have e5 : ((opC o).drop 35).take 1 = [Value.bool o.sync] := by
    show ((encs (Value.int .u8) o.data ++ _).drop 32).take 1 = _
    rw [List.drop_append_of_le_length (by omega), List.drop_of_length_le (by omega)]; rfl
  have e6 : ((opC o).drop 36).take 1 = [Value.int .i64 o.policy] := by
    show ((encs (Value.int .u8) o.data ++ _).drop 33).take 1 = _
    rw [List.drop_append, List.drop_of_length_le (by omega), hd]; rfl
  unfold Program.keyLits
  rw [Tryd.underlying35]
  show (if _ then _ else _) = _
  rw [if_pos ⟨hlen, by decide +kernel⟩]
  simp only [List.mapM_cons, List.mapM_nil, c3, c4, c33]
  rw [e1, e2, e3, e4, e5, e6, h1, h2, h3, h4, h5, h6]
  simp [opL]
theorem opL_inj {a b : Op} (ha : a.data.length = 32) (hb : b.data.length = 32) : opL a = opL b ↔ a = b := by
  constructor
  · intro h
    unfold opL at h
    simp only [List.cons_append, List.nil_append, List.cons.injEq] at h
    obtain ⟨h1, h2, h3, h4⟩ := h
    obtain ⟨h5, h6⟩ := List.append_inj h4 (by simp [ha, hb])
    rw [ints_lit_inj] at h5
    simp only [List.cons.injEq, and_true] at h6
    obtain ⟨h6, h7⟩ := h6
    injection h1 with _ h1
    injection h2 with _ h2
    injection h3 with _ h3
    injection h6 with h6
    injection h7 with _ h7
    obtain ⟨k, i, bl, d, s, p⟩ := a
    obtain ⟨k', i', bl', d', s', p'⟩ := b
    simp only at *
    subst h1 h2 h3 h5 h6 h7
    rfl
  · rintro rfl; rfl
theorem eq35 {a b : Op} (ha : GoodOp a) (hb : GoodOp b) (w : World) : (Op.equal 35 (.agg (opC a).toArray) (.agg (opC b).toArray)).run Tryd.prog w = .ok (decide (a = b)) w :=
  run_equal_cells (P := Tryd.prog) (T := 35) (m := 5) (by decide) (by kernel_rfl) Tryd.underlying35 rfl (by rw [opC_len _ ha.len]; kernel_rfl) (by rw [opC_len _ hb.len]; kernel_rfl) (lits35 a ha) (lits35 b hb) (by rw [opL_inj ha.len hb.len]; simp) w
section
variable {ops : Array Oper} {rest : List Oper} {o : Oper} {a : Act} {Q : Exit → Act → World → Prop} {w0 W : World} {B : Nat}
theorem eql35 (hgd : o.guard = none) (x y : Operand) (ho : o.op = .binOp .eql 35 x y 35) (p q : Op) (hx : a.eval x = .agg (opC p).toArray) (hy : a.eval y = .agg (opC q).toArray) (hp : GoodOp p) (hq : GoodOp q) (b : Bool) (hb : decide (p = q) = b)
    (h : wpList Tryd.prog ops Q rest (a.put o.dst (.bool b)) W) : wpList Tryd.prog ops Q (o :: rest) a W :=
  wpl_eql hgd 35 35 x y ho (opC p) (opC q) hx hy b (fun w => by rw [← hb]; exact eq35 hp hq w) eqg35 rfl h
theorem neq35 (hgd : o.guard = none) (x y : Operand) (ho : o.op = .binOp .neq 35 x y 35) (p q : Op) (hx : a.eval x = .agg (opC p).toArray) (hy : a.eval y = .agg (opC q).toArray) (hp : GoodOp p) (hq : GoodOp q) (b : Bool) (hb : decide (p = q) = b)
    (h : wpList Tryd.prog ops Q rest (a.put o.dst (.bool (!b))) W) : wpList Tryd.prog ops Q (o :: rest) a W :=
  wpl_neq hgd 35 35 x y ho (opC p) (opC q) hx hy b (fun w => by rw [← hb]; exact eq35 hp hq w) eqg35 rfl h
end
end
section
set_option linter.unusedSimpArgs false
set_option linter.unusedVariables false
open Go.RowKit Go.Proofs.YtagpldkgkchfcaaDoorW.PrintWords Go.Proofs.YtagpldkgkchfcaaDoorW.PrintLast Go.Proofs.YtagpldkgkchfcaaDoorW.PrintMore Arr PTextPrints

theorem eq_rounds (x y : List Int) (hl : x.length = y.length) (hm : x.length ≤ 1000000) : ∀ (m i : Nat), m = x.length - i → i ≤ x.length → slices_Equal_int_int.l0 (m + 1) x y (x.length : Int) (i : Int) = some (decide (x.drop i = y.drop i))
  | 0, i, hmi, hi => by
    unfold slices_Equal_int_int.l0
    rw [if_neg (by omega), List.drop_eq_nil_of_le (by omega), List.drop_eq_nil_of_le (by omega)]
    simp
  | m + 1, i, hmi, hi => by
    have hx : i < x.length := by omega
    have hy : i < y.length := by omega
    unfold slices_Equal_int_int.l0
    rw [if_pos (by omega), if_pos (by omega), if_pos (by omega), if_pos (by omega)]
    have e1 : rd x (i : Int) = x[i] := by unfold rd; rw [Int.toNat_natCast, List.getD_eq_getElem?_getD, List.getElem?_eq_getElem hx]; rfl
    have e2 : rd y (i : Int) = y[i] := by unfold rd; rw [Int.toNat_natCast, List.getD_eq_getElem?_getD, List.getElem?_eq_getElem hy]; rfl
    have e3 : wrap64 ((i : Int) + 1) = ((i + 1 : Nat) : Int) := by rw [w64 (by omega) (by omega)]; omega
    rw [e1, e2, e3, List.drop_eq_getElem_cons hx, List.drop_eq_getElem_cons hy]
    by_cases h : x[i] = y[i]
    · rw [if_pos h, eq_rounds x y hl hm m (i + 1) (by omega) (by omega), h]
      congr 1
      rw [decide_eq_decide]
      exact ⟨fun e => by rw [e], fun e => by injection e⟩
    · rw [if_neg h, decide_eq_false (fun e => h (by injection e))]
theorem eq_f (x y : List Int) (hm : x.length ≤ 1000000) : slices_Equal_int_int.f (x.length + 1) x y = some (decide (x = y)) := by
  unfold slices_Equal_int_int.f
  by_cases h : x.length = y.length
  · rw [if_pos (by omega)]
    have := eq_rounds x y h hm x.length 0 (by omega) (by omega)
    simpa using this
  · rw [if_neg (by omega)]
    have : ¬ x = y := fun e => h (by rw [e])
    simp [this]
theorem eqI_calls (w : World) (A A' : Option Addr) (c c' : Nat) (l l' : List Int) (h : (Kd.int .i64).C w A l.length l) (h' : (Kd.int .i64).C w A' l'.length l') (hc : l.length ≤ c) (hc' : l'.length ≤ c') (hm : l.length ≤ 1000000) : Calls Tryd.prog 40 #[.slice A l.length c, .slice A' l'.length c'] w fun e w' => e = .returned (.bool (decide (l = l'))) ∧ Drawn0 w w' :=
  slices_Equal_int_int.calls _ A c l A' c' l' _ w h hc h' hc' (eq_f l l' hm)
def SameEnd (w : World) (x y : Step) (e : Ending) (w' : World) : Prop := e = .returned (.bool (decide (x = y))) ∧ Below w.heap.size w w'
theorem step_ext {x y : Step} (h1 : x.op = y.op) (h2 : x.arm = y.arm) (h3 : x.crash = y.crash) (h4 : x.soft = y.soft) (h5 : x.tear = y.tear) (h6 : x.keep = y.keep) : x = y := by
  obtain ⟨a, b, c, d, e, f⟩ := x
  obtain ⟨a', b', c', d', e', f'⟩ := y
  simp only at *
  subst h1 h2 h3 h4 h5 h6
  rfl
set_option maxRecDepth 10000 in
set_option maxHeartbeats 2000000 in
theorem same_0 (w : World) (x y : Step) (A A' : Option Addr) (c c' : Nat) (hx : Good x) (hy : Good y) (hC : (Kd.int .i64).C w A x.keep.length x.keep) (hC' : (Kd.int .i64).C w A' y.keep.length y.keep) (hc : x.keep.length ≤ c) (hc' : y.keep.length ≤ c') (hm : x.keep.length ≤ 1000000) (hn : ¬ x.op = y.op) : Calls Tryd.prog 27 #[.agg (stepC x (.slice A x.keep.length c)).toArray, .agg (stepC y (.slice A' y.keep.length c')).toArray] w (SameEnd w x y) := by
  have HK := Aside0.mk (Keeps.refl w)
  have HX := Aside0.mk hx
  have HY := Aside0.mk hy
  have HLX := Aside0.mk hx.len
  have HLY := Aside0.mk hy.len
  have HC := Aside0.mk hC
  have HC' := Aside0.mk hC'
  have HR := Aside0.mk (show decide (x = y) = false from decide_eq_false (fun e => hn (by rw [e])))
  have HB0 := Aside0.mk (show decide (x.op = y.op) = false from decide_eq_false hn)
  clear hx hy hC hC' hn
  go_enter Tryd.func27, Tryd.ntmps27
  go_wp2_with (first | ((with_reducible refine gate_dst (N := 2) rfl ?_); refine box41 rfl (.tmp 0) rfl x _ rfl ?_; intro w1 g h1 h2 h3; have HK1 := Aside0.mk (HK.out.new h3 h2); clear h1 h2 h3) | ((with_reducible refine gate_dst (N := 3) rfl ?_); refine box41 rfl (.tmp 1) rfl y _ rfl ?_; intro w2 g2 h1 h2 h3; have HK2 := Aside0.mk (HK1.out.new h3 h2); have q7 := (step_at x (.slice A x.keep.length c) HLX.out); have q8 := (step_at y (.slice A' y.keep.length c') HLY.out); have a1 := HK2.out.tail.head.cell q7.1; have a2 := HK2.out.tail.head.cell q7.2.1; have a3 := HK2.out.tail.head.cell q7.2.2.1; have a4 := HK2.out.tail.head.cell q7.2.2.2.1; have a5 := HK2.out.tail.head.cell q7.2.2.2.2; have b1 := HK2.out.head.cell q8.1; have b2 := HK2.out.head.cell q8.2.1; have b3 := HK2.out.head.cell q8.2.2.1; have b4 := HK2.out.head.cell q8.2.2.2.1; have b5 := HK2.out.head.cell q8.2.2.2.2; clear h1 h2 h3 q7 q8) | ((with_reducible refine gate_dst (N := 6) rfl ?_); refine loadOp rfl (.tmp 5) rfl g rfl x _ HLX.out HK2.out.tail.head ?_) | ((with_reducible refine gate_dst (N := 8) rfl ?_); refine loadOp rfl (.tmp 7) rfl g2 rfl y _ HLY.out HK2.out.head ?_) | ((with_reducible refine gate_dst (N := 9) rfl ?_); refine eql35 rfl (.tmp 6) (.tmp 8) rfl x.op y.op rfl rfl HX.out.op HY.out.op _ HB0.out ?_))
  go_ret
  unfold SameEnd
  rw [HR.out]
  exact ⟨rfl, HK2.out.below⟩
set_option maxRecDepth 10000 in
set_option maxHeartbeats 2000000 in
theorem same_1 (w : World) (x y : Step) (A A' : Option Addr) (c c' : Nat) (hx : Good x) (hy : Good y) (hC : (Kd.int .i64).C w A x.keep.length x.keep) (hC' : (Kd.int .i64).C w A' y.keep.length y.keep) (hc : x.keep.length ≤ c) (hc' : y.keep.length ≤ c') (hm : x.keep.length ≤ 1000000) (h0 : x.op = y.op) (hn : ¬ x.arm = y.arm) : Calls Tryd.prog 27 #[.agg (stepC x (.slice A x.keep.length c)).toArray, .agg (stepC y (.slice A' y.keep.length c')).toArray] w (SameEnd w x y) := by
  have HK := Aside0.mk (Keeps.refl w)
  have HX := Aside0.mk hx
  have HY := Aside0.mk hy
  have HLX := Aside0.mk hx.len
  have HLY := Aside0.mk hy.len
  have HC := Aside0.mk hC
  have HC' := Aside0.mk hC'
  have HR := Aside0.mk (show decide (x = y) = false from decide_eq_false (fun e => hn (by rw [e])))
  have HB0 := Aside0.mk (show decide (x.op = y.op) = true from decide_eq_true h0)
  have e1 : (x.arm == y.arm) = false := by rw [beq_eq_false_iff_ne]; exact hn
  clear hx hy hC hC' h0 hn
  go_enter Tryd.func27, Tryd.ntmps27
  go_wp2_with (first | ((with_reducible refine gate_dst (N := 2) rfl ?_); refine box41 rfl (.tmp 0) rfl x _ rfl ?_; intro w1 g h1 h2 h3; have HK1 := Aside0.mk (HK.out.new h3 h2); clear h1 h2 h3) | ((with_reducible refine gate_dst (N := 3) rfl ?_); refine box41 rfl (.tmp 1) rfl y _ rfl ?_; intro w2 g2 h1 h2 h3; have HK2 := Aside0.mk (HK1.out.new h3 h2); have q7 := (step_at x (.slice A x.keep.length c) HLX.out); have q8 := (step_at y (.slice A' y.keep.length c') HLY.out); have a1 := HK2.out.tail.head.cell q7.1; have a2 := HK2.out.tail.head.cell q7.2.1; have a3 := HK2.out.tail.head.cell q7.2.2.1; have a4 := HK2.out.tail.head.cell q7.2.2.2.1; have a5 := HK2.out.tail.head.cell q7.2.2.2.2; have b1 := HK2.out.head.cell q8.1; have b2 := HK2.out.head.cell q8.2.1; have b3 := HK2.out.head.cell q8.2.2.1; have b4 := HK2.out.head.cell q8.2.2.2.1; have b5 := HK2.out.head.cell q8.2.2.2.2; clear h1 h2 h3 q7 q8) | ((with_reducible refine gate_dst (N := 6) rfl ?_); refine loadOp rfl (.tmp 5) rfl g rfl x _ HLX.out HK2.out.tail.head ?_) | ((with_reducible refine gate_dst (N := 8) rfl ?_); refine loadOp rfl (.tmp 7) rfl g2 rfl y _ HLY.out HK2.out.head ?_) | ((with_reducible refine gate_dst (N := 9) rfl ?_); refine eql35 rfl (.tmp 6) (.tmp 8) rfl x.op y.op rfl rfl HX.out.op HY.out.op _ HB0.out ?_))
  go_ret
  unfold SameEnd
  rw [HR.out]
  exact ⟨rfl, HK2.out.below⟩
set_option maxRecDepth 10000 in
set_option maxHeartbeats 2000000 in
theorem same_2 (w : World) (x y : Step) (A A' : Option Addr) (c c' : Nat) (hx : Good x) (hy : Good y) (hC : (Kd.int .i64).C w A x.keep.length x.keep) (hC' : (Kd.int .i64).C w A' y.keep.length y.keep) (hc : x.keep.length ≤ c) (hc' : y.keep.length ≤ c') (hm : x.keep.length ≤ 1000000) (h0 : x.op = y.op) (h1 : x.arm = y.arm) (hn : ¬ x.crash = y.crash) : Calls Tryd.prog 27 #[.agg (stepC x (.slice A x.keep.length c)).toArray, .agg (stepC y (.slice A' y.keep.length c')).toArray] w (SameEnd w x y) := by
  have HK := Aside0.mk (Keeps.refl w)
  have HX := Aside0.mk hx
  have HY := Aside0.mk hy
  have HLX := Aside0.mk hx.len
  have HLY := Aside0.mk hy.len
  have HC := Aside0.mk hC
  have HC' := Aside0.mk hC'
  have HR := Aside0.mk (show decide (x = y) = false from decide_eq_false (fun e => hn (by rw [e])))
  have HB0 := Aside0.mk (show decide (x.op = y.op) = true from decide_eq_true h0)
  have e1 : (x.arm == y.arm) = true := by rw [beq_iff_eq]; exact h1
  have e2 : (x.crash == y.crash) = false := by rw [beq_eq_false_iff_ne]; exact hn
  clear hx hy hC hC' h0 h1 hn
  go_enter Tryd.func27, Tryd.ntmps27
  go_wp2_with (first | ((with_reducible refine gate_dst (N := 2) rfl ?_); refine box41 rfl (.tmp 0) rfl x _ rfl ?_; intro w1 g h1 h2 h3; have HK1 := Aside0.mk (HK.out.new h3 h2); clear h1 h2 h3) | ((with_reducible refine gate_dst (N := 3) rfl ?_); refine box41 rfl (.tmp 1) rfl y _ rfl ?_; intro w2 g2 h1 h2 h3; have HK2 := Aside0.mk (HK1.out.new h3 h2); have q7 := (step_at x (.slice A x.keep.length c) HLX.out); have q8 := (step_at y (.slice A' y.keep.length c') HLY.out); have a1 := HK2.out.tail.head.cell q7.1; have a2 := HK2.out.tail.head.cell q7.2.1; have a3 := HK2.out.tail.head.cell q7.2.2.1; have a4 := HK2.out.tail.head.cell q7.2.2.2.1; have a5 := HK2.out.tail.head.cell q7.2.2.2.2; have b1 := HK2.out.head.cell q8.1; have b2 := HK2.out.head.cell q8.2.1; have b3 := HK2.out.head.cell q8.2.2.1; have b4 := HK2.out.head.cell q8.2.2.2.1; have b5 := HK2.out.head.cell q8.2.2.2.2; clear h1 h2 h3 q7 q8) | ((with_reducible refine gate_dst (N := 6) rfl ?_); refine loadOp rfl (.tmp 5) rfl g rfl x _ HLX.out HK2.out.tail.head ?_) | ((with_reducible refine gate_dst (N := 8) rfl ?_); refine loadOp rfl (.tmp 7) rfl g2 rfl y _ HLY.out HK2.out.head ?_) | ((with_reducible refine gate_dst (N := 9) rfl ?_); refine eql35 rfl (.tmp 6) (.tmp 8) rfl x.op y.op rfl rfl HX.out.op HY.out.op _ HB0.out ?_))
  go_ret
  unfold SameEnd
  rw [HR.out]
  exact ⟨rfl, HK2.out.below⟩
set_option maxRecDepth 10000 in
set_option maxHeartbeats 2000000 in
theorem same_3 (w : World) (x y : Step) (A A' : Option Addr) (c c' : Nat) (hx : Good x) (hy : Good y) (hC : (Kd.int .i64).C w A x.keep.length x.keep) (hC' : (Kd.int .i64).C w A' y.keep.length y.keep) (hc : x.keep.length ≤ c) (hc' : y.keep.length ≤ c') (hm : x.keep.length ≤ 1000000) (h0 : x.op = y.op) (h1 : x.arm = y.arm) (h2 : x.crash = y.crash) (hn : ¬ x.soft = y.soft) : Calls Tryd.prog 27 #[.agg (stepC x (.slice A x.keep.length c)).toArray, .agg (stepC y (.slice A' y.keep.length c')).toArray] w (SameEnd w x y) := by
  have HK := Aside0.mk (Keeps.refl w)
  have HX := Aside0.mk hx
  have HY := Aside0.mk hy
  have HLX := Aside0.mk hx.len
  have HLY := Aside0.mk hy.len
  have HC := Aside0.mk hC
  have HC' := Aside0.mk hC'
  have HR := Aside0.mk (show decide (x = y) = false from decide_eq_false (fun e => hn (by rw [e])))
  have HB0 := Aside0.mk (show decide (x.op = y.op) = true from decide_eq_true h0)
  have e1 : (x.arm == y.arm) = true := by rw [beq_iff_eq]; exact h1
  have e2 : (x.crash == y.crash) = true := by rw [h2]; simp
  have e3 : (x.soft == y.soft) = false := by rw [beq_eq_false_iff_ne]; exact hn
  clear hx hy hC hC' h0 h1 h2 hn
  go_enter Tryd.func27, Tryd.ntmps27
  go_wp2_with (first | ((with_reducible refine gate_dst (N := 2) rfl ?_); refine box41 rfl (.tmp 0) rfl x _ rfl ?_; intro w1 g h1 h2 h3; have HK1 := Aside0.mk (HK.out.new h3 h2); clear h1 h2 h3) | ((with_reducible refine gate_dst (N := 3) rfl ?_); refine box41 rfl (.tmp 1) rfl y _ rfl ?_; intro w2 g2 h1 h2 h3; have HK2 := Aside0.mk (HK1.out.new h3 h2); have q7 := (step_at x (.slice A x.keep.length c) HLX.out); have q8 := (step_at y (.slice A' y.keep.length c') HLY.out); have a1 := HK2.out.tail.head.cell q7.1; have a2 := HK2.out.tail.head.cell q7.2.1; have a3 := HK2.out.tail.head.cell q7.2.2.1; have a4 := HK2.out.tail.head.cell q7.2.2.2.1; have a5 := HK2.out.tail.head.cell q7.2.2.2.2; have b1 := HK2.out.head.cell q8.1; have b2 := HK2.out.head.cell q8.2.1; have b3 := HK2.out.head.cell q8.2.2.1; have b4 := HK2.out.head.cell q8.2.2.2.1; have b5 := HK2.out.head.cell q8.2.2.2.2; clear h1 h2 h3 q7 q8) | ((with_reducible refine gate_dst (N := 6) rfl ?_); refine loadOp rfl (.tmp 5) rfl g rfl x _ HLX.out HK2.out.tail.head ?_) | ((with_reducible refine gate_dst (N := 8) rfl ?_); refine loadOp rfl (.tmp 7) rfl g2 rfl y _ HLY.out HK2.out.head ?_) | ((with_reducible refine gate_dst (N := 9) rfl ?_); refine eql35 rfl (.tmp 6) (.tmp 8) rfl x.op y.op rfl rfl HX.out.op HY.out.op _ HB0.out ?_))
  go_ret
  unfold SameEnd
  rw [HR.out]
  exact ⟨rfl, HK2.out.below⟩
set_option maxRecDepth 10000 in
set_option maxHeartbeats 2000000 in
theorem same_4 (w : World) (x y : Step) (A A' : Option Addr) (c c' : Nat) (hx : Good x) (hy : Good y) (hC : (Kd.int .i64).C w A x.keep.length x.keep) (hC' : (Kd.int .i64).C w A' y.keep.length y.keep) (hc : x.keep.length ≤ c) (hc' : y.keep.length ≤ c') (hm : x.keep.length ≤ 1000000) (h0 : x.op = y.op) (h1 : x.arm = y.arm) (h2 : x.crash = y.crash) (h3 : x.soft = y.soft) (hn : ¬ x.tear = y.tear) : Calls Tryd.prog 27 #[.agg (stepC x (.slice A x.keep.length c)).toArray, .agg (stepC y (.slice A' y.keep.length c')).toArray] w (SameEnd w x y) := by
  have HK := Aside0.mk (Keeps.refl w)
  have HX := Aside0.mk hx
  have HY := Aside0.mk hy
  have HLX := Aside0.mk hx.len
  have HLY := Aside0.mk hy.len
  have HC := Aside0.mk hC
  have HC' := Aside0.mk hC'
  have HR := Aside0.mk (show decide (x = y) = false from decide_eq_false (fun e => hn (by rw [e])))
  have HB0 := Aside0.mk (show decide (x.op = y.op) = true from decide_eq_true h0)
  have e1 : (x.arm == y.arm) = true := by rw [beq_iff_eq]; exact h1
  have e2 : (x.crash == y.crash) = true := by rw [h2]; simp
  have e3 : (x.soft == y.soft) = true := by rw [beq_iff_eq]; exact h3
  have e4 : (x.tear == y.tear) = false := by rw [beq_eq_false_iff_ne]; exact hn
  clear hx hy hC hC' h0 h1 h2 h3 hn
  go_enter Tryd.func27, Tryd.ntmps27
  go_wp2_with (first | ((with_reducible refine gate_dst (N := 2) rfl ?_); refine box41 rfl (.tmp 0) rfl x _ rfl ?_; intro w1 g h1 h2 h3; have HK1 := Aside0.mk (HK.out.new h3 h2); clear h1 h2 h3) | ((with_reducible refine gate_dst (N := 3) rfl ?_); refine box41 rfl (.tmp 1) rfl y _ rfl ?_; intro w2 g2 h1 h2 h3; have HK2 := Aside0.mk (HK1.out.new h3 h2); have q7 := (step_at x (.slice A x.keep.length c) HLX.out); have q8 := (step_at y (.slice A' y.keep.length c') HLY.out); have a1 := HK2.out.tail.head.cell q7.1; have a2 := HK2.out.tail.head.cell q7.2.1; have a3 := HK2.out.tail.head.cell q7.2.2.1; have a4 := HK2.out.tail.head.cell q7.2.2.2.1; have a5 := HK2.out.tail.head.cell q7.2.2.2.2; have b1 := HK2.out.head.cell q8.1; have b2 := HK2.out.head.cell q8.2.1; have b3 := HK2.out.head.cell q8.2.2.1; have b4 := HK2.out.head.cell q8.2.2.2.1; have b5 := HK2.out.head.cell q8.2.2.2.2; clear h1 h2 h3 q7 q8) | ((with_reducible refine gate_dst (N := 6) rfl ?_); refine loadOp rfl (.tmp 5) rfl g rfl x _ HLX.out HK2.out.tail.head ?_) | ((with_reducible refine gate_dst (N := 8) rfl ?_); refine loadOp rfl (.tmp 7) rfl g2 rfl y _ HLY.out HK2.out.head ?_) | ((with_reducible refine gate_dst (N := 9) rfl ?_); refine eql35 rfl (.tmp 6) (.tmp 8) rfl x.op y.op rfl rfl HX.out.op HY.out.op _ HB0.out ?_))
  go_ret
  unfold SameEnd
  rw [HR.out]
  exact ⟨rfl, HK2.out.below⟩
set_option maxRecDepth 10000 in
set_option maxHeartbeats 2000000 in
theorem same_5 (w : World) (x y : Step) (A A' : Option Addr) (c c' : Nat) (hx : Good x) (hy : Good y) (hC : (Kd.int .i64).C w A x.keep.length x.keep) (hC' : (Kd.int .i64).C w A' y.keep.length y.keep) (hc : x.keep.length ≤ c) (hc' : y.keep.length ≤ c') (hm : x.keep.length ≤ 1000000) (h0 : x.op = y.op) (h1 : x.arm = y.arm) (h2 : x.crash = y.crash) (h3 : x.soft = y.soft) (h4 : x.tear = y.tear) : Calls Tryd.prog 27 #[.agg (stepC x (.slice A x.keep.length c)).toArray, .agg (stepC y (.slice A' y.keep.length c')).toArray] w (SameEnd w x y) := by
  have HK := Aside0.mk (Keeps.refl w)
  have HX := Aside0.mk hx
  have HY := Aside0.mk hy
  have HLX := Aside0.mk hx.len
  have HLY := Aside0.mk hy.len
  have HC := Aside0.mk hC
  have HC' := Aside0.mk hC'
  have HR := Aside0.mk (show decide (x = y) = decide (x.keep = y.keep) from by rw [decide_eq_decide]; exact ⟨fun e => by rw [e], step_ext h0 h1 h2 h3 h4⟩)
  have HB0 := Aside0.mk (show decide (x.op = y.op) = true from decide_eq_true h0)
  have e1 : (x.arm == y.arm) = true := by rw [beq_iff_eq]; exact h1
  have e2 : (x.crash == y.crash) = true := by rw [h2]; simp
  have e3 : (x.soft == y.soft) = true := by rw [beq_iff_eq]; exact h3
  have e4 : (x.tear == y.tear) = true := by rw [beq_iff_eq]; exact h4
  clear hx hy hC hC' h0 h1 h2 h3 h4
  go_enter Tryd.func27, Tryd.ntmps27
  go_wp2_with (first | ((with_reducible refine gate_dst (N := 2) rfl ?_); refine box41 rfl (.tmp 0) rfl x _ rfl ?_; intro w1 g h1 h2 h3; have HK1 := Aside0.mk (HK.out.new h3 h2); clear h1 h2 h3) | ((with_reducible refine gate_dst (N := 3) rfl ?_); refine box41 rfl (.tmp 1) rfl y _ rfl ?_; intro w2 g2 h1 h2 h3; have HK2 := Aside0.mk (HK1.out.new h3 h2); have q7 := (step_at x (.slice A x.keep.length c) HLX.out); have q8 := (step_at y (.slice A' y.keep.length c') HLY.out); have a1 := HK2.out.tail.head.cell q7.1; have a2 := HK2.out.tail.head.cell q7.2.1; have a3 := HK2.out.tail.head.cell q7.2.2.1; have a4 := HK2.out.tail.head.cell q7.2.2.2.1; have a5 := HK2.out.tail.head.cell q7.2.2.2.2; have b1 := HK2.out.head.cell q8.1; have b2 := HK2.out.head.cell q8.2.1; have b3 := HK2.out.head.cell q8.2.2.1; have b4 := HK2.out.head.cell q8.2.2.2.1; have b5 := HK2.out.head.cell q8.2.2.2.2; clear h1 h2 h3 q7 q8) | ((with_reducible refine gate_dst (N := 6) rfl ?_); refine loadOp rfl (.tmp 5) rfl g rfl x _ HLX.out HK2.out.tail.head ?_) | ((with_reducible refine gate_dst (N := 8) rfl ?_); refine loadOp rfl (.tmp 7) rfl g2 rfl y _ HLY.out HK2.out.head ?_) | ((with_reducible refine gate_dst (N := 9) rfl ?_); refine eql35 rfl (.tmp 6) (.tmp 8) rfl x.op y.op rfl rfl HX.out.op HY.out.op _ HB0.out ?_) | (go_at_call 40; refine (eqI_calls _ A A' c c' x.keep y.keep (Kd.C_below HC.out HK2.out.below) (Kd.C_below HC'.out HK2.out.below) hc hc' hm).mono ?_; rintro e w3 ⟨rfl, hd⟩; have HD := Aside0.mk (HK2.out.below.trans (hd.below.mono HK2.out.size)); clear hd))
  go_ret
  unfold SameEnd
  rw [HR.out]
  exact ⟨rfl, HD.out⟩
theorem same_calls (w : World) (x y : Step) (A A' : Option Addr) (c c' : Nat) (hx : Good x) (hy : Good y) (hC : (Kd.int .i64).C w A x.keep.length x.keep) (hC' : (Kd.int .i64).C w A' y.keep.length y.keep) (hc : x.keep.length ≤ c) (hc' : y.keep.length ≤ c') (hm : x.keep.length ≤ 1000000) : Calls Tryd.prog 27 #[.agg (stepC x (.slice A x.keep.length c)).toArray, .agg (stepC y (.slice A' y.keep.length c')).toArray] w (SameEnd w x y) := by
  by_cases h0 : x.op = y.op
  · by_cases h1 : x.arm = y.arm
    · by_cases h2 : x.crash = y.crash
      · by_cases h3 : x.soft = y.soft
        · by_cases h4 : x.tear = y.tear
          · exact same_5 w x y A A' c c' hx hy hC hC' hc hc' hm h0 h1 h2 h3 h4
          · exact same_4 w x y A A' c c' hx hy hC hC' hc hc' hm h0 h1 h2 h3 h4
        · exact same_3 w x y A A' c c' hx hy hC hC' hc hc' hm h0 h1 h2 h3
      · exact same_2 w x y A A' c c' hx hy hC hC' hc hc' hm h0 h1 h2
    · exact same_1 w x y A A' c c' hx hy hC hC' hc hc' hm h0 h1
  · exact same_0 w x y A A' c c' hx hy hC hC' hc hc' hm h0
end
end Go.Proofs.YtagpldkgkchfcaaDoor.Txt
