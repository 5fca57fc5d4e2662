/- A Put done by the document's answer: in plain Lean, and as it is walked. -/
import Derived.Test.YtkkmmbbnaafhlaaTabPut
namespace Go.Proofs.Ytkkmmbbnaafhlaa.Tab
set_option linter.unusedSimpArgs false
set_option linter.unusedVariables false
open Go.RowKit Go.Proofs.YtkkmmbbnaafhlaaW.PrintWords Go.Proofs.YtkkmmbbnaafhlaaW.PrintLast Go.Proofs.YtkkmmbbnaafhlaaW.PrintMore Arr

/-! ### in plain Lean: a number put into a row that ascends -/
def insStep (n : Int) (s : List Int × Bool) (d : Int) : List Int × Bool :=
  (if d ≠ n then (if n ≤ d ∧ s.2 = false then s.1 ++ [n] else s.1) ++ [d] else (if n ≤ d ∧ s.2 = false then s.1 ++ [n] else s.1), s.2 || decide (n ≤ d))
def insTo (n : Int) (dl : List Int) (k : Nat) : List Int × Bool := (dl.take k).foldl (insStep n) ([], false)
def ins (n : Int) (dl : List Int) : List Int := if (insTo n dl dl.length).2 then (insTo n dl dl.length).1 else (insTo n dl dl.length).1 ++ [n]
theorem insStep_lt {n d : Int} (l : List Int) (b : Bool) (h : d < n) : insStep n (l, b) d = (l ++ [d], b) := by
  unfold insStep
  have h1 : d ≠ n := by omega
  have h2 : ¬ (n ≤ d) := by omega
  simp [h1, h2]
theorem insStep_eq_f (n : Int) (l : List Int) : insStep n (l, false) n = (l ++ [n], true) := by simp [insStep]
theorem insStep_eq_t (n : Int) (l : List Int) : insStep n (l, true) n = (l, true) := by simp [insStep]
theorem insStep_gt_f {n d : Int} (l : List Int) (h : n < d) : insStep n (l, false) d = (l ++ [n] ++ [d], true) := by
  unfold insStep
  have h1 : d ≠ n := by omega
  have h2 : n ≤ d := by omega
  simp [h1, h2]
theorem insStep_gt_t {n d : Int} (l : List Int) (h : n < d) : insStep n (l, true) d = (l ++ [d], true) := by
  unfold insStep
  have h1 : d ≠ n := by omega
  simp [h1]
theorem insTo_succ (n : Int) (dl : List Int) (k : Nat) (h : k < dl.length) : insTo n dl (k + 1) = insStep n (insTo n dl k) (dl.getD k 0) := by
  unfold insTo
  rw [take_rd dl k h, List.foldl_append]
  rfl
theorem insStep_len (n : Int) (s : List Int × Bool) (d : Int) : (insStep n s d).1.length ≤ s.1.length + 2 := by
  unfold insStep
  split <;> split <;> simp <;> omega
theorem insTo_len (n : Int) (dl : List Int) (k : Nat) (h : k ≤ dl.length) : (insTo n dl k).1.length ≤ 2 * k := by
  induction k with
  | zero => simp [insTo]
  | succ k ih =>
    rw [insTo_succ n dl k h]
    have := insStep_len n (insTo n dl k) (dl.getD k 0)
    have := ih (by omega)
    omega
theorem trueTo_set_le (ds : List Bool) (q k : Nat) (h : k ≤ q) : trueTo (ds.set q true) k = trueTo ds k := by
  unfold trueTo
  congr 1
  apply List.filter_congr
  intro i hi
  rw [List.mem_range] at hi
  rw [List.getD_eq_getElem?_getD, List.getD_eq_getElem?_getD, List.getElem?_set_ne (by omega)]
theorem getD_setB (ds : List Bool) (q k : Nat) (hq : q < ds.length) : (ds.set q true).getD k false = if q = k then true else ds.getD k false := by
  rw [List.getD_eq_getElem?_getD, List.getD_eq_getElem?_getD, List.getElem?_set]
  by_cases h : q = k
  · subst h; simp [hq]
  · simp [h]
theorem ins_inv (ds : List Bool) (q : Nat) (hq : q < ds.length) (k : Nat) : k ≤ ds.length →
    ((((trueTo ds k).foldl (insStep (q : Int)) ([], false)).2 = true ∧ q < k ∧ ((trueTo ds k).foldl (insStep (q : Int)) ([], false)).1 = trueTo (ds.set q true) k) ∨
     (((trueTo ds k).foldl (insStep (q : Int)) ([], false)).2 = false ∧ k ≤ q ∧ ((trueTo ds k).foldl (insStep (q : Int)) ([], false)).1 = trueTo ds k) ∨
     (((trueTo ds k).foldl (insStep (q : Int)) ([], false)).2 = false ∧ q < k ∧ ((trueTo ds k).foldl (insStep (q : Int)) ([], false)).1 ++ [(q : Int)] = trueTo (ds.set q true) k)) := by
  induction k with
  | zero => intro _; exact .inr (.inl ⟨rfl, by omega, rfl⟩)
  | succ k ih =>
    intro hk
    have hi := ih (by omega)
    rw [trueTo_succ ds k, trueTo_succ (ds.set q true) k, List.foldl_append, getD_setB ds q k hq]
    obtain ⟨s, hs⟩ : ∃ s, s = (trueTo ds k).foldl (insStep (q : Int)) ([], false) := ⟨_, rfl⟩
    rw [← hs] at hi ⊢
    obtain ⟨l, b⟩ := s
    simp only at hi
    by_cases hd : ds.getD k false = true
    · rw [if_pos hd]
      rcases hi with ⟨h1, h2, h3⟩ | ⟨h1, h2, h3⟩ | ⟨h1, h2, h3⟩
      · left
        subst h1
        have e1 : ¬ (q = k) := by omega
        have e2 : ((k : Int) ≠ (q : Int)) := by omega
        rw [if_neg e1, if_pos hd, ← h3]
        refine ⟨by simp [insStep], by omega, ?_⟩
        simp [insStep, e2]
      · by_cases e : q = k
        · left
          subst h1
          have e2 : (k : Int) = (q : Int) := by omega
          rw [if_pos e]
          simp [insStep, e2, h3]
          rw [e, trueTo_set_le ds k k (Nat.le_refl _)]
          exact ⟨by omega, rfl⟩
        · right; left
          subst h1
          have e2 : ¬ ((q : Int) ≤ (k : Int)) := by omega
          have e3 : (k : Int) ≠ (q : Int) := by omega
          simp [insStep, e2, e3, h3]
          omega
      · left
        subst h1
        have e1 : ¬ (q = k) := by omega
        have e2 : ((k : Int) ≠ (q : Int)) := by omega
        have e3 : (q : Int) ≤ (k : Int) := by omega
        rw [if_neg e1, if_pos hd, ← h3]
        simp [insStep, e2, e3]
        omega
    · rw [if_neg hd, List.foldl_nil]
      rcases hi with ⟨h1, h2, h3⟩ | ⟨h1, h2, h3⟩ | ⟨h1, h2, h3⟩
      · left
        rw [if_neg (show ¬ q = k by omega), if_neg hd, List.append_nil]
        exact ⟨h1, by omega, h3⟩
      · by_cases e : q = k
        · right; right
          rw [if_pos e, if_pos rfl]
          refine ⟨h1, by omega, ?_⟩
          show l ++ _ = _
          rw [h3, trueTo_set_le ds q k (by omega), e]
        · right; left
          rw [List.append_nil]
          exact ⟨h1, by omega, h3⟩
      · right; right
        rw [if_neg (show ¬ q = k by omega), if_neg hd, List.append_nil]
        exact ⟨h1, by omega, h3⟩
theorem ins_trues (ds : List Bool) (q : Nat) (hq : q < ds.length) : ins (q : Int) (trues ds) = trues (ds.set q true) := by
  have h := ins_inv ds q hq ds.length (Nat.le_refl _)
  unfold ins insTo trues
  rw [List.take_length, List.length_set]
  rcases h with ⟨h1, h2, h3⟩ | ⟨h1, h2, h3⟩ | ⟨h1, h2, h3⟩
  · rw [if_pos h1]; exact h3
  · omega
  · rw [if_neg (by rw [h1]; decide)]; exact h3
/-! ### the document's Do -/
def doP (ps : List Int) (x : Put) : List Int := setP ps ps.length x.blk x.place
def doD (ps dl : List Int) (x : Put) : List Int :=
  if 0 ≤ x.blk ∧ x.blk < ps.length ∧ ps.getD x.blk.toNat 0 ≠ x.place then ins (x.blk / 10) (if x.clean then [] else dl) else (if x.clean then [] else dl)
def putC (x : Put) : List Value := [.int .i64 x.blk, .int .i64 x.place, .bool x.clean]
theorem size52 : (Try.prog.info? 52).map (·.size) = some 3 := by kernel_rfl
section
variable {ops : Array Oper} {rest : List Oper} {o : Oper} {a : Act} {Q : Exit → Act → World → Prop} {w0 W : World} {B : Nat}
theorem box52 (hgd : o.guard = none) (x : Operand) (ho : o.op = .box 52 x) (p : Put) (hx : a.eval x = .agg (putC p).toArray)
    (h : ∀ w1 g, W.heap.size ≤ g → Blk w1 g 52 (putC p) → W.grownBy w1 none → wpList Try.prog ops Q rest (a.put o.dst (.pointer (some ⟨g, 0, none⟩))) w1) : wpList Try.prog ops Q (o :: rest) a W :=
  wpl_box hgd 52 x ho _ hx _ rfl h
theorem lit0_i64 (hgd : o.guard = none) (N : Tmp) (hd : o.dst = some N) (ho : o.op = .buildSlice 22 0 #[]) (HB : Below B w0 W) (hb : B ≤ W.heap.size)
    (h : ∀ v1 w1, RI w1 B v1 [] → Below B w0 w1 → W.grownBy w1 none → wpList Try.prog ops Q rest (a.put o.dst v1) w1) : wpList Try.prog ops Q (o :: rest) a W :=
  Kd.R_lit (Kd.int .i64) B 3 hgd hd (xs := ([] : List Int)) (inner := []) (ok := fun _ => True) (okp := fun _ => True) (by simp only [execOp, ho]; kernel_rfl) (Reps.none _ _) (fun _ h => h) trivial HB hb (by simp)
    fun v1 w1 h1 h2 h3 _ => h v1 w1 h1 h2 h3
theorem app_rowI (hgd : o.guard = none) (s x : Operand) (ho : o.op = .call { callee := .builtin .append, args := #[s, x], argTypes := #[22, 22] })
    (v : Value) (l ys : List Int) (A : Option Addr) (m c : Nat) (hs : a.eval s = v) (hx : a.eval x = .slice A m c) (HO : RI W B v l) (HR : CI W A m ys) (HB : Below B w0 W) (hb : B ≤ W.heap.size) (hl : l.length + m ≤ 1000000)
    (h : ∀ v1 w1, RI w1 B v1 (l ++ ys) → Below B w0 w1 → W.grownBy w1 v.ownBlock → wpList Try.prog ops Q rest (a.put o.dst v1) w1) : wpList Try.prog ops Q (o :: rest) a W :=
  Kd.R_append_row (enc := Value.int .i64) (d := (0 : Int)) (w0 := w0) B hgd s x 22 3 (.int .i64 0) 8 ho Try.underlying22 info3 rfl (by decide) v l ys A m c (fun _ => True) hs hx (fun _ _ => trivial) HO HR HB hb (by omega)
    fun v1 w1 h1 h2 h3 _ => h v1 w1 h1 h2 h3
end
theorem RI.cell {w : World} {B g n c : Nat} {l : List Int} (h : RI w B (.slice (some ⟨g, 0, none⟩) n c) l) (k : Nat) (hk : k < n) : w.cell? ⟨g, k, none⟩ = some (.int .i64 (l.getD k 0)) ∧ w.frozen? ⟨g, k, none⟩ = false := by
  have := Kd.R_celln (0 : Int) h (k : Int) (by omega) (by omega)
  rw [Int.toNat_natCast] at this
  exact this
theorem RI.put {w : World} {B g n c : Nat} {l : List Int} (h : RI w B (.slice (some ⟨g, 0, none⟩) n c) l) (k : Nat) (hk : k < n) (x : Int) : RI (w.setCell ⟨g, k, none⟩ (.int .i64 x)) B (.slice (some ⟨g, 0, none⟩) n c) (l.set k x) := by
  have := Kd.R_putn h (k : Int) x
  rw [Int.toNat_natCast] at this
  exact this
set_option maxRecDepth 10000 in
set_option maxHeartbeats 4000000 in
theorem do_calls (w : World) (B : Nat) (hB : B ≤ w.heap.size) (vP vD : Value) (ps dl : List Int) (hP : RI w B vP ps) (hD : RI w B vD dl) (x : Put) (hx : gPut x) (hl : ps.length ≤ 255) (hd : dl.length ≤ 1000) : Calls Try.prog 29 #[vP, vD, .agg (putC x).toArray] w fun e w' => ∃ v1 v2, e = .returned (.tuple #[v1, v2, .int .i64 (getP ps ps.length x.blk)]) ∧ RI w' B v1 (doP ps x) ∧ RI w' B v2 (doD ps dl x) ∧ Below w.heap.size w w' := by
  obtain ⟨b, p, c⟩ := x
  have hb0 := (bounds_i64 hx.1).1
  have HW := Aside0.mk (Keeps.refl w)
  have HP := Aside0.mk hP
  obtain ⟨AP, cP, rfl, hcP, hCP⟩ := RI.reads hP
  have HCP := Aside0.mk hCP
  clear hx hP hCP
  cases c
  · skip
    have HD := Aside0.mk hD
    obtain ⟨AD, cD, rfl, hcD, hCD⟩ := RI.reads hD
    have HCD := Aside0.mk hCD
    clear hD hCD
    go_enter Try.func29, Try.ntmps29
    by_cases hr : 0 ≤ b ∧ b < ps.length
    · have HG := Aside0.mk (show getP ps ps.length b = ps.getD b.toNat 0 by unfold getP; rw [if_pos hr])
      have HSP := Aside0.mk (show doP ps ⟨b, p, false⟩ = ps.set b.toNat p by unfold doP setP; rw [if_pos hr])
      have HSD := Aside0.mk (show doD ps dl ⟨b, p, false⟩ = if ps.getD b.toNat 0 = p then dl else ins (b / 10) dl by
        show (if 0 ≤ b ∧ b < (ps.length : Int) ∧ ps.getD b.toNat 0 ≠ p then ins (b / 10) (if false = true then [] else dl) else (if false = true then [] else dl)) = _
        rw [show (if false = true then [] else dl) = dl by rfl]
        by_cases e : ps.getD b.toNat 0 = p
        · rw [if_neg (fun h => h.2.2 e), if_pos e]
        · rw [if_pos ⟨hr.1, hr.2, e⟩, if_neg e])
      obtain ⟨k, rfl⟩ : ∃ k : Nat, b = k := ⟨b.toNat, by omega⟩
      rw [Int.toNat_natCast] at HG HSP HSD
      have hkn : k < ps.length := by omega
      obtain ⟨g0, cap0, e0, _, _, _⟩ := Kd.R_form HP.out (by omega)
      injection e0 with e1
      subst e1
      obtain ⟨old, ho⟩ : ∃ old, old = ps.getD k 0 := ⟨_, rfl⟩
      rw [← ho] at HG HSD
      have HOLD := Aside0.mk ho
      obtain ⟨q, hq⟩ : ∃ q, q = k / 10 := ⟨_, rfl⟩
      have hkq : (k : Int) / 10 = (q : Int) := by omega
      rw [show ((k : Int) / 10) = ((q : Nat) : Int) by omega] at HSD
      clear ho hq
      go_upto_region 7 with (first | ((with_reducible refine gate_dst (N := 5) rfl ?_); refine box52 rfl (.tmp 2) rfl ⟨k, p, false⟩ rfl ?_; intro w1 g h1 h2 h3; have H1 := Aside0.mk (HW.out.new h3 h2); have hc0 : w1.cell? ⟨g, 0, none⟩ = some (.int .i64 (k : Int)) := h2.cell rfl; have hc1 : w1.cell? ⟨g, 1, none⟩ = some (.int .i64 p) := h2.cell rfl; have hc2 : w1.cell? ⟨g, 2, none⟩ = some (.bool false) := h2.cell rfl; have hcP := (RI.cell (Kd.R_below HP.out H1.out.below) k hkn).1; rw [← HOLD.out] at hcP; clear h2 h3) | ((with_reducible refine gate_dst (N := 34) rfl ?_); refine lit0_i64 (w0 := w1) (B := w1.heap.size) rfl _ rfl rfl (Below.refl _ _) (Nat.le_refl _) ?_; intro v2 w2 h4 h5 h6; have H4 := Aside0.mk h4; have H5 := Aside0.mk h5; clear h4 h5 h6) | ((with_reducible refine gate_dst (N := 36) rfl ?_); refine app_rowI (w0 := w1) (B := w1.heap.size) rfl (.tmp 34) (.tmp 35) rfl v2 [] ps _ _ _ rfl rfl H4.out (Kd.C_below HCP.out (H1.out.step H5.out).below) H5.out H5.out.size (by simp; omega) ?_; intro v3 w3 h7 h8 h9; have H7 := Aside0.mk h7; have H8 := Aside0.mk h8; clear h7 h8 h9))
      rw [List.nil_append] at H7
      obtain ⟨g3, cap3, rfl, hg3, hg3', _⟩ := Kd.R_form H7.out (by omega)
      have HB1 := Aside0.mk (H1.out.head.below' H8.out)
      have hd0 : w3.cell? ⟨g, 0, none⟩ = some (.int .i64 (k : Int)) := HB1.out.cell rfl
      have hd1 : w3.cell? ⟨g, 1, none⟩ = some (.int .i64 p) := HB1.out.cell rfl
      obtain ⟨hd2, hd3⟩ := RI.cell H7.out k hkn
      clear hc0 hc1 hc2 hcP
      go_upto_region 8 with (fail)
      have HX := Aside0.mk (below_grown H8.out hg3 H8.out.size (grown_set w3 g3 k (.int .i64 p)))
      have HN := Aside0.mk (RI.put H7.out k hkn p)
      clear hd0 hd1 hd2 hd3
      generalize w3.setCell ⟨g3, k, none⟩ (.int .i64 p) = w4 at *
      have HB2 := Aside0.mk (H1.out.head.below' HX.out)
      have hd0 : w4.cell? ⟨g, 0, none⟩ = some (.int .i64 (k : Int)) := HB2.out.cell rfl
      have hd1 : w4.cell? ⟨g, 1, none⟩ = some (.int .i64 p) := HB2.out.cell rfl
      have hW4 := (H1.out.step HX.out).below
      have HW4 := Aside0.mk hW4
      clear hW4 H7 H8 HB1 HB2
      by_cases hop : old = p
      · rw [if_pos hop] at HSD
        subst hop
        have hdo : (old == old) = true := by simp
        go_wp2_with fail
        go_ret3
        exact ⟨_, _, by rw [HG.out]; rfl, by rw [HSP.out]; exact Kd.R_lower HN.out (Nat.le_trans hB H1.out.size), by rw [HSD.out]; exact Kd.R_below HD.out HW4.out, HW4.out⟩
      · have hdo : (old == p) = false := by simp; exact hop
        rw [if_neg hop] at HSD
        have HL0 := Aside0.mk (Kd.R_nil (Kd.int .i64) 3 w4 w4.heap.size (fun _ => True))
        go_wp2_with fail
        go_loopw [12, 13, 14] (fun v n i wr => ∃ j : Nat, j ≤ dl.length ∧ i = .int .i64 j ∧ n = .bool (insTo (q : Int) dl j).2 ∧ Aside0 (RI wr w4.heap.size v (insTo (q : Int) dl j).1) ∧ Aside0 (Below w4.heap.size w4 wr)) (fun _ _ i _ => dl.length - (intOf i).toNat)
        case atStart => exact ⟨0, by omega, rfl, rfl, HL0, ⟨Below.refl _ _⟩⟩
        case round =>
          clear HL0 hd0 hd1
          obtain ⟨j, hj, rfl, rfl, HO, HXr⟩ := hrel
          have hlen := insTo_len (q : Int) dl j hj
          by_cases hlt : j < dl.length
          · have hdj : decide ((j : Int) < dl.length) = true := by simp; omega
            have HSU := Aside0.mk (insTo_succ (q : Int) dl j hlt)
            obtain ⟨ad, hA, hy4⟩ := Kd.at_int (Kd.C_below HCD.out HW4.out) (j : Int) (by omega) (by omega)
            subst hA
            rw [Int.toNat_natCast] at hy4
            obtain ⟨y, hyy⟩ : ∃ y, y = rd dl (j : Int) := ⟨_, rfl⟩
            rw [← hyy] at hy4
            have HY4 := Aside0.mk hy4
            have hy := pw_cell_below HXr.out hy4
            clear hy4
            rw [show dl.getD j 0 = y from hyy.symm] at HSU
            obtain ⟨s, hs⟩ : ∃ s, s = insTo (q : Int) dl j := ⟨_, rfl⟩
            rw [← hs] at HSU HO hlen
            rw [← hs]
            obtain ⟨l, inn⟩ := s
            clear hyy hs
            simp only at HO hlen
            have hdl2 : dl.length ≤ 1000 := hd
            rcases Int.lt_trichotomy y (q : Int) with hlt2 | heq | hgt
            · cases inn
              · have hge : decide ((q : Int) ≤ y) = false := by simp; omega
                have hne : (y != (q : Int)) = true := by simp; omega
                rw [insStep_lt l false hlt2] at HSU
                go_wp2_with (first | ((with_reducible refine gate_dst (N := 85) rfl ?_); refine app_i64 rfl (.tmp 79) (.tmp 84) rfl u12 l y rfl rfl HO.out HXr.out HXr.out.size (by first | omega | (rw [List.length_append, List.length_singleton]; omega)) ?_; intro v6 w6 h7 h8 h9; have H9 := Aside0.mk h7; have H10 := Aside0.mk h8; clear h7 h8))
                go_roundw
                case rel => exact ⟨j + 1, by omega, by go_num, by rw [HSU.out], ⟨by rw [HSU.out]; exact H9.out⟩, H10⟩
                case measure => simp [intOf]; omega
              · have hge : decide ((q : Int) ≤ y) = false := by simp; omega
                have hne : (y != (q : Int)) = true := by simp; omega
                rw [insStep_lt l true hlt2] at HSU
                go_wp2_with (first | ((with_reducible refine gate_dst (N := 85) rfl ?_); refine app_i64 rfl (.tmp 79) (.tmp 84) rfl u12 l y rfl rfl HO.out HXr.out HXr.out.size (by first | omega | (rw [List.length_append, List.length_singleton]; omega)) ?_; intro v6 w6 h7 h8 h9; have H9 := Aside0.mk h7; have H10 := Aside0.mk h8; clear h7 h8))
                go_roundw
                case rel => exact ⟨j + 1, by omega, by go_num, by rw [HSU.out], ⟨by rw [HSU.out]; exact H9.out⟩, H10⟩
                case measure => simp [intOf]; omega
            · subst heq
              cases inn
              · skip
                rw [insStep_eq_f (q : Int) l] at HSU
                go_wp2_with (first | ((with_reducible refine gate_dst (N := 72) rfl ?_); refine app_i64 rfl (.tmp 69) (.tmp 71) rfl u12 l (q : Int) rfl rfl HO.out HXr.out HXr.out.size (by omega) ?_; intro v5 w5 h7 h8 h9; have H7 := Aside0.mk h7; have H8 := Aside0.mk h8; have hy5 := pw_cell_below h8 HY4.out; clear h7 h8))
                go_roundw
                case rel => exact ⟨j + 1, by omega, by go_num, by rw [HSU.out], ⟨by rw [HSU.out]; exact H7.out⟩, H8⟩
                case measure => simp [intOf]; omega
              · skip
                rw [insStep_eq_t (q : Int) l] at HSU
                go_wp2_with fail
                go_roundw
                case rel => exact ⟨j + 1, by omega, by go_num, by rw [HSU.out], ⟨by rw [HSU.out]; exact HO.out⟩, HXr⟩
                case measure => simp [intOf]; omega
            · cases inn
              · have hge : decide ((q : Int) ≤ y) = true := by simp; omega
                have hne : (y != (q : Int)) = true := by simp; omega
                rw [insStep_gt_f l hgt] at HSU
                go_wp2_with (first | ((with_reducible refine gate_dst (N := 72) rfl ?_); refine app_i64 rfl (.tmp 69) (.tmp 71) rfl u12 l (q : Int) rfl rfl HO.out HXr.out HXr.out.size (by omega) ?_; intro v5 w5 h7 h8 h9; have H7 := Aside0.mk h7; have H8 := Aside0.mk h8; have hy5 := pw_cell_below h8 HY4.out; clear h7 h8) | ((with_reducible refine gate_dst (N := 85) rfl ?_); refine app_i64 rfl (.tmp 79) (.tmp 84) rfl v5 (l ++ [(q : Int)]) y rfl rfl H7.out H8.out H8.out.size (by first | omega | (rw [List.length_append, List.length_singleton]; omega)) ?_; intro v6 w6 h7 h8 h9; have H9 := Aside0.mk h7; have H10 := Aside0.mk h8; clear h7 h8))
                go_roundw
                case rel => exact ⟨j + 1, by omega, by go_num, by rw [HSU.out], ⟨by rw [HSU.out]; exact H9.out⟩, H10⟩
                case measure => simp [intOf]; omega
              · have hge : decide ((q : Int) ≤ y) = true := by simp; omega
                have hne : (y != (q : Int)) = true := by simp; omega
                rw [insStep_gt_t l hgt] at HSU
                go_wp2_with (first | ((with_reducible refine gate_dst (N := 85) rfl ?_); refine app_i64 rfl (.tmp 79) (.tmp 84) rfl u12 l y rfl rfl HO.out HXr.out HXr.out.size (by first | omega | (rw [List.length_append, List.length_singleton]; omega)) ?_; intro v6 w6 h7 h8 h9; have H9 := Aside0.mk h7; have H10 := Aside0.mk h8; clear h7 h8))
                go_roundw
                case rel => exact ⟨j + 1, by omega, by go_num, by rw [HSU.out], ⟨by rw [HSU.out]; exact H9.out⟩, H10⟩
                case measure => simp [intOf]; omega
          · obtain rfl : j = dl.length := by omega
            have hdj : decide ((dl.length : Int) < dl.length) = false := by simp
            have hdl2 : dl.length ≤ 1000 := by omega
            by_cases hin : (insTo (q : Int) dl dl.length).2 = true
            · rw [hin]
              have HI := Aside0.mk (show ins (q : Int) dl = (insTo (q : Int) dl dl.length).1 by unfold ins; rw [if_pos hin])
              go_wp2_with fail
              go_ret3
              exact ⟨_, _, by rw [HG.out]; rfl, by rw [HSP.out]; exact Kd.R_lower (Kd.R_below HN.out HXr.out) (Nat.le_trans hB H1.out.size), by rw [HSD.out, HI.out]; exact Kd.R_lower HO.out (Nat.le_trans hB HW4.out.size), HW4.out.trans (HXr.out.mono HW4.out.size)⟩
            · have hin2 := Bool.eq_false_iff.2 hin
              rw [hin2]
              have HI := Aside0.mk (show ins (q : Int) dl = (insTo (q : Int) dl dl.length).1 ++ [(q : Int)] by unfold ins; rw [if_neg hin])
              go_wp2_with (first | ((with_reducible refine gate_dst (N := 91) rfl ?_); refine app_i64 rfl (.tmp 88) (.tmp 90) rfl u12 _ (q : Int) rfl rfl HO.out HXr.out HXr.out.size (by omega) ?_; intro v5 w5 h7 h8 h9; have H7 := Aside0.mk h7; have H8 := Aside0.mk h8; clear h7 h8))
              go_ret3
              exact ⟨_, _, by rw [HG.out]; rfl, by rw [HSP.out]; exact Kd.R_lower (Kd.R_below HN.out H8.out) (Nat.le_trans hB H1.out.size), by rw [HSD.out, HI.out]; exact Kd.R_lower H7.out (Nat.le_trans hB HW4.out.size), HW4.out.trans (H8.out.mono HW4.out.size)⟩
    · have hG : getP ps ps.length b = 0 := by unfold getP; rw [if_neg hr]
      have hSP : doP ps ⟨b, p, false⟩ = ps := by unfold doP setP; rw [if_neg hr]
      have hSD : doD ps dl ⟨b, p, false⟩ = dl := by
        show (if 0 ≤ b ∧ b < (ps.length : Int) ∧ ps.getD b.toNat 0 ≠ p then ins (b / 10) (if false = true then [] else dl) else (if false = true then [] else dl)) = _
        rw [if_neg (fun h => hr ⟨h.1, h.2.1⟩)]
        rfl
      have HG := Aside0.mk hG
      have HSP := Aside0.mk hSP
      have HSD := Aside0.mk hSD
      clear hG hSP hSD
      by_cases h0 : b < 0
      · have hdn0 : decide (b < 0) = true := by simp; omega
        go_wp2_with (first | ((with_reducible refine gate_dst (N := 5) rfl ?_); refine box52 rfl (.tmp 2) rfl ⟨b, p, false⟩ rfl ?_; intro w1 g h1 h2 h3; have H1 := Aside0.mk (HW.out.new h3 h2); have hc0 : w1.cell? ⟨g, 0, none⟩ = some (.int .i64 b) := h2.cell rfl; have hc1 : w1.cell? ⟨g, 1, none⟩ = some (.int .i64 p) := h2.cell rfl; have hc2 : w1.cell? ⟨g, 2, none⟩ = some (.bool false) := h2.cell rfl; clear h2 h3))
        go_ret3
        exact ⟨_, _, by rw [HG.out]; rfl, by rw [HSP.out]; exact Kd.R_below HP.out H1.out.below, by rw [HSD.out]; exact Kd.R_below HD.out H1.out.below, H1.out.below⟩
      · have hdn0 : decide (b < 0) = false := by simp; omega
        have hdn1 : decide ((ps.length : Int) ≤ b) = true := by simp; omega
        go_wp2_with (first | ((with_reducible refine gate_dst (N := 5) rfl ?_); refine box52 rfl (.tmp 2) rfl ⟨b, p, false⟩ rfl ?_; intro w1 g h1 h2 h3; have H1 := Aside0.mk (HW.out.new h3 h2); have hc0 : w1.cell? ⟨g, 0, none⟩ = some (.int .i64 b) := h2.cell rfl; have hc1 : w1.cell? ⟨g, 1, none⟩ = some (.int .i64 p) := h2.cell rfl; have hc2 : w1.cell? ⟨g, 2, none⟩ = some (.bool false) := h2.cell rfl; clear h2 h3))
        go_ret3
        exact ⟨_, _, by rw [HG.out]; rfl, by rw [HSP.out]; exact Kd.R_below HP.out H1.out.below, by rw [HSD.out]; exact Kd.R_below HD.out H1.out.below, H1.out.below⟩
  · skip
    have HD := Aside0.mk (Kd.R_nil (Kd.int .i64) 3 w B (fun _ => True))
    obtain ⟨dn, hdn⟩ : ∃ dn : List Int, dn = [] := ⟨_, rfl⟩
    rw [← hdn] at HD
    have hnil : dn.length = 0 := by rw [hdn]; rfl
    have HCD := Aside0.mk (show CI w none dn.length dn by
      obtain ⟨A, c, e, _, h⟩ := RI.reads HD.out
      injection e with e1
      rw [← e1] at h
      exact h)
    have HDN := Aside0.mk hdn
    clear hD hd hdn
    go_enter Try.func29, Try.ntmps29
    by_cases hr : 0 ≤ b ∧ b < ps.length
    · have HG := Aside0.mk (show getP ps ps.length b = ps.getD b.toNat 0 by unfold getP; rw [if_pos hr])
      have HSP := Aside0.mk (show doP ps ⟨b, p, true⟩ = ps.set b.toNat p by unfold doP setP; rw [if_pos hr])
      have HSD := Aside0.mk (show doD ps dl ⟨b, p, true⟩ = if ps.getD b.toNat 0 = p then dn else ins (b / 10) dn by
        show (if 0 ≤ b ∧ b < (ps.length : Int) ∧ ps.getD b.toNat 0 ≠ p then ins (b / 10) (if true = true then [] else dl) else (if true = true then [] else dl)) = _
        rw [show (if true = true then [] else dl) = dn by rw [if_pos rfl, HDN.out]]
        by_cases e : ps.getD b.toNat 0 = p
        · rw [if_neg (fun h => h.2.2 e), if_pos e]
        · rw [if_pos ⟨hr.1, hr.2, e⟩, if_neg e])
      obtain ⟨k, rfl⟩ : ∃ k : Nat, b = k := ⟨b.toNat, by omega⟩
      rw [Int.toNat_natCast] at HG HSP HSD
      have hkn : k < ps.length := by omega
      obtain ⟨g0, cap0, e0, _, _, _⟩ := Kd.R_form HP.out (by omega)
      injection e0 with e1
      subst e1
      obtain ⟨old, ho⟩ : ∃ old, old = ps.getD k 0 := ⟨_, rfl⟩
      rw [← ho] at HG HSD
      have HOLD := Aside0.mk ho
      obtain ⟨q, hq⟩ : ∃ q, q = k / 10 := ⟨_, rfl⟩
      have hkq : (k : Int) / 10 = (q : Int) := by omega
      rw [show ((k : Int) / 10) = ((q : Nat) : Int) by omega] at HSD
      clear ho hq
      go_upto_region 7 with (first | ((with_reducible refine gate_dst (N := 5) rfl ?_); refine box52 rfl (.tmp 2) rfl ⟨k, p, true⟩ rfl ?_; intro w1 g h1 h2 h3; have H1 := Aside0.mk (HW.out.new h3 h2); have hc0 : w1.cell? ⟨g, 0, none⟩ = some (.int .i64 (k : Int)) := h2.cell rfl; have hc1 : w1.cell? ⟨g, 1, none⟩ = some (.int .i64 p) := h2.cell rfl; have hc2 : w1.cell? ⟨g, 2, none⟩ = some (.bool true) := h2.cell rfl; have hcP := (RI.cell (Kd.R_below HP.out H1.out.below) k hkn).1; rw [← HOLD.out] at hcP; clear h2 h3) | ((with_reducible refine gate_dst (N := 34) rfl ?_); refine lit0_i64 (w0 := w1) (B := w1.heap.size) rfl _ rfl rfl (Below.refl _ _) (Nat.le_refl _) ?_; intro v2 w2 h4 h5 h6; have H4 := Aside0.mk h4; have H5 := Aside0.mk h5; clear h4 h5 h6) | ((with_reducible refine gate_dst (N := 36) rfl ?_); refine app_rowI (w0 := w1) (B := w1.heap.size) rfl (.tmp 34) (.tmp 35) rfl v2 [] ps _ _ _ rfl rfl H4.out (Kd.C_below HCP.out (H1.out.step H5.out).below) H5.out H5.out.size (by simp; omega) ?_; intro v3 w3 h7 h8 h9; have H7 := Aside0.mk h7; have H8 := Aside0.mk h8; clear h7 h8 h9))
      rw [List.nil_append] at H7
      obtain ⟨g3, cap3, rfl, hg3, hg3', _⟩ := Kd.R_form H7.out (by omega)
      have HB1 := Aside0.mk (H1.out.head.below' H8.out)
      have hd0 : w3.cell? ⟨g, 0, none⟩ = some (.int .i64 (k : Int)) := HB1.out.cell rfl
      have hd1 : w3.cell? ⟨g, 1, none⟩ = some (.int .i64 p) := HB1.out.cell rfl
      obtain ⟨hd2, hd3⟩ := RI.cell H7.out k hkn
      clear hc0 hc1 hc2 hcP
      go_upto_region 8 with (fail)
      have HX := Aside0.mk (below_grown H8.out hg3 H8.out.size (grown_set w3 g3 k (.int .i64 p)))
      have HN := Aside0.mk (RI.put H7.out k hkn p)
      clear hd0 hd1 hd2 hd3
      generalize w3.setCell ⟨g3, k, none⟩ (.int .i64 p) = w4 at *
      have HB2 := Aside0.mk (H1.out.head.below' HX.out)
      have hd0 : w4.cell? ⟨g, 0, none⟩ = some (.int .i64 (k : Int)) := HB2.out.cell rfl
      have hd1 : w4.cell? ⟨g, 1, none⟩ = some (.int .i64 p) := HB2.out.cell rfl
      have hW4 := (H1.out.step HX.out).below
      have HW4 := Aside0.mk hW4
      clear hW4 H7 H8 HB1 HB2
      by_cases hop : old = p
      · rw [if_pos hop] at HSD
        subst hop
        have hdo : (old == old) = true := by simp
        go_wp2_with fail
        go_ret3
        exact ⟨_, _, by rw [HG.out]; rfl, by rw [HSP.out]; exact Kd.R_lower HN.out (Nat.le_trans hB H1.out.size), by rw [HSD.out]; exact Kd.R_below HD.out HW4.out, HW4.out⟩
      · have hdo : (old == p) = false := by simp; exact hop
        rw [if_neg hop] at HSD
        have HL0 := Aside0.mk (Kd.R_nil (Kd.int .i64) 3 w4 w4.heap.size (fun _ => True))
        go_wp2_with fail
        go_loopw [12, 13, 14] (fun v n i wr => ∃ j : Nat, j ≤ dn.length ∧ i = .int .i64 j ∧ n = .bool (insTo (q : Int) dn j).2 ∧ Aside0 (RI wr w4.heap.size v (insTo (q : Int) dn j).1) ∧ Aside0 (Below w4.heap.size w4 wr)) (fun _ _ i _ => dn.length - (intOf i).toNat)
        case atStart => exact ⟨0, by omega, rfl, rfl, HL0, ⟨Below.refl _ _⟩⟩
        case round =>
          clear HL0 hd0 hd1
          obtain ⟨j, hj, rfl, rfl, HO, HXr⟩ := hrel
          have hlen := insTo_len (q : Int) dn j hj
          by_cases hlt : j < dn.length
          · exfalso; omega
          · obtain rfl : j = dn.length := by omega
            have hdj : decide ((dn.length : Int) < dn.length) = false := by simp
            have hdl2 : dn.length ≤ 1000 := by omega
            by_cases hin : (insTo (q : Int) dn dn.length).2 = true
            · rw [hin]
              have HI := Aside0.mk (show ins (q : Int) dn = (insTo (q : Int) dn dn.length).1 by unfold ins; rw [if_pos hin])
              go_wp2_with fail
              go_ret3
              exact ⟨_, _, by rw [HG.out]; rfl, by rw [HSP.out]; exact Kd.R_lower (Kd.R_below HN.out HXr.out) (Nat.le_trans hB H1.out.size), by rw [HSD.out, HI.out]; exact Kd.R_lower HO.out (Nat.le_trans hB HW4.out.size), HW4.out.trans (HXr.out.mono HW4.out.size)⟩
            · have hin2 := Bool.eq_false_iff.2 hin
              rw [hin2]
              have HI := Aside0.mk (show ins (q : Int) dn = (insTo (q : Int) dn dn.length).1 ++ [(q : Int)] by unfold ins; rw [if_neg hin])
              go_wp2_with (first | ((with_reducible refine gate_dst (N := 91) rfl ?_); refine app_i64 rfl (.tmp 88) (.tmp 90) rfl u12 _ (q : Int) rfl rfl HO.out HXr.out HXr.out.size (by omega) ?_; intro v5 w5 h7 h8 h9; have H7 := Aside0.mk h7; have H8 := Aside0.mk h8; clear h7 h8))
              go_ret3
              exact ⟨_, _, by rw [HG.out]; rfl, by rw [HSP.out]; exact Kd.R_lower (Kd.R_below HN.out H8.out) (Nat.le_trans hB H1.out.size), by rw [HSD.out, HI.out]; exact Kd.R_lower H7.out (Nat.le_trans hB HW4.out.size), HW4.out.trans (H8.out.mono HW4.out.size)⟩
    · have hG : getP ps ps.length b = 0 := by unfold getP; rw [if_neg hr]
      have hSP : doP ps ⟨b, p, true⟩ = ps := by unfold doP setP; rw [if_neg hr]
      have hSD : doD ps dl ⟨b, p, true⟩ = dn := by
        show (if 0 ≤ b ∧ b < (ps.length : Int) ∧ ps.getD b.toNat 0 ≠ p then ins (b / 10) (if true = true then [] else dl) else (if true = true then [] else dl)) = _
        rw [if_neg (fun h => hr ⟨h.1, h.2.1⟩)]
        rw [if_pos rfl, HDN.out]
      have HG := Aside0.mk hG
      have HSP := Aside0.mk hSP
      have HSD := Aside0.mk hSD
      clear hG hSP hSD
      by_cases h0 : b < 0
      · have hdn0 : decide (b < 0) = true := by simp; omega
        go_wp2_with (first | ((with_reducible refine gate_dst (N := 5) rfl ?_); refine box52 rfl (.tmp 2) rfl ⟨b, p, true⟩ rfl ?_; intro w1 g h1 h2 h3; have H1 := Aside0.mk (HW.out.new h3 h2); have hc0 : w1.cell? ⟨g, 0, none⟩ = some (.int .i64 b) := h2.cell rfl; have hc1 : w1.cell? ⟨g, 1, none⟩ = some (.int .i64 p) := h2.cell rfl; have hc2 : w1.cell? ⟨g, 2, none⟩ = some (.bool true) := h2.cell rfl; clear h2 h3))
        go_ret3
        exact ⟨_, _, by rw [HG.out]; rfl, by rw [HSP.out]; exact Kd.R_below HP.out H1.out.below, by rw [HSD.out]; exact Kd.R_below HD.out H1.out.below, H1.out.below⟩
      · have hdn0 : decide (b < 0) = false := by simp; omega
        have hdn1 : decide ((ps.length : Int) ≤ b) = true := by simp; omega
        go_wp2_with (first | ((with_reducible refine gate_dst (N := 5) rfl ?_); refine box52 rfl (.tmp 2) rfl ⟨b, p, true⟩ rfl ?_; intro w1 g h1 h2 h3; have H1 := Aside0.mk (HW.out.new h3 h2); have hc0 : w1.cell? ⟨g, 0, none⟩ = some (.int .i64 b) := h2.cell rfl; have hc1 : w1.cell? ⟨g, 1, none⟩ = some (.int .i64 p) := h2.cell rfl; have hc2 : w1.cell? ⟨g, 2, none⟩ = some (.bool true) := h2.cell rfl; clear h2 h3))
        go_ret3
        exact ⟨_, _, by rw [HG.out]; rfl, by rw [HSP.out]; exact Kd.R_below HP.out H1.out.below, by rw [HSD.out]; exact Kd.R_below HD.out H1.out.below, H1.out.below⟩
end Go.Proofs.Ytkkmmbbnaafhlaa.Tab
