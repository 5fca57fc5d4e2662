-- PRINTED BY print.sh 35421559b90ae4d0a3588c463048766b98c2df88dd9212a6774a882060cdf62d: not written by this session
import Derived.Test.YtkkmmbbnaafhlaaPRollJoinx0
import Derived.Test.YtkkmmbbnaafhlaaPRollJoinx1
namespace Go.Proofs.Ytkkmmbbnaafhlaa.PRollJoin
open Go.RowKit Go.Proofs.YtkkmmbbnaafhlaaW.PrintWords Go.Proofs.YtkkmmbbnaafhlaaW.PrintLast Go.Proofs.YtkkmmbbnaafhlaaW.PrintMore
attribute [local go_sem] max2_int min2_int max_two min_two max_three min_three max_four min_four   -- for this text's walks alone
set_option linter.unusedVariables false
set_option linter.unusedSimpArgs false

attribute [local go_sem high] eqA44
/-! ### windrowref15_Same: function 20 -/
mutual
def windrowref15_Same.l0 : Nat → List (S28) → List (S28) → Int → Option (Bool)
  | 0, _, _, _ => none
  | k + 1, x0, x1, x5 => if x5 < (x0.length : Int) then (if 0 ≤ x5 then (if x5 < (x1.length : Int) then (if (((rd_T28 x0 x5).f0) != ((rd_T28 x1 x5).f0)) = true then (windrowref15_Same.j1 k x0 x1 x5 true) else (if ((rd_T28 x0 x5).f1) = ((rd_T28 x1 x5).f1) then (windrowref15_Same.j1 k x0 x1 x5 ((((rd_T28 x0 x5).f2).length : Int) != (((rd_T28 x1 x5).f2).length : Int))) else (windrowref15_Same.j1 k x0 x1 x5 true))) else (none)) else (none)) else (some true)
def windrowref15_Same.j1 : Nat → List (S28) → List (S28) → Int → Bool → Option (Bool)
  | 0, _, _, _, _ => none
  | k + 1, x0, x1, x5, x56 => if x56 = true then (some false) else (windrowref15_Same.l1 k x0 x1 x5 0)
def windrowref15_Same.l1 : Nat → List (S28) → List (S28) → Int → Int → Option (Bool)
  | 0, _, _, _, _ => none
  | k + 1, x0, x1, x5, x6 => if 0 ≤ x5 then (if x5 < (x0.length : Int) then (if x6 < (((rd_T28 x0 x5).f2).length : Int) then (if 0 ≤ x6 then (if x5 < (x1.length : Int) then (if x6 < (((rd_T28 x1 x5).f2).length : Int) then (if (!(((rd_T44 ((rd_T28 x0 x5).f2) x6).f0) == ((rd_T44 ((rd_T28 x1 x5).f2) x6).f0)) || (!(((rd_T44 ((rd_T28 x0 x5).f2) x6).f1) == ((rd_T44 ((rd_T28 x1 x5).f2) x6).f1)))) = true then (some false) else (windrowref15_Same.l1 k x0 x1 x5 (wrap64 (x6 + 1)))) else (none)) else (none)) else (none)) else (windrowref15_Same.l0 k x0 x1 (wrap64 (x5 + 1)))) else (none)) else (none)
end
def windrowref15_Same.f (k : Nat) (l0 : List (S28)) (l1 : List (S28)) : Option (Bool) := if (l0.length : Int) = (l1.length : Int) then (windrowref15_Same.l0 k l0 l1 0) else (some false)
theorem windrowref15_Same.mono_l : ∀ k, (∀ y0 y1 y2, LeO (windrowref15_Same.l0 k y0 y1 y2) (windrowref15_Same.l0 (k + 1) y0 y1 y2)) ∧ (∀ y0 y1 y2 y3, LeO (windrowref15_Same.j1 k y0 y1 y2 y3) (windrowref15_Same.j1 (k + 1) y0 y1 y2 y3)) ∧ (∀ y0 y1 y2 y3, LeO (windrowref15_Same.l1 k y0 y1 y2 y3) (windrowref15_Same.l1 (k + 1) y0 y1 y2 y3))
  | 0 => ⟨fun _ _ _ r h => by simp [windrowref15_Same.l0] at h, fun _ _ _ _ r h => by simp [windrowref15_Same.j1] at h, fun _ _ _ _ r h => by simp [windrowref15_Same.l1] at h⟩
  | k + 1 => by
    obtain ⟨ih0, ih1, ih2⟩ := windrowref15_Same.mono_l k
    refine ⟨?_, ?_, ?_⟩
    · intro y0 y1 y2
      unfold windrowref15_Same.l0
      repeat' first
      | (with_reducible exact ih0 _ _ _)
      | (with_reducible exact ih1 _ _ _ _)
      | (with_reducible exact ih2 _ _ _ _)
      | (with_reducible exact LeO.refl _)
      | (with_reducible exact LeO.none _)
      | (with_reducible refine LeO.ite ?_ ?_)
      | (with_reducible refine LeO.bind ?_ (fun _ => ?_))
      | exact ih0 _ _ _
      | exact ih1 _ _ _ _
      | exact ih2 _ _ _ _
      | exact LeO.none _
      | refine LeO.ite ?_ ?_
      | refine LeO.bind ?_ (fun _ => ?_)
    · intro y0 y1 y2 y3
      unfold windrowref15_Same.j1
      repeat' first
      | (with_reducible exact ih0 _ _ _)
      | (with_reducible exact ih1 _ _ _ _)
      | (with_reducible exact ih2 _ _ _ _)
      | (with_reducible exact LeO.refl _)
      | (with_reducible exact LeO.none _)
      | (with_reducible refine LeO.ite ?_ ?_)
      | (with_reducible refine LeO.bind ?_ (fun _ => ?_))
      | exact ih0 _ _ _
      | exact ih1 _ _ _ _
      | exact ih2 _ _ _ _
      | exact LeO.none _
      | refine LeO.ite ?_ ?_
      | refine LeO.bind ?_ (fun _ => ?_)
    · intro y0 y1 y2 y3
      unfold windrowref15_Same.l1
      repeat' first
      | (with_reducible exact ih0 _ _ _)
      | (with_reducible exact ih1 _ _ _ _)
      | (with_reducible exact ih2 _ _ _ _)
      | (with_reducible exact LeO.refl _)
      | (with_reducible exact LeO.none _)
      | (with_reducible refine LeO.ite ?_ ?_)
      | (with_reducible refine LeO.bind ?_ (fun _ => ?_))
      | exact ih0 _ _ _
      | exact ih1 _ _ _ _
      | exact ih2 _ _ _ _
      | exact LeO.none _
      | refine LeO.ite ?_ ?_
      | refine LeO.bind ?_ (fun _ => ?_)
theorem windrowref15_Same.mono : ∀ a0 a1 k, LeO (windrowref15_Same.f k a0 a1) (windrowref15_Same.f (k + 1) a0 a1) := by
  intro a0 a1 k
  obtain ⟨ih0, ih1, ih2⟩ := windrowref15_Same.mono_l k
  unfold windrowref15_Same.f
  repeat' first
      | (with_reducible exact ih0 _ _ _)
      | (with_reducible exact ih1 _ _ _ _)
      | (with_reducible exact ih2 _ _ _ _)
      | (with_reducible exact LeO.refl _)
      | (with_reducible exact LeO.none _)
      | (with_reducible refine LeO.ite ?_ ?_)
      | (with_reducible refine LeO.bind ?_ (fun _ => ?_))
      | exact ih0 _ _ _
      | exact ih1 _ _ _ _
      | exact ih2 _ _ _ _
      | exact LeO.none _
      | refine LeO.ite ?_ ?_
      | refine LeO.bind ?_ (fun _ => ?_)
set_option maxHeartbeats 8000000 in
set_option maxRecDepth 100000 in
theorem windrowref15_Same.calls (k : Nat) (A0 : Option Addr) (c0 : Nat) (l0 : List (S28)) (A1 : Option Addr) (c1 : Nat) (l1 : List (S28)) (r : Bool) (w : World) (hr0 : Kd.C k28 w A0 l0.length l0) (hc0 : l0.length ≤ c0) (hr1 : Kd.C k28 w A1 l1.length l1) (hc1 : l1.length ≤ c1) (h : windrowref15_Same.f k l0 l1 = some r) :
    Calls Try.prog 20 #[.slice A0 l0.length c0, .slice A1 l1.length c1] w fun e w' => e = .returned (.bool r) ∧ Drawn0 w w' := by
  have hu44 := Try.underlying44
  have HR0 := Aside0.mk hr0
  have HC0 := Aside0.mk hc0
  clear hr0 hc0
  have HR1 := Aside0.mk hr1
  have HC1 := Aside0.mk hc1
  clear hr1 hc1
  have H : (if (l0.length : Int) = (l1.length : Int) then (windrowref15_Same.l0 k l0 l1 0) else (some false)) = some r := h
  clear h
  by_cases c3 : (l0.length : Int) = (l1.length : Int)
  · rw [if_pos c3] at H
    have c3b0 : ((l0.length : Int) == (l1.length : Int)) = true := beq_iff_eq.mpr c3
    have c3b1 : ((l0.length : Int) != (l1.length : Int)) = false := bne_eq_false_iff_eq.mpr c3
    have c3b2 : (l0.length == l1.length) = true := by first | simpa using c3 | (simp at c3 ⊢; omega)
    clear c3
    have H' := Aside0.mk H
    clear H
    go_enter Try.func20, Try.ntmps20
    go_wp2
    repeat (go_quiet (fail); try go_wp2)
    go_loopg [5] k (fun kq v5 w' => ∃ (x5_1 : Int), v5 = .int .i64 x5_1 ∧ Aside0 (windrowref15_Same.l0 kq l0 l1 x5_1 = some r) ∧ Aside0 (kq ≤ k) ∧ Drawn0 w w')
    case atStart => exact ⟨(0), (by first | rfl | (simp; done) | (simp [*]; done)), H', ⟨Nat.le_refl _⟩, by repeat (first | exact Drawn0.refl _ | apply Drawn0.step)⟩
    case round =>
      clear H'
      try clear c1
      try clear c2
      try clear p2
      try clear c3
      try clear c3b0
      try clear c3b1
      try clear c3b2
      obtain ⟨x5_1, rfl, HA, HK1, ⟨m1, rfl⟩⟩ := hrel
      cases gk with
      | zero => exact absurd HA.out (by simp [windrowref15_Same.l0])
      | succ k1 =>
        have H := HA.out
        clear HA
        simp only [windrowref15_Same.l0] at H
        by_cases c4 : x5_1 < (l0.length : Int)
        · rw [if_pos c4] at H
          have c4b0 : decide (x5_1 < (l0.length : Int)) = true := decide_eq_true c4
          clear c4
          have HC5 := Aside0.mk H
          clear H
          go_upto_region 6 with (fail)
          repeat (go_quiet (fail); go_upto_region 6 with (fail))
          go_cut [56] (fun v56 wc => ∃ (kq : Nat) (x56_4 : Bool), v56 = .bool x56_4 ∧ Aside0 (windrowref15_Same.j1 kq l0 l1 x5_1 x56_4 = some r) ∧ Aside0 (kq ≤ k1) ∧ Drawn0 w wc)
          case first =>
            have H := HC5.out
            clear HC5
            by_cases c6 : 0 ≤ x5_1
            · rw [if_pos c6] at H
              have c6b0 : decide (0 ≤ x5_1) = true := decide_eq_true c6
              clear c6
              (first | rw [c6b0] | (simp only [i64_w, i32_w]; rw [c6b0]) | skip)
              by_cases c7 : x5_1 < (l1.length : Int)
              · rw [if_pos c7] at H
                have c7b0 : decide (x5_1 < (l1.length : Int)) = true := decide_eq_true c7
                clear c7
                by_cases c8 : (((rd_T28 l0 x5_1).f0) != ((rd_T28 l1 x5_1).f0)) = true
                · rw [if_pos c8] at H
                  have c8b0 : (((rd_T28 l0 x5_1).f0) != ((rd_T28 l1 x5_1).f0)) = true := c8
                  (try (have c8b1 : decide (((rd_T28 l0 x5_1).f0) = ((rd_T28 l1 x5_1).f0)) = false := by simpa using c8))
                  (try (have c8b2 : (((rd_T28 l0 x5_1).f0) == ((rd_T28 l1 x5_1).f0)) = false := by simpa using c8))
                  (try (have c8b3 : ¬ (((rd_T28 l0 x5_1).f0) = ((rd_T28 l1 x5_1).f0)) := by simpa using c8))
                  clear c8
                  have H' := Aside0.mk H
                  clear H
                  have p105 : 0 ≤ (x5_1 : Int) := of_decide_eq_true (by first | (with_reducible assumption) | assumption)
                  have q105 : x5_1 < (l0.length : Int) := of_decide_eq_true (by first | (with_reducible assumption) | assumption)
                  obtain ⟨ad105, A105_2, c105_2, e105, hx105_0, hx105_1, hx105_2, hl105_2, hi105_2⟩ := at_T28 HR0.out x5_1 p105 q105
                  cases e105
                  have HR105_2 := Aside0.mk hi105_2
                  have HC105_2 := Aside0.mk hl105_2
                  clear hi105_2 hl105_2
                  replace p105 := eq_true p105
                  replace q105 := eq_true q105
                  have p106 : 0 ≤ (x5_1 : Int) := of_decide_eq_true (by first | (with_reducible assumption) | assumption)
                  have q106 : x5_1 < (l1.length : Int) := of_decide_eq_true (by first | (with_reducible assumption) | assumption)
                  obtain ⟨ad106, A106_2, c106_2, e106, hx106_0, hx106_1, hx106_2, hl106_2, hi106_2⟩ := at_T28 HR1.out x5_1 p106 q106
                  cases e106
                  have HR106_2 := Aside0.mk hi106_2
                  have HC106_2 := Aside0.mk hl106_2
                  clear hi106_2 hl106_2
                  replace p106 := eq_true p106
                  replace q106 := eq_true q106
                  go_wp2
                  repeat (go_quiet (fail); try go_wp2)
                  go_meet
                  case rel => exact ⟨_, (true), (by first | rfl | (simp; done) | (simp [*]; done)), H', ⟨by have := HK1.out; first | omega | exact Nat.le_refl _⟩, by repeat (first | exact Drawn0.refl _ | apply Drawn0.step)⟩
                · rw [if_neg c8] at H
                  have c8b0 : (((rd_T28 l0 x5_1).f0) != ((rd_T28 l1 x5_1).f0)) = false := by simpa using c8
                  (try (have c8b1 : decide (((rd_T28 l0 x5_1).f0) = ((rd_T28 l1 x5_1).f0)) = true := by simpa using c8))
                  (try (have c8b2 : (((rd_T28 l0 x5_1).f0) == ((rd_T28 l1 x5_1).f0)) = true := by simpa using c8))
                  clear c8
                  by_cases c9 : ((rd_T28 l0 x5_1).f1) = ((rd_T28 l1 x5_1).f1)
                  · rw [if_pos c9] at H
                    have c9b0 : (((rd_T28 l0 x5_1).f1) == ((rd_T28 l1 x5_1).f1)) = true := beq_iff_eq.mpr c9
                    have c9b1 : (((rd_T28 l0 x5_1).f1) != ((rd_T28 l1 x5_1).f1)) = false := bne_eq_false_iff_eq.mpr c9
                    clear c9
                    have H' := Aside0.mk H
                    clear H
                    have p105 : 0 ≤ (x5_1 : Int) := of_decide_eq_true (by first | (with_reducible assumption) | assumption)
                    have q105 : x5_1 < (l0.length : Int) := of_decide_eq_true (by first | (with_reducible assumption) | assumption)
                    obtain ⟨ad105, A105_2, c105_2, e105, hx105_0, hx105_1, hx105_2, hl105_2, hi105_2⟩ := at_T28 HR0.out x5_1 p105 q105
                    cases e105
                    have HR105_2 := Aside0.mk hi105_2
                    have HC105_2 := Aside0.mk hl105_2
                    clear hi105_2 hl105_2
                    replace p105 := eq_true p105
                    replace q105 := eq_true q105
                    have p106 : 0 ≤ (x5_1 : Int) := of_decide_eq_true (by first | (with_reducible assumption) | assumption)
                    have q106 : x5_1 < (l1.length : Int) := of_decide_eq_true (by first | (with_reducible assumption) | assumption)
                    obtain ⟨ad106, A106_2, c106_2, e106, hx106_0, hx106_1, hx106_2, hl106_2, hi106_2⟩ := at_T28 HR1.out x5_1 p106 q106
                    cases e106
                    have HR106_2 := Aside0.mk hi106_2
                    have HC106_2 := Aside0.mk hl106_2
                    clear hi106_2 hl106_2
                    replace p106 := eq_true p106
                    replace q106 := eq_true q106
                    have p107 : 0 ≤ (x5_1 : Int) := of_decide_eq_true (by first | (with_reducible assumption) | assumption)
                    have q107 : x5_1 < (l0.length : Int) := of_decide_eq_true (by first | (with_reducible assumption) | assumption)
                    obtain ⟨ad107, A107_2, c107_2, e107, hx107_0, hx107_1, hx107_2, hl107_2, hi107_2⟩ := at_T28 HR0.out x5_1 p107 q107
                    obtain rfl : ad105 = ad107 := (by injection e107)
                    have HR107_2 := Aside0.mk hi107_2
                    have HC107_2 := Aside0.mk hl107_2
                    clear hi107_2 hl107_2
                    replace p107 := eq_true p107
                    replace q107 := eq_true q107
                    have ea_ := Option.some.inj (hx105_2.symm.trans hx107_2)
                    injection ea_ with ea_ en_ ec_
                    subst ea_
                    subst ec_
                    clear en_
                    have p108 : 0 ≤ (x5_1 : Int) := of_decide_eq_true (by first | (with_reducible assumption) | assumption)
                    have q108 : x5_1 < (l1.length : Int) := of_decide_eq_true (by first | (with_reducible assumption) | assumption)
                    obtain ⟨ad108, A108_2, c108_2, e108, hx108_0, hx108_1, hx108_2, hl108_2, hi108_2⟩ := at_T28 HR1.out x5_1 p108 q108
                    obtain rfl : ad106 = ad108 := (by injection e108)
                    have HR108_2 := Aside0.mk hi108_2
                    have HC108_2 := Aside0.mk hl108_2
                    clear hi108_2 hl108_2
                    replace p108 := eq_true p108
                    replace q108 := eq_true q108
                    have ea_ := Option.some.inj (hx106_2.symm.trans hx108_2)
                    injection ea_ with ea_ en_ ec_
                    subst ea_
                    subst ec_
                    clear en_
                    have p109 : 0 ≤ (x5_1 : Int) := of_decide_eq_true (by first | (with_reducible assumption) | assumption)
                    have q109 : x5_1 < (l0.length : Int) := of_decide_eq_true (by first | (with_reducible assumption) | assumption)
                    obtain ⟨ad109, A109_2, c109_2, e109, hx109_0, hx109_1, hx109_2, hl109_2, hi109_2⟩ := at_T28 HR0.out x5_1 p109 q109
                    obtain rfl : ad105 = ad109 := (by injection e109)
                    have HR109_2 := Aside0.mk hi109_2
                    have HC109_2 := Aside0.mk hl109_2
                    clear hi109_2 hl109_2
                    replace p109 := eq_true p109
                    replace q109 := eq_true q109
                    have ea_ := Option.some.inj (hx105_2.symm.trans hx109_2)
                    injection ea_ with ea_ en_ ec_
                    subst ea_
                    subst ec_
                    clear en_
                    have p110 : 0 ≤ (x5_1 : Int) := of_decide_eq_true (by first | (with_reducible assumption) | assumption)
                    have q110 : x5_1 < (l1.length : Int) := of_decide_eq_true (by first | (with_reducible assumption) | assumption)
                    obtain ⟨ad110, A110_2, c110_2, e110, hx110_0, hx110_1, hx110_2, hl110_2, hi110_2⟩ := at_T28 HR1.out x5_1 p110 q110
                    obtain rfl : ad106 = ad110 := (by injection e110)
                    have HR110_2 := Aside0.mk hi110_2
                    have HC110_2 := Aside0.mk hl110_2
                    clear hi110_2 hl110_2
                    replace p110 := eq_true p110
                    replace q110 := eq_true q110
                    have ea_ := Option.some.inj (hx106_2.symm.trans hx110_2)
                    injection ea_ with ea_ en_ ec_
                    subst ea_
                    subst ec_
                    clear en_
                    go_wp2
                    repeat (go_quiet (fail); try go_wp2)
                    go_meet
                    case rel => exact ⟨_, (((((rd_T28 l0 x5_1).f2).length : Int) != (((rd_T28 l1 x5_1).f2).length : Int))), (by first | rfl | (simp; done) | (simp [*]; done)), H', ⟨by have := HK1.out; first | omega | exact Nat.le_refl _⟩, by repeat (first | exact Drawn0.refl _ | apply Drawn0.step)⟩
                  · rw [if_neg c9] at H
                    have c9b0 : (((rd_T28 l0 x5_1).f1) == ((rd_T28 l1 x5_1).f1)) = false := beq_eq_false_iff_ne.mpr c9
                    have c9b1 : (((rd_T28 l0 x5_1).f1) != ((rd_T28 l1 x5_1).f1)) = true := bne_iff_ne.mpr c9
                    have H' := Aside0.mk H
                    clear H
                    have p105 : 0 ≤ (x5_1 : Int) := of_decide_eq_true (by first | (with_reducible assumption) | assumption)
                    have q105 : x5_1 < (l0.length : Int) := of_decide_eq_true (by first | (with_reducible assumption) | assumption)
                    obtain ⟨ad105, A105_2, c105_2, e105, hx105_0, hx105_1, hx105_2, hl105_2, hi105_2⟩ := at_T28 HR0.out x5_1 p105 q105
                    cases e105
                    have HR105_2 := Aside0.mk hi105_2
                    have HC105_2 := Aside0.mk hl105_2
                    clear hi105_2 hl105_2
                    replace p105 := eq_true p105
                    replace q105 := eq_true q105
                    have p106 : 0 ≤ (x5_1 : Int) := of_decide_eq_true (by first | (with_reducible assumption) | assumption)
                    have q106 : x5_1 < (l1.length : Int) := of_decide_eq_true (by first | (with_reducible assumption) | assumption)
                    obtain ⟨ad106, A106_2, c106_2, e106, hx106_0, hx106_1, hx106_2, hl106_2, hi106_2⟩ := at_T28 HR1.out x5_1 p106 q106
                    cases e106
                    have HR106_2 := Aside0.mk hi106_2
                    have HC106_2 := Aside0.mk hl106_2
                    clear hi106_2 hl106_2
                    replace p106 := eq_true p106
                    replace q106 := eq_true q106
                    have p107 : 0 ≤ (x5_1 : Int) := of_decide_eq_true (by first | (with_reducible assumption) | assumption)
                    have q107 : x5_1 < (l0.length : Int) := of_decide_eq_true (by first | (with_reducible assumption) | assumption)
                    obtain ⟨ad107, A107_2, c107_2, e107, hx107_0, hx107_1, hx107_2, hl107_2, hi107_2⟩ := at_T28 HR0.out x5_1 p107 q107
                    obtain rfl : ad105 = ad107 := (by injection e107)
                    have HR107_2 := Aside0.mk hi107_2
                    have HC107_2 := Aside0.mk hl107_2
                    clear hi107_2 hl107_2
                    replace p107 := eq_true p107
                    replace q107 := eq_true q107
                    have ea_ := Option.some.inj (hx105_2.symm.trans hx107_2)
                    injection ea_ with ea_ en_ ec_
                    subst ea_
                    subst ec_
                    clear en_
                    have p108 : 0 ≤ (x5_1 : Int) := of_decide_eq_true (by first | (with_reducible assumption) | assumption)
                    have q108 : x5_1 < (l1.length : Int) := of_decide_eq_true (by first | (with_reducible assumption) | assumption)
                    obtain ⟨ad108, A108_2, c108_2, e108, hx108_0, hx108_1, hx108_2, hl108_2, hi108_2⟩ := at_T28 HR1.out x5_1 p108 q108
                    obtain rfl : ad106 = ad108 := (by injection e108)
                    have HR108_2 := Aside0.mk hi108_2
                    have HC108_2 := Aside0.mk hl108_2
                    clear hi108_2 hl108_2
                    replace p108 := eq_true p108
                    replace q108 := eq_true q108
                    have ea_ := Option.some.inj (hx106_2.symm.trans hx108_2)
                    injection ea_ with ea_ en_ ec_
                    subst ea_
                    subst ec_
                    clear en_
                    go_wp2
                    repeat (go_quiet (fail); try go_wp2)
                    go_meet
                    case rel => exact ⟨_, (true), (by first | rfl | (simp; done) | (simp [*]; done)), H', ⟨by have := HK1.out; first | omega | exact Nat.le_refl _⟩, by repeat (first | exact Drawn0.refl _ | apply Drawn0.step)⟩
              · rw [if_neg c7] at H
                exact absurd H (by simp)
            · rw [if_neg c6] at H
              exact absurd H (by simp)
          case rest =>
            clear HC5
            try clear c1
            try clear p1
            try clear q1
            try clear hx1
            try clear c2
            try clear p2
            try clear c3
            try clear c3b0
            try clear c3b1
            try clear c3b2
            try clear c4
            try clear c4b0
            try clear c6
            try clear c6b0
            try clear c7
            try clear c7b0
            try clear c8
            try clear c8b0
            try clear c8b1
            try clear c8b2
            try clear c9
            try clear c9b0
            try clear c9b1
            try clear hx105_0
            try clear hx105_1
            try clear hx105_2
            try clear hx106_0
            try clear hx106_1
            try clear hx106_2
            try clear hx107_0
            try clear hx107_1
            try clear hx107_2
            try clear hx108_0
            try clear hx108_1
            try clear hx108_2
            try clear hx109_0
            try clear hx109_1
            try clear hx109_2
            try clear hx110_0
            try clear hx110_1
            try clear hx110_2
            try clear p105
            try clear p106
            try clear p107
            try clear p108
            try clear p109
            try clear p110
            try clear p2
            try clear q105
            try clear q106
            try clear q107
            try clear q108
            try clear q109
            try clear q110
            obtain ⟨kq, x56_4, rfl, HA, HJ4, ⟨mc4, rfl⟩⟩ := hcut
            cases kq with
            | zero => exact absurd HA.out (by simp [windrowref15_Same.j1])
            | succ kj4 =>
              have H := HA.out
              clear HA
              simp only [windrowref15_Same.j1] at H
              by_cases c10 : x56_4 = true
              · subst c10
                have H1 : (some false) = some r := by rw [if_pos rfl] at H; exact H
                clear H
                have H := H1
                clear H1
                obtain rfl := Option.some.inj H
                go_wp2
                repeat (go_quiet (fail); try go_wp2)
                go_ret
                exact ⟨by first | rfl | (simp; done) | (simp [*]; done), by repeat (first | exact Drawn0.refl _ | apply Drawn0.step)⟩
              · replace c10 := Bool.eq_false_iff.mpr c10
                subst c10
                have H1 : (windrowref15_Same.l1 kj4 l0 l1 x5_1 0) = some r := by rw [if_neg (show ¬ (false = true) by decide)] at H; exact H
                clear H
                have H := H1
                clear H1
                have H' := Aside0.mk H
                clear H
                go_wp2
                repeat (go_quiet (fail); try go_wp2)
                go_loopg [6] kj4 (fun kq v6 w' => ∃ (x6_3 : Int), v6 = .int .i64 x6_3 ∧ Aside0 (windrowref15_Same.l1 kq l0 l1 x5_1 x6_3 = some r) ∧ Aside0 (kq ≤ kj4) ∧ Drawn0 w w')
                case atStart => exact ⟨(0), (by first | rfl | (simp; done) | (simp [*]; done)), H', ⟨Nat.le_refl _⟩, by repeat (first | exact Drawn0.refl _ | apply Drawn0.step)⟩
                case round =>
                  clear H'
                  try clear c1
                  try clear p1
                  try clear q1
                  try clear hx1
                  try clear c2
                  try clear p2
                  try clear c3
                  try clear c3b0
                  try clear c3b1
                  try clear c3b2
                  try clear c4
                  try clear c4b0
                  try clear c6
                  try clear c6b0
                  try clear c7
                  try clear c7b0
                  try clear c8
                  try clear c8b0
                  try clear c8b1
                  try clear c8b2
                  try clear c9
                  try clear c9b0
                  try clear c9b1
                  try clear c10
                  try clear p10
                  try clear q10
                  try clear hx10
                  try clear hx105_0
                  try clear hx105_1
                  try clear hx105_2
                  try clear hx106_0
                  try clear hx106_1
                  try clear hx106_2
                  try clear hx107_0
                  try clear hx107_1
                  try clear hx107_2
                  try clear hx108_0
                  try clear hx108_1
                  try clear hx108_2
                  try clear hx109_0
                  try clear hx109_1
                  try clear hx109_2
                  try clear hx110_0
                  try clear hx110_1
                  try clear hx110_2
                  try clear p1
                  try clear p105
                  try clear p106
                  try clear p107
                  try clear p108
                  try clear p109
                  try clear p110
                  try clear p2
                  try clear q1
                  try clear q105
                  try clear q106
                  try clear q107
                  try clear q108
                  try clear q109
                  try clear q110
                  obtain ⟨x6_3, rfl, HA, HK3, ⟨m3, rfl⟩⟩ := hrel
                  cases gk with
                  | zero => exact absurd HA.out (by simp [windrowref15_Same.l1])
                  | succ k3 =>
                    have H := HA.out
                    clear HA
                    simp only [windrowref15_Same.l1] at H
                    by_cases c11 : 0 ≤ x5_1
                    · rw [if_pos c11] at H
                      have c11b0 : decide (0 ≤ x5_1) = true := decide_eq_true c11
                      clear c11
                      by_cases c12 : x5_1 < (l0.length : Int)
                      · rw [if_pos c12] at H
                        have c12b0 : decide (x5_1 < (l0.length : Int)) = true := decide_eq_true c12
                        clear c12
                        by_cases c13 : x6_3 < (((rd_T28 l0 x5_1).f2).length : Int)
                        · rw [if_pos c13] at H
                          have c13b0 : decide (x6_3 < (((rd_T28 l0 x5_1).f2).length : Int)) = true := decide_eq_true c13
                          clear c13
                          by_cases c14 : 0 ≤ x6_3
                          · rw [if_pos c14] at H
                            have c14b0 : decide (0 ≤ x6_3) = true := decide_eq_true c14
                            clear c14
                            by_cases c15 : x5_1 < (l1.length : Int)
                            · rw [if_pos c15] at H
                              have c15b0 : decide (x5_1 < (l1.length : Int)) = true := decide_eq_true c15
                              clear c15
                              by_cases c16 : x6_3 < (((rd_T28 l1 x5_1).f2).length : Int)
                              · rw [if_pos c16] at H
                                have c16b0 : decide (x6_3 < (((rd_T28 l1 x5_1).f2).length : Int)) = true := decide_eq_true c16
                                clear c16
                                by_cases c17 : (!(((rd_T44 ((rd_T28 l0 x5_1).f2) x6_3).f0) == ((rd_T44 ((rd_T28 l1 x5_1).f2) x6_3).f0)) || (!(((rd_T44 ((rd_T28 l0 x5_1).f2) x6_3).f1) == ((rd_T44 ((rd_T28 l1 x5_1).f2) x6_3).f1)))) = true
                                · rw [if_pos c17] at H
                                  have c17b0 : (!(((rd_T44 ((rd_T28 l0 x5_1).f2) x6_3).f0) == ((rd_T44 ((rd_T28 l1 x5_1).f2) x6_3).f0)) || (!(((rd_T44 ((rd_T28 l0 x5_1).f2) x6_3).f1) == ((rd_T44 ((rd_T28 l1 x5_1).f2) x6_3).f1)))) = true := c17
                                  clear c17
                                  obtain rfl := Option.some.inj H
                                  have p111 : 0 ≤ (x5_1 : Int) := of_decide_eq_true (by first | (with_reducible assumption) | assumption)
                                  have q111 : x5_1 < (l0.length : Int) := of_decide_eq_true (by first | (with_reducible assumption) | assumption)
                                  obtain ⟨ad111, A111_2, c111_2, e111, hx111_0, hx111_1, hx111_2, hl111_2, hi111_2⟩ := at_T28 HR0.out x5_1 p111 q111
                                  cases e111
                                  have HR111_2 := Aside0.mk hi111_2
                                  have HC111_2 := Aside0.mk hl111_2
                                  clear hi111_2 hl111_2
                                  replace p111 := eq_true p111
                                  replace q111 := eq_true q111
                                  have p112 : 0 ≤ (x5_1 : Int) := of_decide_eq_true (by first | (with_reducible assumption) | assumption)
                                  have q112 : x5_1 < (l0.length : Int) := of_decide_eq_true (by first | (with_reducible assumption) | assumption)
                                  obtain ⟨ad112, A112_2, c112_2, e112, hx112_0, hx112_1, hx112_2, hl112_2, hi112_2⟩ := at_T28 HR0.out x5_1 p112 q112
                                  obtain rfl : ad111 = ad112 := (by injection e112)
                                  have HR112_2 := Aside0.mk hi112_2
                                  have HC112_2 := Aside0.mk hl112_2
                                  clear hi112_2 hl112_2
                                  replace p112 := eq_true p112
                                  replace q112 := eq_true q112
                                  have ea_ := Option.some.inj (hx111_2.symm.trans hx112_2)
                                  injection ea_ with ea_ en_ ec_
                                  subst ea_
                                  subst ec_
                                  clear en_
                                  have p113 : 0 ≤ (x6_3 : Int) := of_decide_eq_true (by first | (with_reducible assumption) | assumption)
                                  have q113 : x6_3 < (((rd_T28 l0 x5_1).f2).length : Int) := of_decide_eq_true (by first | (with_reducible assumption) | assumption)
                                  obtain ⟨ad113, e113, hx113_0, hx113_1⟩ := at_T44 HR112_2.out x6_3 p113 q113
                                  cases e113
                                  replace p113 := eq_true p113
                                  replace q113 := eq_true q113
                                  have p114 : 0 ≤ (x5_1 : Int) := of_decide_eq_true (by first | (with_reducible assumption) | assumption)
                                  have q114 : x5_1 < (l1.length : Int) := of_decide_eq_true (by first | (with_reducible assumption) | assumption)
                                  obtain ⟨ad114, A114_2, c114_2, e114, hx114_0, hx114_1, hx114_2, hl114_2, hi114_2⟩ := at_T28 HR1.out x5_1 p114 q114
                                  cases e114
                                  have HR114_2 := Aside0.mk hi114_2
                                  have HC114_2 := Aside0.mk hl114_2
                                  clear hi114_2 hl114_2
                                  replace p114 := eq_true p114
                                  replace q114 := eq_true q114
                                  have p115 : 0 ≤ (x6_3 : Int) := of_decide_eq_true (by first | (with_reducible assumption) | assumption)
                                  have q115 : x6_3 < (((rd_T28 l1 x5_1).f2).length : Int) := of_decide_eq_true (by first | (with_reducible assumption) | assumption)
                                  obtain ⟨ad115, e115, hx115_0, hx115_1⟩ := at_T44 HR114_2.out x6_3 p115 q115
                                  cases e115
                                  replace p115 := eq_true p115
                                  replace q115 := eq_true q115
                                  go_wp2
                                  repeat (go_quiet (fail); try go_wp2)
                                  go_ret
                                  exact ⟨by first | rfl | (simp; done) | (simp [*]; done), by repeat (first | exact Drawn0.refl _ | apply Drawn0.step)⟩
                                · rw [if_neg c17] at H
                                  have c17b0 : (!(((rd_T44 ((rd_T28 l0 x5_1).f2) x6_3).f0) == ((rd_T44 ((rd_T28 l1 x5_1).f2) x6_3).f0)) || (!(((rd_T44 ((rd_T28 l0 x5_1).f2) x6_3).f1) == ((rd_T44 ((rd_T28 l1 x5_1).f2) x6_3).f1)))) = false := by simpa using c17
                                  clear c17
                                  have H' := Aside0.mk H
                                  clear H
                                  have p111 : 0 ≤ (x5_1 : Int) := of_decide_eq_true (by first | (with_reducible assumption) | assumption)
                                  have q111 : x5_1 < (l0.length : Int) := of_decide_eq_true (by first | (with_reducible assumption) | assumption)
                                  obtain ⟨ad111, A111_2, c111_2, e111, hx111_0, hx111_1, hx111_2, hl111_2, hi111_2⟩ := at_T28 HR0.out x5_1 p111 q111
                                  cases e111
                                  have HR111_2 := Aside0.mk hi111_2
                                  have HC111_2 := Aside0.mk hl111_2
                                  clear hi111_2 hl111_2
                                  replace p111 := eq_true p111
                                  replace q111 := eq_true q111
                                  have p112 : 0 ≤ (x5_1 : Int) := of_decide_eq_true (by first | (with_reducible assumption) | assumption)
                                  have q112 : x5_1 < (l0.length : Int) := of_decide_eq_true (by first | (with_reducible assumption) | assumption)
                                  obtain ⟨ad112, A112_2, c112_2, e112, hx112_0, hx112_1, hx112_2, hl112_2, hi112_2⟩ := at_T28 HR0.out x5_1 p112 q112
                                  obtain rfl : ad111 = ad112 := (by injection e112)
                                  have HR112_2 := Aside0.mk hi112_2
                                  have HC112_2 := Aside0.mk hl112_2
                                  clear hi112_2 hl112_2
                                  replace p112 := eq_true p112
                                  replace q112 := eq_true q112
                                  have ea_ := Option.some.inj (hx111_2.symm.trans hx112_2)
                                  injection ea_ with ea_ en_ ec_
                                  subst ea_
                                  subst ec_
                                  clear en_
                                  have p113 : 0 ≤ (x6_3 : Int) := of_decide_eq_true (by first | (with_reducible assumption) | assumption)
                                  have q113 : x6_3 < (((rd_T28 l0 x5_1).f2).length : Int) := of_decide_eq_true (by first | (with_reducible assumption) | assumption)
                                  obtain ⟨ad113, e113, hx113_0, hx113_1⟩ := at_T44 HR112_2.out x6_3 p113 q113
                                  cases e113
                                  replace p113 := eq_true p113
                                  replace q113 := eq_true q113
                                  have p114 : 0 ≤ (x5_1 : Int) := of_decide_eq_true (by first | (with_reducible assumption) | assumption)
                                  have q114 : x5_1 < (l1.length : Int) := of_decide_eq_true (by first | (with_reducible assumption) | assumption)
                                  obtain ⟨ad114, A114_2, c114_2, e114, hx114_0, hx114_1, hx114_2, hl114_2, hi114_2⟩ := at_T28 HR1.out x5_1 p114 q114
                                  cases e114
                                  have HR114_2 := Aside0.mk hi114_2
                                  have HC114_2 := Aside0.mk hl114_2
                                  clear hi114_2 hl114_2
                                  replace p114 := eq_true p114
                                  replace q114 := eq_true q114
                                  have p115 : 0 ≤ (x6_3 : Int) := of_decide_eq_true (by first | (with_reducible assumption) | assumption)
                                  have q115 : x6_3 < (((rd_T28 l1 x5_1).f2).length : Int) := of_decide_eq_true (by first | (with_reducible assumption) | assumption)
                                  obtain ⟨ad115, e115, hx115_0, hx115_1⟩ := at_T44 HR114_2.out x6_3 p115 q115
                                  cases e115
                                  replace p115 := eq_true p115
                                  replace q115 := eq_true q115
                                  go_wp2
                                  repeat (go_quiet (fail); try go_wp2)
                                  go_roundg k3
                                  case measure => have := HK1.out; have := HJ4.out; have := HK3.out; omega
                                  case rel => exact ⟨(wrap64 (x6_3 + 1)), (by first | rfl | (simp; done) | (simp [*]; done)), H', ⟨by have := HK1.out; have := HJ4.out; have := HK3.out; omega⟩, by repeat (first | exact Drawn0.refl _ | apply Drawn0.step)⟩
                              · rw [if_neg c16] at H
                                exact absurd H (by simp)
                            · rw [if_neg c15] at H
                              exact absurd H (by simp)
                          · rw [if_neg c14] at H
                            exact absurd H (by simp)
                        · rw [if_neg c13] at H
                          have c13b0 : decide (x6_3 < (((rd_T28 l0 x5_1).f2).length : Int)) = false := decide_eq_false c13
                          clear c13
                          have H' := Aside0.mk H
                          clear H
                          have p111 : 0 ≤ (x5_1 : Int) := of_decide_eq_true (by first | (with_reducible assumption) | assumption)
                          have q111 : x5_1 < (l0.length : Int) := of_decide_eq_true (by first | (with_reducible assumption) | assumption)
                          obtain ⟨ad111, A111_2, c111_2, e111, hx111_0, hx111_1, hx111_2, hl111_2, hi111_2⟩ := at_T28 HR0.out x5_1 p111 q111
                          cases e111
                          have HR111_2 := Aside0.mk hi111_2
                          have HC111_2 := Aside0.mk hl111_2
                          clear hi111_2 hl111_2
                          replace p111 := eq_true p111
                          replace q111 := eq_true q111
                          go_wp2
                          repeat (go_quiet (fail); try go_wp2)
                          go_roundg k3
                          case measure => have := HK1.out; have := HJ4.out; have := HK3.out; omega
                          case rel => exact ⟨(wrap64 (x5_1 + 1)), (by first | rfl | (simp; done) | (simp [*]; done)), H', ⟨by have := HK1.out; have := HJ4.out; have := HK3.out; omega⟩, by repeat (first | exact Drawn0.refl _ | apply Drawn0.step)⟩
                      · rw [if_neg c12] at H
                        exact absurd H (by simp)
                    · rw [if_neg c11] at H
                      exact absurd H (by simp)
        · rw [if_neg c4] at H
          have c4b0 : decide (x5_1 < (l0.length : Int)) = false := decide_eq_false c4
          clear c4
          obtain rfl := Option.some.inj H
          go_wp2
          repeat (go_quiet (fail); try go_wp2)
          go_ret
          exact ⟨by first | rfl | (simp; done) | (simp [*]; done), by repeat (first | exact Drawn0.refl _ | apply Drawn0.step)⟩
  · rw [if_neg c3] at H
    have c3b0 : ((l0.length : Int) == (l1.length : Int)) = false := beq_eq_false_iff_ne.mpr c3
    have c3b1 : ((l0.length : Int) != (l1.length : Int)) = true := bne_iff_ne.mpr c3
    have c3b2 : (l0.length == l1.length) = false := by first | simpa using c3 | (simp at c3 ⊢; omega)
    obtain rfl := Option.some.inj H
    go_enter Try.func20, Try.ntmps20
    go_wp2
    repeat (go_quiet (fail); try go_wp2)
    go_ret
    exact ⟨by first | rfl | (simp; done) | (simp [*]; done), by repeat (first | exact Drawn0.refl _ | apply Drawn0.step)⟩

-- NOT PRINTED: function 6 (windrowlaw15_RollJoin)

end Go.Proofs.Ytkkmmbbnaafhlaa.PRollJoin
