/- Layer 25: walks of crash, step, Plain. -/
import Derived.Test.YtagpldkgkchfcaaDoorTxtE
namespace Go.Proofs.YtagpldkgkchfcaaDoor.Txt
section
set_option linter.unusedSimpArgs false
set_option linter.unusedVariables false
open Go.RowKit Go.Proofs.YtagpldkgkchfcaaDoorW.PrintWords Go.Proofs.YtagpldkgkchfcaaDoorW.PrintLast Go.Proofs.YtagpldkgkchfcaaDoorW.PrintMore Arr PTextPrints

theorem rk_row {w w1 : World} {B g t : Nat} {v : Value} {l : List Int} {cs : List Value} (h : RK w B v l) (hb : Blk w g t cs) (ht : 3 ≠ t) (hg : w.grownBy w1 (some g)) : RK w1 B v l :=
  Kd.R_mono (Kd.R_grown (Kd.R_types h hb (fun q hq => by
    rcases List.mem_cons.1 hq with rfl | hq
    · exact ht
    · cases hq)) hg (fun k hk => by simpa using hk.2)) (fun _ _ => trivial)
theorem soft_none {l : List Bs} (h : softOf (l.getD 1 []) = none) : crashOf l = none := by
  match l, h with
  | [], _ => rfl
  | [_], _ => rfl
  | [_, _], _ => rfl
  | _ :: a :: b :: r, h =>
    have h1 : softOf a = none := h
    simp only [crashOf, h1]
theorem num_none {l : List Bs} (h : numOf (l.getD 2 []) = none) : crashOf l = none := by
  match l, h with
  | [], _ => rfl
  | [_], _ => rfl
  | [_, _], _ => rfl
  | _ :: a :: b :: r, h =>
    have h1 : numOf b = none := h
    simp only [crashOf, h1]
    split <;> simp_all
theorem short_none {l : List Bs} (h : l.length < 3) : crashOf l = none := by
  match l, h with
  | [], _ => rfl
  | [_], _ => rfl
  | [_, _], _ => rfl
  | _ :: _ :: _ :: _, h => simp at h; omega
theorem crash_of {l : List Bs} (h : 3 ≤ l.length) {u n : Nat} (h1 : softOf (l.getD 1 []) = some u) (h2 : numOf (l.getD 2 []) = some n) : crashOf l = (keepOf (l.drop 3)).map fun k => stepCrash k u n := by
  match l, h, h1, h2 with
  | _ :: a :: b :: r, _, h1, h2 =>
    have h1' : softOf a = some u := h1
    have h2' : numOf b = some n := h2
    simp only [crashOf, h1', h2']
    show _ = (keepOf r).map _
    cases keepOf r <;> rfl
set_option maxRecDepth 10000 in
set_option maxHeartbeats 4000000 in
theorem crash_short (w : World) (h : Nat) (l : List Bs) (hl : l.length < 3) : Calls Tryd.prog 32 #[.slice (some ⟨h, 0, none⟩) l.length l.length] w (StepEnd w (crashOf l)) := by
  have HK := Aside0.mk (Keeps.refl w)
  have HF := Aside0.mk (short_none hl)
  go_enter Tryd.func32, Tryd.ntmps32
  go_wp2_with (first | ((with_reducible refine gate_dst (N := 2) rfl ?_); refine alloc41 rfl rfl ?_; intro w1 rg h1 h2 h3; have HK1 := Aside0.mk (HK.out.new h3 h2); have HRG := Aside0.mk h1; clear h1 h2 h3) | ((with_reducible refine gate_dst (N := 16) rfl ?_); refine build41z rfl rfl ?_) | (refine store41 rfl rfl (.tmp 2) (.tmp 16) rfl rg rfl step0 none 0 0 rfl rfl (m := step0) rfl HK1.out.head ?_; intro w5 h21 h22 h23; have HK5 := Aside0.mk (HK1.out.put h22 HRG.out (by simp) h21); clear h21 h22 h23))
  refine bodyPost_ret (results_ct rfl _ _ rg 41 _ (0, 0) _ rfl HK5.out.head Tryd.underlying41 rfl (by rw [List.size_toArray, stepC_len step0 _ rfl]; exact size41)) rfl ?_
  unfold StepEnd
  rw [HF.out]
  exact ⟨step0, _, rfl, good0, (fun x' h => by cases h), Kd.R_nil _ _ _ _ _, HK5.out.below⟩
theorem pu_ok (w : World) (s : Bs) (hs : s.length ≤ 281474976710656) (u : Nat) (h : Lib.parseUintB 64 s = .ok u) : Calls Tryd.prog 44 #[.string (str s), .int .i64 10, .int .i64 64] w fun e w' => e = .returned (.tuple #[.int .u64 (u : Int), .nilIface]) ∧ Below w.heap.size w w' := by
  refine (Tryd.strconv_ParseUint_10_at64_ok (str s) (by rw [Lib.size_eq, str_data]; omega) u (by rw [str_data]; exact h) w).mono ?_
  rintro e w' ⟨rfl, hw⟩
  refine ⟨rfl, ?_⟩
  rcases hw with rfl | rfl
  · exact Below.refl _ _
  · exact bytes_bel _ _ _
theorem pu_lt {s : Bs} {u : Nat} (h : Lib.parseUintB 64 s = .ok u) : u < 18446744073709551616 := by
  unfold Lib.parseUintB at h
  split at h
  · cases h
  · have := parseUintM_le _ s 0 u (by omega) h
    omega
theorem pu_bad (w : World) (hE : Env w) (s : Bs) (hs : s.length ≤ 281474976710656) (h : ∀ u, Lib.parseUintB 64 s ≠ .ok u) : Calls Tryd.prog 44 #[.string (str s), .int .i64 10, .int .i64 64] w fun e w' => ∃ (u : Int) (N : Nat), e = .returned (.tuple #[.int .u64 u, .iface 115 (.pointer (some ⟨N, 0, none⟩))]) ∧ Below w.heap.size w w' := by
  obtain ⟨t1, p1, hv1⟩ := hE.syn
  obtain ⟨t2, p2, hv2⟩ := hE.rng
  have hsz : (str s).size ≤ 281474976710656 := by rw [Lib.size_eq, str_data]; exact hs
  have hd := str_data s
  rcases h1 : Lib.parseUintB 64 s with u | _ | _
  · exact absurd h1 (h u)
  · refine (Tryd.strconv_ParseUint_10_at64_syntax_var (str s) hsz (by rw [hd]; exact h1) t1 p1 w hv1).mono ?_
    rintro e w' ⟨N, rfl, _, _, hb⟩
    exact ⟨0, N, rfl, hb⟩
  · refine (Tryd.strconv_ParseUint_10_at64_range_var (str s) hsz (by rw [hd]; exact h1) t2 p2 w hv2).mono ?_
    rintro e w' ⟨N, rfl, _, _, hb⟩
    exact ⟨18446744073709551615, N, rfl, hb⟩
theorem soft_bad {s : Bs} (h : ∀ u, Lib.parseUintB 64 s ≠ .ok u) : softOf s = none := by
  unfold softOf
  rcases h1 : Lib.parseUintB 64 s with u | _ | _
  · exact absurd h1 (h u)
  · rfl
  · rfl
end
section
set_option linter.unusedSimpArgs false
set_option linter.unusedVariables false
open Go.RowKit Go.Proofs.YtagpldkgkchfcaaDoorW.PrintWords Go.Proofs.YtagpldkgkchfcaaDoorW.PrintLast Go.Proofs.YtagpldkgkchfcaaDoorW.PrintMore Arr PTextPrints

theorem get_mem {l : List Bs} {i : Nat} (h : i < l.length) : l.getD i [] ∈ l := by
  rw [List.getD_eq_getElem?_getD, List.getElem?_eq_getElem h]; exact List.getElem_mem h
set_option maxRecDepth 10000 in
set_option maxHeartbeats 4000000 in
theorem crash_bad1 (w : World) (hE : Env w) (h : Nat) (l : List Bs) (hP : Pieces w h l) (hl : 3 ≤ l.length) (hno : ∀ u, Lib.parseUintB 64 (l.getD 1 []) ≠ .ok u) : Calls Tryd.prog 32 #[.slice (some ⟨h, 0, none⟩) l.length l.length] w (StepEnd w (crashOf l)) := by
  have HK := Aside0.mk (Keeps.refl w)
  have HE := Aside0.mk hE
  have HP := Aside0.mk hP
  have hfew := hP.few
  have p1 := hP.cell 1 (by omega)
  have p2 := hP.cell 2 (by omega)
  have HS1 := Aside0.mk (show (l.getD 1 []).length ≤ 281474976710656 from hP.len _ (get_mem (by omega)))
  have HS2 := Aside0.mk (show (str (l.getD 2 [])).size ≤ 281474976710656 by rw [Lib.size_eq, str_data]; exact hP.len _ (get_mem (by omega)))
  have HF := Aside0.mk (soft_none (l := l) (soft_bad hno))
  have HNO := Aside0.mk hno
  obtain ⟨a, ha⟩ : ∃ a, a = l.getD 1 [] := ⟨_, rfl⟩
  obtain ⟨b, hb⟩ : ∃ b, b = l.getD 2 [] := ⟨_, rfl⟩
  have HA := Aside0.mk ha
  have HBB := Aside0.mk hb
  rw [← ha] at p1 HS1 HNO
  rw [← hb] at p2 HS2
  clear hno ha hb hE hP
  go_enter Tryd.func32, Tryd.ntmps32
  go_upto_region 5 with (first | ((with_reducible refine gate_dst (N := 2) rfl ?_); refine alloc41 rfl rfl ?_; intro w1 rg h1 h2 h3; have HK1 := Aside0.mk (HK.out.new h3 h2); have HRG := Aside0.mk h1; have q1 := pw_cell_below HK1.out.below p1; clear h1 h2 h3) | (go_at_call 44; refine (pu_bad _ (HE.out.below HK1.out.below) a HS1.out HNO.out).mono ?_; rintro e w2 ⟨u, N, rfl, hbb⟩; have HK2 := Aside0.mk (HK1.out.step hbb); have q2 := pw_cell_below HK2.out.below p2; have q12 := pw_cell_below HK2.out.below p1; clear hbb q1) | (go_at_call 33; refine (number_calls _ (HE.out.below HK2.out.below) (str b) HS2.out).mono ?_; rintro e w3 ⟨v, rfl, hv, hvb, hbb⟩; have HK3 := Aside0.mk (HK2.out.step hbb); have q13 := pw_cell_below HK3.out.below p1; clear hbb q2 q12 hvb hv))
  refine wp_region_held_drew (S := (fun _ => True)) (by kernel_rfl) (by trivial) (fun hHeld => ?_)
  refine wpAnyH_tk (i := 0) (v := ?vz1) 31 rfl rfl (by kernel_rfl) (by kernel_rfl) (by kernel_rfl) (fun _ _ _ h => h) (Or.inl ⟨by rfl, ?yz1⟩) hHeld ?rz1
  case yz1 => (intro w hSw; go_simp; try (first | with_reducible rfl | (rw [if_neg (by omega)]; try with_reducible rfl)))
  (try simp only [Act.put, List.setIfInBounds_toArray, List.set_cons_zero, List.set_cons_succ])
  refine wpAnyH_tk (i := 1) (v := ?vz2) 32 rfl rfl (by kernel_rfl) (by kernel_rfl) (by kernel_rfl) (fun _ _ _ h => h) (Or.inl ⟨by rfl, ?yz2⟩) hHeld ?rz2
  case yz2 => (intro w hSw; go_simp; try (first | with_reducible rfl | (rw [if_neg (by omega)]; try with_reducible rfl)))
  (try simp only [Act.put, List.setIfInBounds_toArray, List.set_cons_zero, List.set_cons_succ])
  refine wpAnyH_tk (i := 2) (v := ?vz3) 33 rfl rfl (by kernel_rfl) (by kernel_rfl) (by kernel_rfl) (fun _ _ _ h => h) (Or.inl ⟨by rfl, ?yz3⟩) hHeld ?rz3
  case yz3 => (intro w hSw; go_simp; try (first | with_reducible rfl | (rw [if_neg (by omega)]; try with_reducible rfl)))
  (try simp only [Act.put, List.setIfInBounds_toArray, List.set_cons_zero, List.set_cons_succ])
  refine wpAnyH_tk (i := 3) (v := undef) 34 rfl rfl (by kernel_rfl) (by kernel_rfl) (by kernel_rfl) (fun _ _ _ h => h) (yields_not (by rfl)) hHeld ?_
  (try simp only [Act.put, List.setIfInBounds_toArray, List.set_cons_zero, List.set_cons_succ])
  refine wpAnyH_tk (i := 4) (v := undef) 35 rfl rfl (by kernel_rfl) (by kernel_rfl) (by kernel_rfl) (fun _ _ _ h => h) (yields_not (by rfl)) hHeld ?_
  (try simp only [Act.put, List.setIfInBounds_toArray, List.set_cons_zero, List.set_cons_succ])
  refine wpAnyH_tk (i := 5) (v := ?vz4) 36 rfl rfl (by kernel_rfl) (by kernel_rfl) (by kernel_rfl) (fun _ _ _ h => h) (Or.inl ⟨by rfl, ?yz4⟩) hHeld ?rz4
  case yz4 => (intro w hSw; go_simp; try (first | with_reducible rfl | (rw [if_neg (by omega)]; try with_reducible rfl)))
  (try simp only [Act.put, List.setIfInBounds_toArray, List.set_cons_zero, List.set_cons_succ])
  refine wpAnyH_tk (i := 6) (v := ?vz5) 37 rfl rfl (by kernel_rfl) (by kernel_rfl) (by kernel_rfl) (fun _ _ _ h => h) (Or.inl ⟨by rfl, ?yz5⟩) hHeld ?rz5
  case yz5 => (intro w hSw; go_simp; try (first | with_reducible rfl | (rw [if_neg (by omega)]; try with_reducible rfl)))
  (try simp only [Act.put, List.setIfInBounds_toArray, List.set_cons_zero, List.set_cons_succ])
  refine wpAnyH_tk (i := 7) (v := undef) 38 rfl rfl (by kernel_rfl) (by kernel_rfl) (by kernel_rfl) (fun _ _ _ h => h) (yields_not (by rfl)) hHeld ?_
  (try simp only [Act.put, List.setIfInBounds_toArray, List.set_cons_zero, List.set_cons_succ])
  refine wpAnyH_tk (i := 8) (v := undef) 39 rfl rfl (by kernel_rfl) (by kernel_rfl) (by kernel_rfl) (fun _ _ _ h => h) (yields_not (by rfl)) hHeld ?_
  (try simp only [Act.put, List.setIfInBounds_toArray, List.set_cons_zero, List.set_cons_succ])
  refine wpAnyH_tk (i := 9) (v := undef) 40 rfl rfl (by kernel_rfl) (by kernel_rfl) (by kernel_rfl) (fun _ _ _ h => h) (yields_not (by rfl)) hHeld ?_
  (try simp only [Act.put, List.setIfInBounds_toArray, List.set_cons_zero, List.set_cons_succ])
  refine wpAnyH_tk (i := 10) (v := undef) 41 rfl rfl (by kernel_rfl) (by kernel_rfl) (by kernel_rfl) (fun _ _ _ h => h) (yields_not (by rfl)) hHeld ?_
  (try simp only [Act.put, List.setIfInBounds_toArray, List.set_cons_zero, List.set_cons_succ])
  refine wpAnyH_tk (i := 11) (v := undef) 42 rfl rfl (by kernel_rfl) (by kernel_rfl) (by kernel_rfl) (fun _ _ _ h => h) (yields_not (by rfl)) hHeld ?_
  (try simp only [Act.put, List.setIfInBounds_toArray, List.set_cons_zero, List.set_cons_succ])
  refine wpAnyH_tk (i := 12) (v := undef) 43 rfl rfl (by kernel_rfl) (by kernel_rfl) (by kernel_rfl) (fun _ _ _ h => h) (yields_not (by rfl)) hHeld ?_
  (try simp only [Act.put, List.setIfInBounds_toArray, List.set_cons_zero, List.set_cons_succ])
  refine wpAnyH_tk (i := 13) (v := ?vz6) 44 rfl rfl (by kernel_rfl) (by kernel_rfl) (by kernel_rfl) (fun _ _ _ h => h) (Or.inl ⟨by rfl, ?yz6⟩) hHeld ?rz6
  case yz6 => (intro w hSw; go_simp; try (first | with_reducible rfl | (rw [if_neg (by omega)]; try with_reducible rfl)))
  (try simp only [Act.put, List.setIfInBounds_toArray, List.set_cons_zero, List.set_cons_succ])
  refine wpAnyH_done (by kernel_rfl) ?_ _
  skip
  have HK4 := Aside0.mk HK3.out.drew
  clear hHeld q13
  go_wp2_with (first | ((with_reducible refine gate_dst (N := 45) rfl ?_); refine build41z rfl rfl ?_) | (refine store41 rfl rfl (.tmp 2) (.tmp 45) rfl rg rfl step0 none 0 0 rfl rfl (m := step0) rfl HK4.out.head ?_; intro w5 h21 h22 h23; have HK5 := Aside0.mk (HK4.out.put h22 HRG.out (by simp) h21); clear h21 h22 h23))
  refine bodyPost_ret (results_ct rfl _ _ rg 41 _ (0, 0) _ rfl HK5.out.head Tryd.underlying41 rfl (by rw [List.size_toArray, stepC_len step0 _ rfl]; exact size41)) rfl ?_
  unfold StepEnd
  rw [HF.out]
  exact ⟨step0, _, rfl, good0, (fun x' h => by cases h), Kd.R_nil _ _ _ _ _, HK5.out.below⟩
set_option maxRecDepth 10000 in
set_option maxHeartbeats 4000000 in
theorem crash_bad2 (w : World) (hE : Env w) (h : Nat) (l : List Bs) (hP : Pieces w h l) (hl : 3 ≤ l.length) (u : Nat) (hpu : Lib.parseUintB 64 (l.getD 1 []) = .ok u) (hnm : numOf (l.getD 2 []) = none) : Calls Tryd.prog 32 #[.slice (some ⟨h, 0, none⟩) l.length l.length] w (StepEnd w (crashOf l)) := by
  have HK := Aside0.mk (Keeps.refl w)
  have HE := Aside0.mk hE
  have HP := Aside0.mk hP
  have hfew := hP.few
  have p1 := hP.cell 1 (by omega)
  have p2 := hP.cell 2 (by omega)
  have HS1 := Aside0.mk (show (l.getD 1 []).length ≤ 281474976710656 from hP.len _ (get_mem (by omega)))
  have HS2 := Aside0.mk (show (str (l.getD 2 [])).size ≤ 281474976710656 by rw [Lib.size_eq, str_data]; exact hP.len _ (get_mem (by omega)))
  have HF := Aside0.mk (num_none (l := l) hnm)
  have HPU := Aside0.mk hpu
  have HIS := Aside0.mk (show (numOf (str (l.getD 2 [])).data.toList).isSome = false by rw [str_data, hnm]; rfl)
  obtain ⟨a, ha⟩ : ∃ a, a = l.getD 1 [] := ⟨_, rfl⟩
  obtain ⟨b, hb⟩ : ∃ b, b = l.getD 2 [] := ⟨_, rfl⟩
  have HA := Aside0.mk ha
  have HBB := Aside0.mk hb
  rw [← ha] at p1 HS1 HPU
  rw [← hb] at p2 HS2 HIS
  clear hpu hnm ha hb hE hP
  go_enter Tryd.func32, Tryd.ntmps32
  go_upto_region 5 with (first | ((with_reducible refine gate_dst (N := 2) rfl ?_); refine alloc41 rfl rfl ?_; intro w1 rg h1 h2 h3; have HK1 := Aside0.mk (HK.out.new h3 h2); have HRG := Aside0.mk h1; have q1 := pw_cell_below HK1.out.below p1; clear h1 h2 h3) | (go_at_call 44; refine (pu_ok _ a HS1.out u HPU.out).mono ?_; rintro e w2 ⟨rfl, hbb⟩; have HK2 := Aside0.mk (HK1.out.step hbb); have q2 := pw_cell_below HK2.out.below p2; have q12 := pw_cell_below HK2.out.below p1; clear hbb q1) | (go_at_call 33; refine (number_calls _ (HE.out.below HK2.out.below) (str b) HS2.out).mono ?_; rintro e w3 ⟨v, rfl, hv, hvb, hbb⟩; rw [HIS.out]; have HK3 := Aside0.mk (HK2.out.step hbb); have q13 := pw_cell_below HK3.out.below p1; clear hbb q2 q12 hvb hv))
  refine wp_region_held_drew (S := (fun _ => True)) (by kernel_rfl) (by trivial) (fun hHeld => ?_)
  refine wpAnyH_tk (i := 0) (v := ?vz7) 31 rfl rfl (by kernel_rfl) (by kernel_rfl) (by kernel_rfl) (fun _ _ _ h => h) (Or.inl ⟨by rfl, ?yz7⟩) hHeld ?rz7
  case yz7 => (intro w hSw; go_simp; try (first | with_reducible rfl | (rw [if_neg (by omega)]; try with_reducible rfl)))
  (try simp only [Act.put, List.setIfInBounds_toArray, List.set_cons_zero, List.set_cons_succ])
  refine wpAnyH_tk (i := 1) (v := ?vz8) 32 rfl rfl (by kernel_rfl) (by kernel_rfl) (by kernel_rfl) (fun _ _ _ h => h) (Or.inl ⟨by rfl, ?yz8⟩) hHeld ?rz8
  case yz8 => (intro w hSw; go_simp; try (first | with_reducible rfl | (rw [if_neg (by omega)]; try with_reducible rfl)))
  (try simp only [Act.put, List.setIfInBounds_toArray, List.set_cons_zero, List.set_cons_succ])
  refine wpAnyH_tk (i := 2) (v := ?vz9) 33 rfl rfl (by kernel_rfl) (by kernel_rfl) (by kernel_rfl) (fun _ _ _ h => h) (Or.inl ⟨by rfl, ?yz9⟩) hHeld ?rz9
  case yz9 => (intro w hSw; go_simp; try (first | with_reducible rfl | (rw [if_neg (by omega)]; try with_reducible rfl)))
  (try simp only [Act.put, List.setIfInBounds_toArray, List.set_cons_zero, List.set_cons_succ])
  refine wpAnyH_tk (i := 3) (v := ?vz10) 34 rfl rfl (by kernel_rfl) (by kernel_rfl) (by kernel_rfl) (fun _ _ _ h => h) (Or.inl ⟨by rfl, ?yz10⟩) hHeld ?rz10
  case yz10 => (intro w hSw; go_simp; try (first | with_reducible rfl | (rw [if_neg (by omega)]; try with_reducible rfl)))
  (try simp only [Act.put, List.setIfInBounds_toArray, List.set_cons_zero, List.set_cons_succ])
  refine wpAnyH_tk (i := 4) (v := ?vz11) 35 rfl rfl (by kernel_rfl) (by kernel_rfl) (by kernel_rfl) (fun _ _ _ h => h) (Or.inl ⟨by rfl, ?yz11⟩) hHeld ?rz11
  case yz11 => (intro w hSw; go_simp; try (first | with_reducible rfl | (rw [if_neg (by omega)]; try with_reducible rfl)))
  (try simp only [Act.put, List.setIfInBounds_toArray, List.set_cons_zero, List.set_cons_succ])
  refine wpAnyH_tk (i := 5) (v := ?vz12) 36 rfl rfl (by kernel_rfl) (by kernel_rfl) (by kernel_rfl) (fun _ _ _ h => h) (Or.inl ⟨by rfl, ?yz12⟩) hHeld ?rz12
  case yz12 => (intro w hSw; go_simp; try (first | with_reducible rfl | (rw [if_neg (by omega)]; try with_reducible rfl)))
  (try simp only [Act.put, List.setIfInBounds_toArray, List.set_cons_zero, List.set_cons_succ])
  refine wpAnyH_tk (i := 6) (v := ?vz13) 37 rfl rfl (by kernel_rfl) (by kernel_rfl) (by kernel_rfl) (fun _ _ _ h => h) (Or.inl ⟨by rfl, ?yz13⟩) hHeld ?rz13
  case yz13 => (intro w hSw; go_simp; try (first | with_reducible rfl | (rw [if_neg (by omega)]; try with_reducible rfl)))
  (try simp only [Act.put, List.setIfInBounds_toArray, List.set_cons_zero, List.set_cons_succ])
  refine wpAnyH_tk (i := 7) (v := undef) 38 rfl rfl (by kernel_rfl) (by kernel_rfl) (by kernel_rfl) (fun _ _ _ h => h) (yields_not (by rfl)) hHeld ?_
  (try simp only [Act.put, List.setIfInBounds_toArray, List.set_cons_zero, List.set_cons_succ])
  refine wpAnyH_tk (i := 8) (v := undef) 39 rfl rfl (by kernel_rfl) (by kernel_rfl) (by kernel_rfl) (fun _ _ _ h => h) (yields_not (by rfl)) hHeld ?_
  (try simp only [Act.put, List.setIfInBounds_toArray, List.set_cons_zero, List.set_cons_succ])
  refine wpAnyH_tk (i := 9) (v := undef) 40 rfl rfl (by kernel_rfl) (by kernel_rfl) (by kernel_rfl) (fun _ _ _ h => h) (yields_not (by rfl)) hHeld ?_
  (try simp only [Act.put, List.setIfInBounds_toArray, List.set_cons_zero, List.set_cons_succ])
  refine wpAnyH_tk (i := 10) (v := undef) 41 rfl rfl (by kernel_rfl) (by kernel_rfl) (by kernel_rfl) (fun _ _ _ h => h) (yields_not (by rfl)) hHeld ?_
  (try simp only [Act.put, List.setIfInBounds_toArray, List.set_cons_zero, List.set_cons_succ])
  refine wpAnyH_tk (i := 11) (v := undef) 42 rfl rfl (by kernel_rfl) (by kernel_rfl) (by kernel_rfl) (fun _ _ _ h => h) (yields_not (by rfl)) hHeld ?_
  (try simp only [Act.put, List.setIfInBounds_toArray, List.set_cons_zero, List.set_cons_succ])
  refine wpAnyH_tk (i := 12) (v := undef) 43 rfl rfl (by kernel_rfl) (by kernel_rfl) (by kernel_rfl) (fun _ _ _ h => h) (yields_not (by rfl)) hHeld ?_
  (try simp only [Act.put, List.setIfInBounds_toArray, List.set_cons_zero, List.set_cons_succ])
  refine wpAnyH_tk (i := 13) (v := ?vz14) 44 rfl rfl (by kernel_rfl) (by kernel_rfl) (by kernel_rfl) (fun _ _ _ h => h) (Or.inl ⟨by rfl, ?yz14⟩) hHeld ?rz14
  case yz14 => (intro w hSw; go_simp; try (first | with_reducible rfl | (rw [if_neg (by omega)]; try with_reducible rfl)))
  (try simp only [Act.put, List.setIfInBounds_toArray, List.set_cons_zero, List.set_cons_succ])
  refine wpAnyH_done (by kernel_rfl) ?_ _
  skip
  have HK4 := Aside0.mk HK3.out.drew
  clear hHeld q13
  go_wp2_with (first | ((with_reducible refine gate_dst (N := 45) rfl ?_); refine build41z rfl rfl ?_) | (refine store41 rfl rfl (.tmp 2) (.tmp 45) rfl rg rfl step0 none 0 0 rfl rfl (m := step0) rfl HK4.out.head ?_; intro w5 h21 h22 h23; have HK5 := Aside0.mk (HK4.out.put h22 HRG.out (by simp) h21); clear h21 h22 h23))
  refine bodyPost_ret (results_ct rfl _ _ rg 41 _ (0, 0) _ rfl HK5.out.head Tryd.underlying41 rfl (by rw [List.size_toArray, stepC_len step0 _ rfl]; exact size41)) rfl ?_
  unfold StepEnd
  rw [HF.out]
  exact ⟨step0, _, rfl, good0, (fun x' h => by cases h), Kd.R_nil _ _ _ _ _, HK5.out.below⟩
set_option maxRecDepth 10000 in
set_option maxHeartbeats 4000000 in
theorem crash_bad3 (w : World) (hE : Env w) (h : Nat) (l : List Bs) (hP : Pieces w h l) (hl : 3 ≤ l.length) (u n : Nat) (hpu : Lib.parseUintB 64 (l.getD 1 []) = .ok u) (hnm : numOf (l.getD 2 []) = some n) (hne : dec u ≠ l.getD 1 []) : Calls Tryd.prog 32 #[.slice (some ⟨h, 0, none⟩) l.length l.length] w (StepEnd w (crashOf l)) := by
  have HK := Aside0.mk (Keeps.refl w)
  have HE := Aside0.mk hE
  have HP := Aside0.mk hP
  have hfew := hP.few
  have p1 := hP.cell 1 (by omega)
  have p2 := hP.cell 2 (by omega)
  have HS1 := Aside0.mk (show (l.getD 1 []).length ≤ 281474976710656 from hP.len _ (get_mem (by omega)))
  have HS2 := Aside0.mk (show (str (l.getD 2 [])).size ≤ 281474976710656 by rw [Lib.size_eq, str_data]; exact hP.len _ (get_mem (by omega)))
  have HF := Aside0.mk (soft_none (l := l) (by unfold softOf; rw [hpu]; exact if_neg hne))
  have HPU := Aside0.mk hpu
  have HUL := Aside0.mk (pu_lt hpu)
  have HIS := Aside0.mk (show (numOf (str (l.getD 2 [])).data.toList).isSome = true by rw [str_data, hnm]; rfl)
  obtain ⟨a, ha⟩ : ∃ a, a = l.getD 1 [] := ⟨_, rfl⟩
  obtain ⟨b, hb⟩ : ∃ b, b = l.getD 2 [] := ⟨_, rfl⟩
  have HA := Aside0.mk ha
  have HBB := Aside0.mk hb
  rw [← ha] at p1 HS1 HPU hne
  rw [← hb] at p2 HS2 HIS
  have HNE := Aside0.mk (show ¬ dec u = (str a).toList by rw [Lib.toList_data, str_data]; exact hne)
  clear hpu hnm hne ha hb hE hP
  go_enter Tryd.func32, Tryd.ntmps32
  go_upto_region 5 with (first | ((with_reducible refine gate_dst (N := 2) rfl ?_); refine alloc41 rfl rfl ?_; intro w1 rg h1 h2 h3; have HK1 := Aside0.mk (HK.out.new h3 h2); have HRG := Aside0.mk h1; have q1 := pw_cell_below HK1.out.below p1; clear h1 h2 h3) | (go_at_call 44; refine (pu_ok _ a HS1.out u HPU.out).mono ?_; rintro e w2 ⟨rfl, hbb⟩; have HK2 := Aside0.mk (HK1.out.step hbb); have q2 := pw_cell_below HK2.out.below p2; have q12 := pw_cell_below HK2.out.below p1; clear hbb q1) | (go_at_call 33; refine (number_calls _ (HE.out.below HK2.out.below) (str b) HS2.out).mono ?_; rintro e w3 ⟨v, rfl, hv, hvb, hbb⟩; rw [HIS.out]; have HK3 := Aside0.mk (HK2.out.step hbb); have q13 := pw_cell_below HK3.out.below p1; clear hbb q2 q12 hvb hv))
  refine wp_region_held_drew (S := (fun w' => w'.cell? ⟨h, 1, none⟩ = some (.string (str a)))) (by kernel_rfl) (by exact q13) (fun hHeld => ?_)
  refine wpAnyH_tk (i := 0) (v := ?vz15) 31 rfl rfl (by kernel_rfl) (by kernel_rfl) (by kernel_rfl) (fun _ _ _ h => h) (Or.inl ⟨by rfl, ?yz15⟩) hHeld ?rz15
  case yz15 => (intro w hSw; go_simp; try (first | with_reducible rfl | (rw [if_neg (by omega)]; try with_reducible rfl)))
  (try simp only [Act.put, List.setIfInBounds_toArray, List.set_cons_zero, List.set_cons_succ])
  refine wpAnyH_tk (i := 1) (v := ?vz16) 32 rfl rfl (by kernel_rfl) (by kernel_rfl) (by kernel_rfl) (fun _ _ _ h => h) (Or.inl ⟨by rfl, ?yz16⟩) hHeld ?rz16
  case yz16 => (intro w hSw; go_simp; try (first | with_reducible rfl | (rw [if_neg (by omega)]; try with_reducible rfl)))
  (try simp only [Act.put, List.setIfInBounds_toArray, List.set_cons_zero, List.set_cons_succ])
  refine wpAnyH_tk (i := 2) (v := ?vz17) 33 rfl rfl (by kernel_rfl) (by kernel_rfl) (by kernel_rfl) (fun _ _ _ h => h) (Or.inl ⟨by rfl, ?yz17⟩) hHeld ?rz17
  case yz17 => (intro w hSw; go_simp; try (first | with_reducible rfl | (rw [if_neg (by omega)]; try with_reducible rfl)))
  (try simp only [Act.put, List.setIfInBounds_toArray, List.set_cons_zero, List.set_cons_succ])
  refine wpAnyH_tk (i := 3) (v := ?vz18) 34 rfl rfl (by kernel_rfl) (by kernel_rfl) (by kernel_rfl) (fun _ _ _ h => h) (Or.inl ⟨by rfl, ?yz18⟩) hHeld ?rz18
  case yz18 => (intro w hSw; go_simp; try (first | with_reducible rfl | (rw [if_neg (by omega)]; try with_reducible rfl)))
  (try simp only [Act.put, List.setIfInBounds_toArray, List.set_cons_zero, List.set_cons_succ])
  refine wpAnyH_tk (i := 4) (v := ?vz19) 35 rfl rfl (by kernel_rfl) (by kernel_rfl) (by kernel_rfl) (fun _ _ _ h => h) (Or.inl ⟨by rfl, ?yz19⟩) hHeld ?rz19
  case yz19 => (intro w hSw; go_simp; try (first | with_reducible rfl | (rw [if_neg (by omega)]; try with_reducible rfl)))
  (try simp only [Act.put, List.setIfInBounds_toArray, List.set_cons_zero, List.set_cons_succ])
  refine wpAnyH_tk (i := 5) (v := ?vz20) 36 rfl rfl (by kernel_rfl) (by kernel_rfl) (by kernel_rfl) (fun _ _ _ h => h) (Or.inl ⟨by rfl, ?yz20⟩) hHeld ?rz20
  case yz20 => (intro w hSw; go_simp; try (first | with_reducible rfl | (rw [if_neg (by omega)]; try with_reducible rfl)))
  (try simp only [Act.put, List.setIfInBounds_toArray, List.set_cons_zero, List.set_cons_succ])
  refine wpAnyH_tk (i := 6) (v := ?vz21) 37 rfl rfl (by kernel_rfl) (by kernel_rfl) (by kernel_rfl) (fun _ _ _ h => h) (Or.inl ⟨by rfl, ?yz21⟩) hHeld ?rz21
  case yz21 => (intro w hSw; go_simp; try (first | with_reducible rfl | (rw [if_neg (by omega)]; try with_reducible rfl)))
  (try simp only [Act.put, List.setIfInBounds_toArray, List.set_cons_zero, List.set_cons_succ])
  refine wpAnyH_tk (i := 7) (v := ?vz22) 38 rfl rfl (by kernel_rfl) (by kernel_rfl) (by kernel_rfl) (fun _ _ _ h => h) (Or.inl ⟨by rfl, ?yz22⟩) hHeld ?rz22
  case yz22 => (intro w hSw; go_simp; try (first | with_reducible rfl | (rw [if_neg (by omega)]; try with_reducible rfl)))
  (try simp only [Act.put, List.setIfInBounds_toArray, List.set_cons_zero, List.set_cons_succ])
  refine wpAnyH_tk (i := 9) (v := ?vz23) 40 rfl rfl (by kernel_rfl) (by kernel_rfl) (by kernel_rfl) (fun _ _ _ h => h) (Or.inl ⟨by rfl, ?yz23⟩) hHeld ?rz23
  case yz23 => (intro w hSw; go_simp; try (first | with_reducible rfl | (rw [if_neg (by omega)]; try with_reducible rfl)))
  (try simp only [Act.put, List.setIfInBounds_toArray, List.set_cons_zero, List.set_cons_succ])
  refine wpAnyH_tk (i := 10) (v := _) 41 rfl rfl (by kernel_rfl) (by kernel_rfl) (by kernel_rfl) (fun _ _ _ h => h) (show YieldsIf Tryd.prog _ _ _ (.pointer (some ⟨h, 1, none⟩)) _ from Or.inl ⟨(by rfl), fun w hSw => by go_simp; try omega⟩) hHeld ?_
  (try simp only [Act.put, List.setIfInBounds_toArray, List.set_cons_zero, List.set_cons_succ])
  refine wpAnyH_tk (i := 11) (v := _) 42 rfl rfl (by kernel_rfl) (by kernel_rfl) (by kernel_rfl) (fun _ _ _ h => h) (yields_cell (by rfl) 9 (.tmp 41) rfl ⟨h, 1, none⟩ rfl (v := .string (str a)) (fun w h => h) Tryd.underlying9 rfl) hHeld ?_
  (try simp only [Act.put, List.setIfInBounds_toArray, List.set_cons_zero, List.set_cons_succ])
  refine wpAnyH_one (i := 8) (by kernel_rfl) rfl (fun K hK => ?_)
  go_simp
  go_wp2_with (go_at_call 36; refine (format_calls u HUL.out _ (HE.out.below HK3.out.drew.below).pow).mono ?_; rintro e w6 ⟨rfl, hbb⟩; have HK4 := Aside0.mk (HK3.out.drew.step hbb); have q14 := pw_cell_below HK4.out.below p1; clear hbb)
  refine hK.out _ _ (by exact q14) (fun hHeld => ?_)
  clear hK K
  refine wpAnyH_tk (i := 12) (v := _) 43 rfl rfl (by kernel_rfl) (by kernel_rfl) (by kernel_rfl) (fun _ _ _ h => h) (show YieldsIf Tryd.prog _ _ _ (.bool true) _ from Or.inl ⟨(by rfl), fun w hSw => by go_simp; exact HNE.out⟩) hHeld ?_
  (try simp only [Act.put, List.setIfInBounds_toArray, List.set_cons_zero, List.set_cons_succ])
  refine wpAnyH_tk (i := 13) (v := ?vz24) 44 rfl rfl (by kernel_rfl) (by kernel_rfl) (by kernel_rfl) (fun _ _ _ h => h) (Or.inl ⟨by rfl, ?yz24⟩) hHeld ?rz24
  case yz24 => (intro w hSw; go_simp; try (first | with_reducible rfl | (rw [if_neg (by omega)]; try with_reducible rfl)))
  (try simp only [Act.put, List.setIfInBounds_toArray, List.set_cons_zero, List.set_cons_succ])
  refine wpAnyH_done (by kernel_rfl) ?_ _
  skip
  clear hHeld q13 q14
  go_wp2_with (first | ((with_reducible refine gate_dst (N := 45) rfl ?_); refine build41z rfl rfl ?_) | (refine store41 rfl rfl (.tmp 2) (.tmp 45) rfl rg rfl step0 none 0 0 rfl rfl (m := step0) rfl HK4.out.head ?_; intro w5 h21 h22 h23; have HK5 := Aside0.mk (HK4.out.put h22 HRG.out (by simp) h21); clear h21 h22 h23))
  refine bodyPost_ret (results_ct rfl _ _ rg 41 _ (0, 0) _ rfl HK5.out.head Tryd.underlying41 rfl (by rw [List.size_toArray, stepC_len step0 _ rfl]; exact size41)) rfl ?_
  unfold StepEnd
  rw [HF.out]
  exact ⟨step0, _, rfl, good0, (fun x' h => by cases h), Kd.R_nil _ _ _ _ _, HK5.out.below⟩
end
section
set_option linter.unusedSimpArgs false
set_option linter.unusedVariables false
open Go.RowKit Go.Proofs.YtagpldkgkchfcaaDoorW.PrintWords Go.Proofs.YtagpldkgkchfcaaDoorW.PrintLast Go.Proofs.YtagpldkgkchfcaaDoorW.PrintMore Arr PTextPrints

theorem rk_ne {w w' : World} {B wg rg : Nat} {v : Value} {l : List Int} {c1 c2 : List Value} (h : RK w B v l) (hb : Keeps w' [(wg, 39, c1), (rg, 41, c2)] w) : ∀ b ∈ [(wg, (39 : TypeId), c1), (rg, 41, c2)], some b.1 ≠ v.ownBlock := by
  intro b hm
  simp only [List.mem_cons, List.not_mem_nil, or_false] at hm
  rcases hm with rfl | rfl
  · exact own_ne (Kd.own_of_R h) hb.head (by decide)
  · exact own_ne (Kd.own_of_R h) hb.tail.head (by decide)
theorem keep_all {r : List Bs} {ks : List Int} (h : keepOf r = (keepOf (r.drop r.length)).map fun t => ks ++ t) : keepOf r = some ks := by
  rw [List.drop_length] at h
  simpa [keepOf] using h
theorem keep_next {r : List Bs} {m n : Nat} {ks : List Int} (hm : m < r.length) (h : keepOf r = (keepOf (r.drop m)).map fun t => ks ++ t) (hn : numOf (r.getD m []) = some n) : keepOf r = (keepOf (r.drop (m + 1))).map fun t => (ks ++ [(n : Int)]) ++ t := by
  rw [h, keep_step hm, hn]
  cases keepOf (r.drop (m + 1)) <;> simp
theorem keep_stop {r : List Bs} {m : Nat} {ks : List Int} (hm : m < r.length) (h : keepOf r = (keepOf (r.drop m)).map fun t => ks ++ t) (hn : numOf (r.getD m []) = none) : keepOf r = none := by
  rw [h, keep_step hm, hn]
  rfl
theorem keep_len : ∀ (r : List Bs) (k : List Int), keepOf r = some k → ∀ y ∈ k, 0 ≤ y ∧ y ≤ 999999
  | [], k, h, y, hy => by
    obtain rfl := Option.some.inj h
    cases hy
  | f :: r, k, h, y, hy => by
    unfold keepOf at h
    split at h
    · rename_i n l h1 h2
      obtain rfl := Option.some.inj h
      rcases List.mem_cons.1 hy with rfl | hy
      · have := ((numOf_iff _ _).1 h1).1; omega
      · exact keep_len r l h2 y hy
    · cases h
theorem good_crash {k : List Int} {u n : Nat} (hu : u < 18446744073709551616) (hn : n ≤ 999999) (hk : ∀ y ∈ k, 0 ≤ y ∧ y ≤ 999999) : Good (stepCrash k u n) :=
  ⟨rfl, goodop0.byte, goodop0.kind, goodop0.id, goodop0.blk, goodop0.policy, (show (-9223372036854775808 : Int) ≤ 0 ∧ (0 : Int) ≤ 9223372036854775807 by decide), (show (-9223372036854775808 : Int) ≤ (n : Int) ∧ (n : Int) ≤ 9223372036854775807 by omega), (show (0 : Int) ≤ (u : Int) ∧ (u : Int) < 18446744073709551616 by omega), fun y hy => by have := hk y hy; omega⟩
theorem drop_getD (l : List Bs) (a m : Nat) : (l.drop a).getD m [] = l.getD (a + m) [] := by
  rw [List.getD_eq_getElem?_getD, List.getD_eq_getElem?_getD, List.getElem?_drop]
section
variable {ops : Array Oper} {rest : List Oper} {o : Oper} {a : Act} {Q : Exit → Act → World → Prop} {w W : World}
/-- A number appended to a crash's wreck. -/
theorem app36k (hgd : o.guard = none) (s x : Operand) (ho : o.op = .call { callee := .builtin .append, args := #[s, x], argTypes := #[36, 36] })
    (A : Option Addr) (k c : Nat) (ks : List Int) (p : Int) (wg rg : Nat) (u n : Int) (cs : List Value) (hs : a.eval s = .slice A k c) (hx : a.eval x = .slice (some ⟨W.heap.size, 0, none⟩) 1 1)
    (hks : ks.length = k) (hk : k ≤ 4294967296) (HR : RK W w.heap.size (.slice A k c) ks) (HK : Keeps w [(wg, 39, wreckC (.slice A k c) u n), (rg, 41, cs)] W) (hwg : w.heap.size ≤ wg) (hne : rg ≠ wg)
    (h : ∀ A9 c9 w9, (ks ++ [p]).length = k + 1 → RK (w9.setCell ⟨wg, 0, none⟩ (.slice A9 (k + 1) c9)) w.heap.size (.slice A9 (k + 1) c9) (ks ++ [p]) → Keeps w [(wg, 39, wreckC (.slice A9 (k + 1) c9) u n), (rg, 41, cs)] (w9.setCell ⟨wg, 0, none⟩ (.slice A9 (k + 1) c9)) → w9.cell? ⟨wg, 0, none⟩ = some (.slice A k c) → w9.frozen? ⟨wg, 0, none⟩ = false → wpList Tryd.prog ops Q rest (a.put o.dst (.slice A9 (k + 1) c9)) w9) : wpList Tryd.prog ops Q (o :: rest) a (W.alloc (.cells #[.int .i64 p] 3)) := by
  refine app36 hgd s x ho _ _ p hs hx HR (w0 := w) HK.below HK.size (by omega) ?_
  intro v1 w9 h1 h2 h3 h4
  obtain ⟨A9, c9, hv9, hc9, _⟩ := Kd.R_reads h1
  have hl9 : (ks ++ [p]).length = k + 1 := by simp [hks]
  rw [hl9] at hv9
  subst hv9
  have HB3 := keeps_row HK h3 (Kd.R_base HR) (rk_ne HR HK)
  exact h A9 c9 w9 hl9 (rk_row h1 HB3.head (by decide) (grown_set _ _ _ _)) (HB3.put (grown_set _ _ _ _) hwg (by simpa using hne) (HB3.head.set 0 _)) (HB3.head.cell (i := 0) rfl) (HB3.head.frozen 0)
end
set_option maxRecDepth 10000 in
set_option maxHeartbeats 8000000 in
theorem crash_main (w : World) (hE : Env w) (h : Nat) (l : List Bs) (hP : Pieces w h l) (hl : 3 ≤ l.length) (u n : Nat) (hpu : Lib.parseUintB 64 (l.getD 1 []) = .ok u) (hnm : numOf (l.getD 2 []) = some n) (hne : dec u = l.getD 1 []) : Calls Tryd.prog 32 #[.slice (some ⟨h, 0, none⟩) l.length l.length] w (StepEnd w (crashOf l)) := by
  have HK := Aside0.mk (Keeps.refl w)
  have HE := Aside0.mk hE
  have HP := Aside0.mk hP
  have hfew := hP.few
  have p1 := hP.cell 1 (by omega)
  have p2 := hP.cell 2 (by omega)
  have HS1 := Aside0.mk (show (l.getD 1 []).length ≤ 281474976710656 from hP.len _ (get_mem (by omega)))
  have HS2 := Aside0.mk (show (str (l.getD 2 [])).size ≤ 281474976710656 by rw [Lib.size_eq, str_data]; exact hP.len _ (get_mem (by omega)))
  have HF := Aside0.mk (crash_of hl (u := u) (n := n) (by unfold softOf; rw [hpu]; exact if_pos hne) hnm)
  have HPU := Aside0.mk hpu
  have HUL := Aside0.mk (pu_lt hpu)
  have HN6 := Aside0.mk (((numOf_iff _ _).1 hnm).1)
  have HIS := Aside0.mk (show (numOf (str (l.getD 2 [])).data.toList).isSome = true by rw [str_data, hnm]; rfl)
  have HNF := Aside0.mk (show numOf (str (l.getD 2 [])).data.toList = some n by rw [str_data, hnm])
  obtain ⟨TA, hcut0, hTA⟩ := cutP h l.length 3 hl
  have HTA := Aside0.mk hTA
  obtain ⟨N, hN⟩ : ∃ N, N = l.length - 3 := ⟨_, rfl⟩
  have hcut : ∀ W, (Instr.slice 69 (.slice (some ⟨h, 0, none⟩) l.length l.length) (some (.int .i64 3)) none none).run Tryd.prog W = .ok (.slice TA N N) W := fun W => by
    rw [hN]; exact hcut0 W
  have HNN := Aside0.mk (show l.length = 3 + N by omega)
  have hN4 : N ≤ 4294967296 := by omega
  have HDL := Aside0.mk (show (l.drop 3).length = N by rw [List.length_drop]; omega)
  obtain ⟨a, ha⟩ : ∃ a, a = l.getD 1 [] := ⟨_, rfl⟩
  obtain ⟨b, hb⟩ : ∃ b, b = l.getD 2 [] := ⟨_, rfl⟩
  have HA := Aside0.mk ha
  have HBB := Aside0.mk hb
  rw [← ha] at p1 HS1 HPU hne
  rw [← hb] at p2 HS2 HIS HNF
  have HNE := Aside0.mk (show dec u = (str a).toList by rw [Lib.toList_data, str_data]; exact hne)
  clear hpu hnm hne ha hb hE hP hTA hcut0 hN
  go_enter Tryd.func32, Tryd.ntmps32
  go_upto_region 5 with (first | ((with_reducible refine gate_dst (N := 2) rfl ?_); refine alloc41 rfl rfl ?_; intro w1 rg h1 h2 h3; have HK1 := Aside0.mk (HK.out.new h3 h2); have HRG := Aside0.mk h1; have q1 := pw_cell_below HK1.out.below p1; clear h1 h2 h3) | (go_at_call 44; refine (pu_ok _ a HS1.out u HPU.out).mono ?_; rintro e w2 ⟨rfl, hbb⟩; have HK2 := Aside0.mk (HK1.out.step hbb); have q2 := pw_cell_below HK2.out.below p2; have q12 := pw_cell_below HK2.out.below p1; clear hbb q1) | (go_at_call 33; refine (number_calls _ (HE.out.below HK2.out.below) (str b) HS2.out).mono ?_; rintro e w3 ⟨v, rfl, hv, hvb, hbb⟩; rw [HIS.out]; obtain rfl := hv n HNF.out; have HK3 := Aside0.mk (HK2.out.step hbb); have q13 := pw_cell_below HK3.out.below p1; clear hbb q2 q12 hvb hv))
  refine wp_region_held_drew (S := (fun w' => w'.cell? ⟨h, 1, none⟩ = some (.string (str a)))) (by kernel_rfl) (by exact q13) (fun hHeld => ?_)
  refine wpAnyH_tk (i := 0) (v := ?vz25) 31 rfl rfl (by kernel_rfl) (by kernel_rfl) (by kernel_rfl) (fun _ _ _ h => h) (Or.inl ⟨by rfl, ?yz25⟩) hHeld ?rz25
  case yz25 => (intro w hSw; go_simp; try (first | with_reducible rfl | (rw [if_neg (by omega)]; try with_reducible rfl)))
  (try simp only [Act.put, List.setIfInBounds_toArray, List.set_cons_zero, List.set_cons_succ])
  refine wpAnyH_tk (i := 1) (v := ?vz26) 32 rfl rfl (by kernel_rfl) (by kernel_rfl) (by kernel_rfl) (fun _ _ _ h => h) (Or.inl ⟨by rfl, ?yz26⟩) hHeld ?rz26
  case yz26 => (intro w hSw; go_simp; try (first | with_reducible rfl | (rw [if_neg (by omega)]; try with_reducible rfl)))
  (try simp only [Act.put, List.setIfInBounds_toArray, List.set_cons_zero, List.set_cons_succ])
  refine wpAnyH_tk (i := 2) (v := ?vz27) 33 rfl rfl (by kernel_rfl) (by kernel_rfl) (by kernel_rfl) (fun _ _ _ h => h) (Or.inl ⟨by rfl, ?yz27⟩) hHeld ?rz27
  case yz27 => (intro w hSw; go_simp; try (first | with_reducible rfl | (rw [if_neg (by omega)]; try with_reducible rfl)))
  (try simp only [Act.put, List.setIfInBounds_toArray, List.set_cons_zero, List.set_cons_succ])
  refine wpAnyH_tk (i := 3) (v := ?vz28) 34 rfl rfl (by kernel_rfl) (by kernel_rfl) (by kernel_rfl) (fun _ _ _ h => h) (Or.inl ⟨by rfl, ?yz28⟩) hHeld ?rz28
  case yz28 => (intro w hSw; go_simp; try (first | with_reducible rfl | (rw [if_neg (by omega)]; try with_reducible rfl)))
  (try simp only [Act.put, List.setIfInBounds_toArray, List.set_cons_zero, List.set_cons_succ])
  refine wpAnyH_tk (i := 4) (v := ?vz29) 35 rfl rfl (by kernel_rfl) (by kernel_rfl) (by kernel_rfl) (fun _ _ _ h => h) (Or.inl ⟨by rfl, ?yz29⟩) hHeld ?rz29
  case yz29 => (intro w hSw; go_simp; try (first | with_reducible rfl | (rw [if_neg (by omega)]; try with_reducible rfl)))
  (try simp only [Act.put, List.setIfInBounds_toArray, List.set_cons_zero, List.set_cons_succ])
  refine wpAnyH_tk (i := 5) (v := ?vz30) 36 rfl rfl (by kernel_rfl) (by kernel_rfl) (by kernel_rfl) (fun _ _ _ h => h) (Or.inl ⟨by rfl, ?yz30⟩) hHeld ?rz30
  case yz30 => (intro w hSw; go_simp; try (first | with_reducible rfl | (rw [if_neg (by omega)]; try with_reducible rfl)))
  (try simp only [Act.put, List.setIfInBounds_toArray, List.set_cons_zero, List.set_cons_succ])
  refine wpAnyH_tk (i := 6) (v := ?vz31) 37 rfl rfl (by kernel_rfl) (by kernel_rfl) (by kernel_rfl) (fun _ _ _ h => h) (Or.inl ⟨by rfl, ?yz31⟩) hHeld ?rz31
  case yz31 => (intro w hSw; go_simp; try (first | with_reducible rfl | (rw [if_neg (by omega)]; try with_reducible rfl)))
  (try simp only [Act.put, List.setIfInBounds_toArray, List.set_cons_zero, List.set_cons_succ])
  refine wpAnyH_tk (i := 7) (v := ?vz32) 38 rfl rfl (by kernel_rfl) (by kernel_rfl) (by kernel_rfl) (fun _ _ _ h => h) (Or.inl ⟨by rfl, ?yz32⟩) hHeld ?rz32
  case yz32 => (intro w hSw; go_simp; try (first | with_reducible rfl | (rw [if_neg (by omega)]; try with_reducible rfl)))
  (try simp only [Act.put, List.setIfInBounds_toArray, List.set_cons_zero, List.set_cons_succ])
  refine wpAnyH_tk (i := 9) (v := ?vz33) 40 rfl rfl (by kernel_rfl) (by kernel_rfl) (by kernel_rfl) (fun _ _ _ h => h) (Or.inl ⟨by rfl, ?yz33⟩) hHeld ?rz33
  case yz33 => (intro w hSw; go_simp; try (first | with_reducible rfl | (rw [if_neg (by omega)]; try with_reducible rfl)))
  (try simp only [Act.put, List.setIfInBounds_toArray, List.set_cons_zero, List.set_cons_succ])
  refine wpAnyH_tk (i := 10) (v := _) 41 rfl rfl (by kernel_rfl) (by kernel_rfl) (by kernel_rfl) (fun _ _ _ h => h) (show YieldsIf Tryd.prog _ _ _ (.pointer (some ⟨h, 1, none⟩)) _ from Or.inl ⟨(by rfl), fun w hSw => by go_simp; try omega⟩) hHeld ?_
  (try simp only [Act.put, List.setIfInBounds_toArray, List.set_cons_zero, List.set_cons_succ])
  refine wpAnyH_tk (i := 11) (v := _) 42 rfl rfl (by kernel_rfl) (by kernel_rfl) (by kernel_rfl) (fun _ _ _ h => h) (yields_cell (by rfl) 9 (.tmp 41) rfl ⟨h, 1, none⟩ rfl (v := .string (str a)) (fun w h => h) Tryd.underlying9 rfl) hHeld ?_
  (try simp only [Act.put, List.setIfInBounds_toArray, List.set_cons_zero, List.set_cons_succ])
  refine wpAnyH_one (i := 8) (by kernel_rfl) rfl (fun K hK => ?_)
  go_simp
  go_wp2_with (go_at_call 36; refine (format_calls u HUL.out _ (HE.out.below HK3.out.drew.below).pow).mono ?_; rintro e w6 ⟨rfl, hbb⟩; have HK4 := Aside0.mk (HK3.out.drew.step hbb); have q14 := pw_cell_below HK4.out.below p1; clear hbb)
  refine hK.out _ _ (by exact q14) (fun hHeld => ?_)
  clear hK K
  refine wpAnyH_tk (i := 12) (v := _) 43 rfl rfl (by kernel_rfl) (by kernel_rfl) (by kernel_rfl) (fun _ _ _ h => h) (show YieldsIf Tryd.prog _ _ _ (.bool false) _ from Or.inl ⟨(by rfl), fun w hSw => by go_simp; exact HNE.out⟩) hHeld ?_
  (try simp only [Act.put, List.setIfInBounds_toArray, List.set_cons_zero, List.set_cons_succ])
  refine wpAnyH_tk (i := 13) (v := ?vz34) 44 rfl rfl (by kernel_rfl) (by kernel_rfl) (by kernel_rfl) (fun _ _ _ h => h) (Or.inl ⟨by rfl, ?yz34⟩) hHeld ?rz34
  case yz34 => (intro w hSw; go_simp; try (first | with_reducible rfl | (rw [if_neg (by omega)]; try with_reducible rfl)))
  (try simp only [Act.put, List.setIfInBounds_toArray, List.set_cons_zero, List.set_cons_succ])
  refine wpAnyH_done (by kernel_rfl) ?_ _
  skip
  clear hHeld q13 q14
  go_wp2_with (first | ((with_reducible refine gate_dst (N := 48) rfl ?_); refine build39 rfl (.tmp 46) (.tmp 47) rfl u n rfl rfl ?_) | ((with_reducible refine gate_dst (N := 8) rfl ?_); refine alloc39 rfl rfl ?_; intro w5 wg h4 h5 h6; have HK5 := Aside0.mk (HK4.out.new h6 h5); have HWG := Aside0.mk (show w.heap.size ≤ wg from Nat.le_trans HK4.out.size h4); have HGN := Aside0.mk (show rg ≠ wg by have a1 := HK4.out.head.lt; have a2 := h4; omega); clear h4 h5 h6) | (refine store39 rfl rfl (.tmp 8) (.tmp 48) rfl wg rfl none 0 0 u n rfl HK5.out.head ?_; intro w7 h7 h8 h9; have HK7 := Aside0.mk (HK5.out.put h8 HWG.out (by simpa using HGN.out) h7); clear h7 h8 h9))
  go_loopw [10, 11, 12, 52] (fun _ _ _ i wr => ∃ k : Nat, k ≤ N ∧ i = .int .i64 k ∧ ∃ (A : Option Addr) (c : Nat) (ks : List Int), Aside0 (ks.length = k) ∧ Aside0 (RK wr w.heap.size (.slice A k c) ks) ∧ Aside0 (keepOf (l.drop 3) = (keepOf ((l.drop 3).drop k)).map fun t => ks ++ t) ∧ Aside0 (Keeps w [(wg, 39, wreckC (.slice A k c) u n), (rg, 41, stepC step0 (.slice none 0 0))] wr)) (fun _ _ _ i _ => N - (intOf i).toNat)
  case atStart => exact ⟨0, by omega, rfl, none, 0, [], ⟨rfl⟩, ⟨Kd.R_nil _ _ _ _ _⟩, ⟨by simp⟩, HK7⟩
  case round =>
    obtain ⟨k, hk, rfl, A, c, ks, hks, HR, HS, HB⟩ := hrel
    rename World => wr
    by_cases hlt : k < N
    · obtain ⟨f, hf⟩ : ∃ f, f = l.getD (3 + k) [] := ⟨_, rfl⟩
      have hkl : 3 + k < l.length := by have := HNN.out; omega
      have hTAe : TA = some ⟨h, 3, none⟩ := HTA.out (by omega)
      subst hTAe
      have hfl : wr.cell? ⟨h, 3 + k, none⟩ = some (.string (str f)) := by rw [hf]; exact (HP.out.below HB.out.below).cell (3 + k) hkl
      have HFS := Aside0.mk (show (str f).size ≤ 281474976710656 by rw [Lib.size_eq, str_data, hf]; exact HP.out.len _ (get_mem hkl))
      have HFE := Aside0.mk (show (l.drop 3).getD k [] = f by rw [drop_getD, hf])
      have HKL := Aside0.mk (show k < (l.drop 3).length by rw [HDL.out]; exact hlt)
      clear hf
      rcases hnum : numOf f with _ | m
      · have HFN := Aside0.mk (show crashOf l = none by rw [HF.out, keep_stop HKL.out HS.out (by rw [HFE.out]; exact hnum)]; rfl)
        have HIS2 := Aside0.mk (show (numOf (str f).data.toList).isSome = false by rw [str_data, hnum]; rfl)
        clear hnum
        go_wp2_with (first | (go_at_call 33; refine (number_calls _ (HE.out.below HB.out.below) (str f) HFS.out).mono ?_; rintro e w8 ⟨v, rfl, _, hvb, hbb⟩; rw [HIS2.out]; have HB2 := Aside0.mk (HB.out.step hbb); clear hbb hvb) | ((with_reducible refine gate_dst (N := 63) rfl ?_); refine build41z rfl rfl ?_) | (refine store41 rfl rfl (.tmp 2) (.tmp 63) rfl rg rfl step0 none 0 0 rfl rfl (m := step0) rfl HB2.out.tail.head ?_; intro w9 h21 h22 h23; have HK9 := Aside0.mk (HB2.out.tail.put h22 HRG.out (by simp) h21); clear h21 h22 h23))
        refine bodyPost_ret (results_ct rfl _ _ rg 41 _ (0, 0) _ rfl HK9.out.head Tryd.underlying41 rfl (by rw [List.size_toArray, stepC_len step0 _ rfl]; exact size41)) rfl ?_
        unfold StepEnd
        rw [HFN.out]
        exact ⟨step0, _, rfl, good0, (fun x' h => by cases h), Kd.R_nil _ _ _ _ _, HK9.out.below⟩
      · have HS2 := Aside0.mk (keep_next HKL.out HS.out (by rw [HFE.out]; exact hnum))
        have HIS2 := Aside0.mk (show (numOf (str f).data.toList).isSome = true by rw [str_data, hnum]; rfl)
        have HNF2 := Aside0.mk (show numOf (str f).data.toList = some m by rw [str_data, hnum])
        clear hnum
        go_wp2_with (first | (go_at_call 33; refine (number_calls _ (HE.out.below HB.out.below) (str f) HFS.out).mono ?_; rintro e w8 ⟨v, rfl, hv, hvb, hbb⟩; rw [HIS2.out]; obtain rfl := hv m HNF2.out; have HB2 := Aside0.mk (HB.out.step hbb); have HR2 := Aside0.mk (Kd.R_below HR.out hbb); have z0 := HB2.out.head.cell (i := 0) (v := .slice A k c) rfl; clear hbb hvb hv) | ((with_reducible refine gate_dst (N := 68) rfl ?_); refine app36k rfl (.tmp 65) (.tmp 67) rfl A k c ks m wg rg u n _ rfl rfl hks.out (by omega) HR2.out HB2.out HWG.out HGN.out ?_; intro A9 c9 w9 h1 h2 h3 z9 z9f; have HL9 := Aside0.mk h1; have HR3 := Aside0.mk h2; have HB4 := Aside0.mk h3; clear h1 h2 h3 z0))
        go_roundw
        case rel => exact ⟨k + 1, by omega, by go_num, A9, c9, _, HL9, HR3, HS2, HB4⟩
        case measure => simp [intOf]; omega
    · obtain rfl : k = N := by omega
      have HKA := Aside0.mk (show keepOf (l.drop 3) = some ks from keep_all (by rw [HDL.out]; exact HS.out))
      have HFF := Aside0.mk (show crashOf l = some (stepCrash ks u n) by rw [HF.out, HKA.out]; rfl)
      go_wp2_with (first | ((with_reducible refine gate_dst (N := 71) rfl ?_); refine loadB39 rfl (.tmp 8) rfl wg rfl _ _ _ HB.out.head ?_) | ((with_reducible refine gate_dst (N := 72) rfl ?_); refine build41c rfl (.tmp 71) rfl A k c u n ks rfl ?_) | (refine store41 rfl rfl (.tmp 2) (.tmp 72) rfl rg rfl (stepCrash ks u n) A k c rfl rfl (m := step0) rfl HB.out.tail.head ?_; intro w9 h21 h22 h23; have HK9 := Aside0.mk (HB.out.tail.put h22 HRG.out (by simp) h21); have HR9 := Aside0.mk (rk_row HR.out HB.out.tail.head (by decide) h22); clear h21 h22 h23))
      refine bodyPost_ret (results_ct rfl _ _ rg 41 _ (0, 0) _ rfl HK9.out.head Tryd.underlying41 rfl (by rw [List.size_toArray, stepC_len (stepCrash ks u n) _ rfl]; exact size41)) rfl ?_
      unfold StepEnd
      rw [HFF.out]
      exact ⟨_, _, rfl, good_crash HUL.out HN6.out (keep_len _ _ HKA.out), (fun x' h => by injection h), HR9.out, HK9.out.below⟩
theorem crash_calls (w : World) (hE : Env w) (h : Nat) (l : List Bs) (hP : Pieces w h l) : Calls Tryd.prog 32 #[.slice (some ⟨h, 0, none⟩) l.length l.length] w (StepEnd w (crashOf l)) := by
  by_cases hl : l.length < 3
  · exact crash_short w h l hl
  have hl3 : 3 ≤ l.length := by omega
  by_cases hu : ∃ u, Lib.parseUintB 64 (l.getD 1 []) = .ok u
  · obtain ⟨u, hu⟩ := hu
    rcases hn : numOf (l.getD 2 []) with _ | n
    · exact crash_bad2 w hE h l hP hl3 u hu hn
    · by_cases he : dec u = l.getD 1 []
      · exact crash_main w hE h l hP hl3 u n hu hn he
      · exact crash_bad3 w hE h l hP hl3 u n hu hn he
  · exact crash_bad1 w hE h l hP hl3 (fun u h => hu ⟨u, h⟩)
end
section
set_option linter.unusedSimpArgs false
set_option linter.unusedVariables false
open Go.RowKit Go.Proofs.YtagpldkgkchfcaaDoorW.PrintWords Go.Proofs.YtagpldkgkchfcaaDoorW.PrintLast Go.Proofs.YtagpldkgkchfcaaDoorW.PrintMore Arr PTextPrints

theorem sl_back : ∀ L : List ByteArray, sl (L.map (·.data.toList)) = L
  | [] => rfl
  | b :: L => by
    show str b.data.toList :: sl (L.map (·.data.toList)) = _
    rw [sl_back L]; rfl
theorem split1_len (c : UInt8) : ∀ s : Bs, (split1 c s).length ≤ s.length + 1
  | [] => by simp [split1]
  | b :: l => by
    have := split1_len c l
    unfold split1
    split
    · simp; omega
    · split
      · simp
      · rename_i x r e
        rw [e] at this
        simp at this ⊢; omega
theorem split1_mem (c : UInt8) : ∀ s : Bs, ∀ f ∈ split1 c s, f.length ≤ s.length
  | [], f, h => by simp [split1] at h; subst h; simp
  | b :: l, f, h => by
    unfold split1 at h
    split at h
    · rcases List.mem_cons.1 h with rfl | h
      · simp
      · have := split1_mem c l f h; simp; omega
    · split at h
      · rename_i e; exact absurd e (split1_ne c l)
      · rename_i y r e
        rcases List.mem_cons.1 h with rfl | h
        · have := split1_mem c l y (by rw [e]; exact List.mem_cons_self ..); simp; omega
        · have := split1_mem c l f (by rw [e]; exact List.mem_cons_of_mem _ h); simp; omega
theorem split1_count (c : UInt8) : ∀ s : Bs, (split1 c s).length = s.count c + 1
  | [] => rfl
  | b :: l => by
    have ih := split1_count c l
    unfold split1
    split
    · rename_i hb
      subst hb
      rw [List.count_cons_self, List.length_cons, ih]
    · rename_i hb
      rw [List.count_cons_of_ne (by first | exact hb | exact fun e => hb e.symm)]
      split
      · rename_i e; exact absurd e (split1_ne c l)
      · rename_i x r e
        rw [e] at ih
        simpa using ih
theorem below_alloc (w : World) (o : Obj) : Below w.heap.size w (w.alloc o) := (Below.refl _ w).alloc (Nat.le_refl _) o
theorem split_calls (w : World) (hE : Env w) (s : ByteArray) (hs : s.size ≤ 2147483648) : Calls Tryd.prog 31 #[.string s, .string ⟨#[32]⟩] w fun e w' => e = .returned (.slice (some ⟨w.heap.size, 0, none⟩) (split1 32 s.data.toList).length (split1 32 s.data.toList).length) ∧ Pieces w' w.heap.size (split1 32 s.data.toList) ∧ Below w.heap.size w w' := by
  obtain ⟨m, hm⟩ := hE.mx
  refine (Tryd.strings_Split s ⟨#[32]⟩ m w (by omega) hm (by decide)).mono ?_
  rintro e w' ⟨rfl, rfl⟩
  have h1 : (Lib.splitB ⟨#[32]⟩ 0 (Lib.countB s ⟨#[32]⟩) s) = sl (split1 32 s.data.toList) := by
    rw [← sl_back (Lib.splitB _ _ _ _), Lib.splitB_data]
    congr 1
    exact split_eq 32 s.data.toList
  have h2 : Lib.countB s ⟨#[32]⟩ + 1 = (split1 32 s.data.toList).length := by
    rw [split1_count]
    show Lib.count s.data.toList [32] + 1 = _
    rw [Lib.count_one]
  have hl := split1_len 32 s.data.toList
  have hm2 := split1_mem 32 s.data.toList
  have hz : s.data.toList.length = s.size := (Lib.size_eq s).symm
  refine ⟨by rw [h2], ⟨?_, fun f hf => by have := hm2 f hf; omega, by omega, split1_ne _ _⟩, below_alloc _ _⟩
  rw [h1]
  exact Blk.new w 9 _
theorem step_crash {s : Bs} (h : (split1 32 s).getD 0 [] = sCrash) : stepOf s = crashOf (split1 32 s) := by
  have h' : (split1 32 s).headD [] = sCrash := by rw [← h]; cases split1 32 s <;> rfl
  simp only [stepOf, if_pos h']
theorem step_op {s : Bs} (h : (split1 32 s).getD 0 [] ≠ sCrash) (h2 : (split1 32 s).getD 0 [] ≠ sArm) : stepOf s = (opOf (split1 32 s)).map stepOp := by
  have h' : (split1 32 s).headD [] = (split1 32 s).getD 0 [] := by cases split1 32 s <;> rfl
  simp only [stepOf, h', if_neg h, if_neg h2]
  rfl
theorem step_arm {s : Bs} (h : (split1 32 s).getD 0 [] = sArm) : stepOf s = if (split1 32 s).length = 2 then (match numOf ((split1 32 s).getD 1 []) with
    | some n => if 0 < n then some (stepArm n) else none
    | none => none) else none := by
  have h' : (split1 32 s).headD [] = sArm := by rw [← h]; cases split1 32 s <;> rfl
  have h2 : ¬ (split1 32 s).headD [] = sCrash := by rw [h']; decide
  simp only [stepOf, if_neg h2, if_pos h']
  generalize split1 32 s = l
  match l with
  | [] => rfl
  | [_] => rfl
  | [_, _] => rfl
  | _ :: _ :: _ :: _ => simp
section
variable {ops : Array Oper} {rest : List Oper} {o : Oper} {a : Act} {Q : Exit → Act → World → Prop} {w0 W : World} {B : Nat}
theorem build41a (hgd : o.guard = none) (x : Operand) (ho : o.op = .build 41 #[(1, x)]) (n : Int) (hx : a.eval x = .int .i64 n) (h : wpList Tryd.prog ops Q rest (a.put o.dst (.agg (stepC (stepArm n) (.slice none 0 0)).toArray)) W) : wpList Tryd.prog ops Q (o :: rest) a W :=
  Kd.event_run hgd (by simp only [execOp, ho, List.map_toArray, List.map_cons, List.map_nil, hx]; kernel_rfl) h
end
set_option maxRecDepth 10000 in
set_option maxHeartbeats 4000000 in
theorem step_calls_crash (w : World) (hE : Env w) (s : ByteArray) (hs : s.size ≤ 2147483648) (hh : (split1 32 s.data.toList).getD 0 [] = sCrash) : Calls Tryd.prog 20 #[.string s] w (StepEnd w (stepOf s.data.toList)) := by
  have HK := Aside0.mk (Keeps.refl w)
  have HE := Aside0.mk hE
  have HSP := Aside0.mk (fun W hW => split_calls W (hE.below hW) s hs)
  have HF := Aside0.mk (step_crash hh)
  obtain ⟨l, hl⟩ : ∃ l, l = split1 32 s.data.toList := ⟨_, rfl⟩
  rw [← hl] at HSP HF hh
  have HH := Aside0.mk (show str (l.getD 0 []) = ⟨#[99, 114, 97, 115, 104]⟩ by rw [hh]; rfl)
  clear hl hh hE
  go_enter Tryd.func20, Tryd.ntmps20
  go_wp2_with (first | ((with_reducible refine gate_dst (N := 2) rfl ?_); refine alloc41 rfl rfl ?_; intro w1 rg h1 h2 h3; have HK1 := Aside0.mk (HK.out.new h3 h2); have HRG := Aside0.mk h1; clear h1 h2 h3) | (go_at_call 31; refine (HSP.out _ HK1.out.below).mono ?_; rintro e w2 ⟨rfl, hp, hbb⟩; have HK2 := Aside0.mk (HK1.out.step hbb); have HP := Aside0.mk hp; have hpos : 0 < l.length := List.length_pos_iff.2 hp.ne; have l0 := hp.cell 0 hpos; rw [HH.out] at l0; clear hbb hp) | (go_at_call 32; refine (crash_calls _ (HE.out.below HK2.out.below) _ l HP.out).mono ?_; rintro e w3 ⟨x, v, rfl, hg, hx, hv, hbb⟩; obtain ⟨A, c, rfl, hc, _⟩ := Kd.R_reads hv; have HK3 := Aside0.mk (HK2.out.step hbb); have HG := Aside0.mk hg; have HX := Aside0.mk hx; have HV := Aside0.mk (Kd.R_lower hv HK2.out.size); clear hbb hg hx hv hc) | (refine store41 rfl rfl (.tmp 2) (.tmp 18) rfl rg rfl x A x.keep.length c HG.out.len rfl (m := step0) rfl HK3.out.head ?_; intro w5 h21 h22 h23; have HK5 := Aside0.mk (HK3.out.put h22 HRG.out (by simp) h21); have HV5 := Aside0.mk (rk_row HV.out HK3.out.head (by decide) h22); clear h21 h22 h23))
  refine bodyPost_ret (results_ct rfl _ _ rg 41 _ (0, 0) _ rfl HK5.out.head Tryd.underlying41 rfl (by rw [List.size_toArray, stepC_len x _ HG.out.len]; exact size41)) rfl ?_
  unfold StepEnd
  rw [HF.out]
  exact ⟨x, _, rfl, HG.out, HX.out, HV5.out, HK5.out.below⟩
theorem zero_in : (-9223372036854775808 : Int) ≤ 0 ∧ (0 : Int) ≤ 9223372036854775807 := by decide
theorem zero_un : (0 : Int) ≤ 0 ∧ (0 : Int) < 18446744073709551616 := by decide
def list32 (f : Nat → Int) : List Int := [f 0, f 1, f 2, f 3, f 4, f 5, f 6, f 7, f 8, f 9, f 10, f 11, f 12, f 13, f 14, f 15, f 16, f 17, f 18, f 19, f 20, f 21, f 22, f 23, f 24, f 25, f 26, f 27, f 28, f 29, f 30, f 31]
theorem list32_of : ∀ d : List Int, d.length = 32 → d = list32 (fun i => d.getD i 0)
  | [d0, d1, d2, d3, d4, d5, d6, d7, d8, d9, d10, d11, d12, d13, d14, d15, d16, d17, d18, d19, d20, d21, d22, d23, d24, d25, d26, d27, d28, d29, d30, d31], _ => rfl
theorem good_op {o : Op} (h : GoodOp o) : Good (stepOp o) := ⟨h.len, h.byte, h.kind, h.id, h.blk, h.policy, zero_in, zero_in, zero_un, fun y hy => by cases hy⟩
theorem good_arm {n : Int} (h : -9223372036854775808 ≤ n ∧ n ≤ 9223372036854775807) : Good (stepArm n) := ⟨rfl, goodop0.byte, goodop0.kind, goodop0.id, goodop0.blk, goodop0.policy, h, zero_in, zero_un, fun y hy => by cases hy⟩
section
variable {ops : Array Oper} {rest : List Oper} {o : Oper} {a : Act} {Q : Exit → Act → World → Prop} {w0 W : World} {B : Nat}
theorem build41o (hgd : o.guard = none) (x : Operand) (ho : o.op = .build 41 #[(0, x)]) (f : Op) (hl : f.data.length = 32) (hx : a.eval x = .agg (opC f).toArray) (h : wpList Tryd.prog ops Q rest (a.put o.dst (.agg (stepC (stepOp f) (.slice none 0 0)).toArray)) W) : wpList Tryd.prog ops Q (o :: rest) a W := by
  obtain ⟨k, i, b, d, y, p⟩ := f
  have e := list32_of d hl
  generalize (fun i => d.getD i 0) = g at e
  subst e
  exact Kd.event_run hgd (by simp only [execOp, ho, List.map_toArray, List.map_cons, List.map_nil, hx]; kernel_rfl) h
end
set_option maxRecDepth 10000 in
set_option maxHeartbeats 4000000 in
theorem step_calls_op (w : World) (hE : Env w) (s : ByteArray) (hs : s.size ≤ 2147483648) (hh : (split1 32 s.data.toList).getD 0 [] ≠ sCrash) (hh2 : (split1 32 s.data.toList).getD 0 [] ≠ sArm) : Calls Tryd.prog 20 #[.string s] w (StepEnd w (stepOf s.data.toList)) := by
  have HK := Aside0.mk (Keeps.refl w)
  have HE := Aside0.mk hE
  have HSP := Aside0.mk (fun W hW => split_calls W (hE.below hW) s hs)
  have HF := Aside0.mk (step_op hh hh2)
  obtain ⟨l, hl⟩ : ∃ l, l = split1 32 s.data.toList := ⟨_, rfl⟩
  rw [← hl] at HSP HF hh hh2
  obtain ⟨hd, hhd⟩ : ∃ hd, hd = str (l.getD 0 []) := ⟨_, rfl⟩
  have hq1 : (hd.toList == [99, 114, 97, 115, 104]) = false := by rw [beq_eq_false_iff_ne, Lib.toList_data, hhd, str_data]; exact hh
  have hq2 : (hd.toList == [97, 114, 109]) = false := by rw [beq_eq_false_iff_ne, Lib.toList_data, hhd, str_data]; exact hh2
  have HH := Aside0.mk hhd
  clear hl hh hh2 hE hhd
  go_enter Tryd.func20, Tryd.ntmps20
  go_wp2_with (first | ((with_reducible refine gate_dst (N := 2) rfl ?_); refine alloc41 rfl rfl ?_; intro w1 rg h1 h2 h3; have HK1 := Aside0.mk (HK.out.new h3 h2); have HRG := Aside0.mk h1; clear h1 h2 h3) | (go_at_call 31; refine (HSP.out _ HK1.out.below).mono ?_; rintro e w2 ⟨rfl, hp, hbb⟩; have HK2 := Aside0.mk (HK1.out.step hbb); have HP := Aside0.mk hp; have hpos : 0 < l.length := List.length_pos_iff.2 hp.ne; have l0 := hp.cell 0 hpos; rw [← HH.out] at l0; clear hbb hp) | (go_at_call 34; refine (op_calls _ (HE.out.below HK2.out.below) _ l HP.out).mono ?_; rintro e w3 ⟨x, rfl, hg, hx, hbb⟩; have HK3 := Aside0.mk (HK2.out.step hbb); have HG := Aside0.mk hg; have HX := Aside0.mk hx; clear hbb hg hx) | ((with_reducible refine gate_dst (N := 7) rfl ?_); refine alloc35 rfl rfl ?_; intro w4 og h1 h2 h3; have HK4 := Aside0.mk (HK3.out.new h3 h2); have HOG := Aside0.mk (show w.heap.size ≤ og from Nat.le_trans HK3.out.size h1); have HON := Aside0.mk (show rg ≠ og by have a1 := HK3.out.head.lt; have a2 := h1; omega); clear h1 h2 h3) | (refine store35 rfl rfl (.tmp 7) (.tmp 43) rfl og rfl x HG.out.len rfl (m := op0) rfl HK4.out.head ?_; intro w5 h21 h22 h23; have HK5 := Aside0.mk (HK4.out.put h22 HOG.out (by simpa using HON.out) h21); clear h21 h22 h23) | ((with_reducible refine gate_dst (N := 45) rfl ?_); refine loadB35 rfl (.tmp 7) rfl og rfl x HG.out.len HK5.out.head ?_) | ((with_reducible refine gate_dst (N := 46) rfl ?_); refine build41o rfl (.tmp 45) rfl x HG.out.len rfl ?_) | (refine store41 rfl rfl (.tmp 2) (.tmp 46) rfl rg rfl (stepOp x) none 0 0 HG.out.len rfl (m := step0) rfl HK5.out.tail.head ?_; intro w6 h21 h22 h23; have HK6 := Aside0.mk (HK5.out.tail.put h22 HRG.out (by simp) h21); clear h21 h22 h23))
  refine bodyPost_ret (results_ct rfl _ _ rg 41 _ (0, 0) _ rfl HK6.out.head Tryd.underlying41 rfl (by rw [List.size_toArray, stepC_len (stepOp x) _ HG.out.len]; exact size41)) rfl ?_
  unfold StepEnd
  rw [HF.out]
  exact ⟨stepOp x, .slice none 0 0, by rw [Option.isSome_map]; rfl, good_op HG.out, (fun x' h => by
    obtain ⟨o, ho, rfl⟩ := Option.map_eq_some_iff.1 h
    rw [HX.out o ho]), Kd.R_nil _ _ _ _ _, HK6.out.below⟩
set_option maxRecDepth 10000 in
set_option maxHeartbeats 4000000 in
theorem step_calls_arm1 (w : World) (hE : Env w) (s : ByteArray) (hs : s.size ≤ 2147483648) (hh : (split1 32 s.data.toList).getD 0 [] = sArm) (hlen : (split1 32 s.data.toList).length ≠ 2) : Calls Tryd.prog 20 #[.string s] w (StepEnd w (stepOf s.data.toList)) := by
  have HK := Aside0.mk (Keeps.refl w)
  have HE := Aside0.mk hE
  have HSP := Aside0.mk (fun W hW => split_calls W (hE.below hW) s hs)
  have HF := Aside0.mk (step_arm hh)
  rw [if_neg hlen] at HF
  obtain ⟨l, hl⟩ : ∃ l, l = split1 32 s.data.toList := ⟨_, rfl⟩
  rw [← hl] at HSP hh hlen
  have hq : ((l.length : Int) == 2) = false := by rw [beq_eq_false_iff_ne]; omega
  have hq3 : ¬ (l.length : Int) = 2 := by omega
  have HH := Aside0.mk (show str (l.getD 0 []) = ⟨#[97, 114, 109]⟩ by rw [hh]; rfl)
  clear hl hh hE hlen
  go_enter Tryd.func20, Tryd.ntmps20
  go_wp2_with (first | ((with_reducible refine gate_dst (N := 2) rfl ?_); refine alloc41 rfl rfl ?_; intro w1 rg h1 h2 h3; have HK1 := Aside0.mk (HK.out.new h3 h2); have HRG := Aside0.mk h1; clear h1 h2 h3) | (go_at_call 31; refine (HSP.out _ HK1.out.below).mono ?_; rintro e w2 ⟨rfl, hp, hbb⟩; have HK2 := Aside0.mk (HK1.out.step hbb); have HP := Aside0.mk hp; have hpos : 0 < l.length := List.length_pos_iff.2 hp.ne; have l0 := hp.cell 0 hpos; rw [HH.out] at l0; clear hbb hp) | ((with_reducible refine gate_dst (N := 25) rfl ?_); refine build41z rfl rfl ?_) | (refine store41 rfl rfl (.tmp 2) (.tmp 25) rfl rg rfl step0 none 0 0 rfl rfl (m := step0) rfl HK2.out.head ?_; intro w5 h21 h22 h23; have HK5 := Aside0.mk (HK2.out.put h22 HRG.out (by simp) h21); clear h21 h22 h23))
  refine bodyPost_ret (results_ct rfl _ _ rg 41 _ (0, 0) _ rfl HK5.out.head Tryd.underlying41 rfl (by rw [List.size_toArray, stepC_len step0 _ rfl]; exact size41)) rfl ?_
  unfold StepEnd
  rw [HF.out]
  exact ⟨step0, _, rfl, good0, (fun x' h => by cases h), Kd.R_nil _ _ _ _ _, HK5.out.below⟩
set_option maxRecDepth 10000 in
set_option maxHeartbeats 4000000 in
theorem step_calls_arm2 (w : World) (hE : Env w) (s : ByteArray) (hs : s.size ≤ 2147483648) (hh : (split1 32 s.data.toList).getD 0 [] = sArm) (hlen : (split1 32 s.data.toList).length = 2) (hn : numOf ((split1 32 s.data.toList).getD 1 []) = none) : Calls Tryd.prog 20 #[.string s] w (StepEnd w (stepOf s.data.toList)) := by
  have HK := Aside0.mk (Keeps.refl w)
  have HE := Aside0.mk hE
  have HSP := Aside0.mk (fun W hW => split_calls W (hE.below hW) s hs)
  have HF := Aside0.mk (step_arm hh)
  rw [if_pos hlen, hn] at HF
  obtain ⟨l, hl⟩ : ∃ l, l = split1 32 s.data.toList := ⟨_, rfl⟩
  rw [← hl] at HSP hh hlen hn
  rw [hlen] at HSP
  have HH := Aside0.mk (show str (l.getD 0 []) = ⟨#[97, 114, 109]⟩ by rw [hh]; rfl)
  have HL := Aside0.mk hlen
  obtain ⟨f, hf⟩ : ∃ f, f = l.getD 1 [] := ⟨_, rfl⟩
  rw [← hf] at hn
  have HFE := Aside0.mk hf
  have HIS := Aside0.mk (show (numOf (str f).data.toList).isSome = false by rw [str_data, hn]; rfl)
  clear hl hh hE hlen hf hn
  go_enter Tryd.func20, Tryd.ntmps20
  go_wp2_with (first | ((with_reducible refine gate_dst (N := 2) rfl ?_); refine alloc41 rfl rfl ?_; intro w1 rg h1 h2 h3; have HK1 := Aside0.mk (HK.out.new h3 h2); have HRG := Aside0.mk h1; clear h1 h2 h3) | (go_at_call 31; refine (HSP.out _ HK1.out.below).mono ?_; rintro e w2 ⟨rfl, hp, hbb⟩; have HK2 := Aside0.mk (HK1.out.step hbb); have l0 := hp.cell 0 (by rw [HL.out]; omega); have l1 := hp.cell 1 (by rw [HL.out]; omega); have HFS := Aside0.mk (show (str f).size ≤ 281474976710656 by rw [Lib.size_eq, str_data, HFE.out]; exact hp.len _ (get_mem (by rw [HL.out]; omega))); rw [HH.out] at l0; rw [← HFE.out] at l1; clear hbb hp) | (go_at_call 33; refine (number_calls _ (HE.out.below HK2.out.below) (str f) HFS.out).mono ?_; rintro e w3 ⟨v, rfl, _, hvb, hbb⟩; rw [HIS.out]; have HK3 := Aside0.mk (HK2.out.step hbb); have HVB := Aside0.mk hvb; clear hbb hvb) | ((with_reducible refine gate_dst (N := 34) rfl ?_); refine build41a rfl (.tmp 33) rfl v rfl ?_) | (refine store41 rfl rfl (.tmp 2) (.tmp 34) rfl rg rfl (stepArm v) none 0 0 rfl rfl (m := step0) rfl HK3.out.head ?_; intro w5 h21 h22 h23; have HK5 := Aside0.mk (HK3.out.put h22 HRG.out (by simp) h21); clear h21 h22 h23))
  refine bodyPost_ret (results_ct rfl _ _ rg 41 _ (0, 0) _ rfl HK5.out.head Tryd.underlying41 rfl (by rw [List.size_toArray, stepC_len (stepArm v) _ rfl]; exact size41)) rfl ?_
  unfold StepEnd
  rw [HF.out]
  exact ⟨stepArm v, _, rfl, good_arm HVB.out, (fun x' h => by cases h), Kd.R_nil _ _ _ _ _, HK5.out.below⟩
set_option maxRecDepth 10000 in
set_option maxHeartbeats 4000000 in
theorem step_calls_arm3 (w : World) (hE : Env w) (s : ByteArray) (hs : s.size ≤ 2147483648) (hh : (split1 32 s.data.toList).getD 0 [] = sArm) (hlen : (split1 32 s.data.toList).length = 2) (n : Nat) (hn : numOf ((split1 32 s.data.toList).getD 1 []) = some n) : Calls Tryd.prog 20 #[.string s] w (StepEnd w (stepOf s.data.toList)) := by
  have HK := Aside0.mk (Keeps.refl w)
  have HE := Aside0.mk hE
  have HSP := Aside0.mk (fun W hW => split_calls W (hE.below hW) s hs)
  have HF := Aside0.mk (step_arm hh)
  rw [if_pos hlen, hn] at HF
  obtain ⟨l, hl⟩ : ∃ l, l = split1 32 s.data.toList := ⟨_, rfl⟩
  rw [← hl] at HSP hh hlen hn
  rw [hlen] at HSP
  have HH := Aside0.mk (show str (l.getD 0 []) = ⟨#[97, 114, 109]⟩ by rw [hh]; rfl)
  have HL := Aside0.mk hlen
  have hn6 := ((numOf_iff _ _).1 hn).1
  obtain ⟨f, hf⟩ : ∃ f, f = l.getD 1 [] := ⟨_, rfl⟩
  rw [← hf] at hn
  have HFE := Aside0.mk hf
  have HIS := Aside0.mk (show (numOf (str f).data.toList).isSome = true by rw [str_data, hn]; rfl)
  have HNF := Aside0.mk (show numOf (str f).data.toList = some n by rw [str_data, hn])
  clear hl hh hE hlen hf hn
  go_enter Tryd.func20, Tryd.ntmps20
  go_wp2_with (first | ((with_reducible refine gate_dst (N := 2) rfl ?_); refine alloc41 rfl rfl ?_; intro w1 rg h1 h2 h3; have HK1 := Aside0.mk (HK.out.new h3 h2); have HRG := Aside0.mk h1; clear h1 h2 h3) | (go_at_call 31; refine (HSP.out _ HK1.out.below).mono ?_; rintro e w2 ⟨rfl, hp, hbb⟩; have HK2 := Aside0.mk (HK1.out.step hbb); have l0 := hp.cell 0 (by rw [HL.out]; omega); have l1 := hp.cell 1 (by rw [HL.out]; omega); have HFS := Aside0.mk (show (str f).size ≤ 281474976710656 by rw [Lib.size_eq, str_data, HFE.out]; exact hp.len _ (get_mem (by rw [HL.out]; omega))); rw [HH.out] at l0; rw [← HFE.out] at l1; clear hbb hp) | (go_at_call 33; refine (number_calls _ (HE.out.below HK2.out.below) (str f) HFS.out).mono ?_; rintro e w3 ⟨v, rfl, hv, hvb, hbb⟩; rw [HIS.out]; obtain rfl := hv n HNF.out; have HK3 := Aside0.mk (HK2.out.step hbb); have HVB := Aside0.mk hvb; clear hbb hvb hv) | ((with_reducible refine gate_dst (N := 34) rfl ?_); refine build41a rfl (.tmp 33) rfl n rfl ?_) | (refine store41 rfl rfl (.tmp 2) (.tmp 34) rfl rg rfl (stepArm n) none 0 0 rfl rfl (m := step0) rfl HK3.out.head ?_; intro w5 h21 h22 h23; have HK5 := Aside0.mk (HK3.out.put h22 HRG.out (by simp) h21); clear h21 h22 h23))
  refine bodyPost_ret (results_ct rfl _ _ rg 41 _ (0, 0) _ rfl HK5.out.head Tryd.underlying41 rfl (by rw [List.size_toArray, stepC_len (stepArm n) _ rfl]; exact size41)) rfl ?_
  unfold StepEnd
  rw [HF.out]
  refine ⟨stepArm n, _, ?_, good_arm (by omega), (fun x' h => by
    change (if 0 < n then some (stepArm n) else none) = some x' at h
    split at h
    · injection h
    · cases h), Kd.R_nil _ _ _ _ _, HK5.out.below⟩
  by_cases h0 : 0 < n
  · simp [h0]
  · simp [h0]
theorem step_calls (w : World) (hE : Env w) (s : ByteArray) (hs : s.size ≤ 2147483648) : Calls Tryd.prog 20 #[.string s] w (StepEnd w (stepOf s.data.toList)) := by
  by_cases h1 : (split1 32 s.data.toList).getD 0 [] = sCrash
  · exact step_calls_crash w hE s hs h1
  · by_cases h2 : (split1 32 s.data.toList).getD 0 [] = sArm
    · by_cases h3 : (split1 32 s.data.toList).length = 2
      · rcases h4 : numOf ((split1 32 s.data.toList).getD 1 []) with _ | n
        · exact step_calls_arm2 w hE s hs h2 h3 h4
        · exact step_calls_arm3 w hE s hs h2 h3 n h4
      · exact step_calls_arm1 w hE s hs h2 h3
    · exact step_calls_op w hE s hs h1 h2
end
section
set_option linter.unusedSimpArgs false
set_option linter.unusedVariables false
open Go.RowKit Go.Proofs.YtagpldkgkchfcaaDoorW.PrintWords Go.Proofs.YtagpldkgkchfcaaDoorW.PrintLast Go.Proofs.YtagpldkgkchfcaaDoorW.PrintMore Arr PTextPrints

theorem trim10 (l : Bs) : Lib.trimSuffix (l ++ [10]) [10] = l := by
  unfold Lib.trimSuffix
  rw [if_pos (by unfold Lib.hasSuffix; simp)]
  simp
theorem step_len {x : Step} (h : Good x) (h2 : x.keep.length ≤ 1000) : (Lib.join (parts x) [32]).length ≤ 1000000 := by
  have h3 := line_len h
  unfold lineOf at h3
  rw [List.length_append] at h3
  omega
theorem loadW41 {ops : Array Oper} {rest : List Oper} {o : Oper} {a : Act} {Q : Exit → Act → World → Prop} {W : World} (hw : Region.wanted o (yielded ops a.tmps) = true) (p : Operand) (ho : o.op = .load 41 p) (g : Nat) (hp : a.eval p = .pointer (some ⟨g, 0, none⟩)) (x : Step) (v : Value) (hl : x.op.data.length = 32) (hb : Blk W g 41 (stepC x v))
    (h : wpList Tryd.prog ops Q rest (a.put o.dst (.agg (stepC x v).toArray)) W) : wpList Tryd.prog ops Q (o :: rest) a W := by
  unfold wpList
  rw [if_pos hw]
  exact Or.inl (wp_load_row 41 p ho g hp 41 _ (0, 0) _ hb Tryd.underlying41 rfl (by rw [List.size_toArray, stepC_len x v hl]; exact size41) h)
def PlainEnd (w : World) (x : Step) (e : Ending) (w' : World) : Prop := e = .returned (.bool (plainB x)) ∧ Below w.heap.size w w'
set_option maxRecDepth 10000 in
set_option maxHeartbeats 4000000 in
theorem plain_no (w : World) (hE : Env w) (x : Step) (hG : Good x) (A : Option Addr) (c : Nat) (hC : (Kd.int .i64).C w A x.keep.length x.keep) (hc : x.keep.length ≤ c) (hl : x.keep.length ≤ 1000) (hst : stepOf (Lib.join (parts x) [32]) = none) : Calls Tryd.prog 17 #[.agg (stepC x (.slice A x.keep.length c)).toArray] w (PlainEnd w x) := by
  have HK := Aside0.mk (Keeps.refl w)
  have HE := Aside0.mk hE
  have HLN := Aside0.mk (fun W hW => line_calls W (hE.below hW) x hG A c (Kd.C_below hC hW) hc hl)
  have HLEN := Aside0.mk hG.len
  have HF := Aside0.mk (show plainB x = false by unfold plainB; rw [hst])
  obtain ⟨q, hq⟩ : ∃ q, q = str (Lib.join (parts x) [32]) := ⟨_, rfl⟩
  have HIS := Aside0.mk (show stepOf q.data.toList = none by rw [hq, str_data]; exact hst)
  have HQ := Aside0.mk (show q.size ≤ 2147483648 by rw [hq, Lib.size_eq, str_data]; have := step_len hG hl; omega)
  have hll := line_len hG
  have HTR := Aside0.mk (fun W => (Tryd.strings_TrimSuffix (str (lineOf x)) ⟨#[10]⟩ W (by rw [Lib.size_eq, str_data]; omega)).mono (R' := fun e w' => e = .returned (.string q) ∧ w' = W) (fun e w' h => ⟨by rw [h.1, hq, str_data]; exact congrArg (fun z : Bs => Ending.returned (.string (str z))) (trim10 _), h.2⟩))
  clear hq hst hE hG hC hll
  go_enter Tryd.func17, Tryd.ntmps17
  go_wp2_with (first | ((with_reducible refine gate_dst (N := 1) rfl ?_); refine box41 rfl (.tmp 0) rfl x _ rfl ?_; intro w1 bg h1 h2 h3; have HK1 := Aside0.mk (HK.out.new h3 h2); clear h1 h2 h3) | ((with_reducible refine gate_dst (N := 6) rfl ?_); refine loadB41 rfl (.tmp 1) rfl bg rfl x _ HLEN.out HK1.out.head ?_) | (go_at_call 26; refine (HLN.out _ HK1.out.below).mono ?_; rintro e w2 ⟨rfl, hbb⟩; have HK2 := Aside0.mk (HK1.out.step hbb); clear hbb) | (go_at_call 25; refine (HTR.out _).mono ?_; rintro e w3 ⟨rfl, rfl⟩) | (go_at_call 20; refine (step_calls _ (HE.out.below HK2.out.below) q HQ.out).mono ?_; unfold StepEnd; rw [HIS.out]; rintro e w4 ⟨y, v, rfl, hg, hx, hv, hbb⟩; obtain ⟨Ay, cy, rfl, hcy, _⟩ := Kd.R_reads hv; have HK4 := Aside0.mk (HK2.out.step hbb); have HG := Aside0.mk hg; clear hbb hg hx hv hcy) | ((with_reducible refine gate_dst (N := 3) rfl ?_); refine alloc41 rfl rfl ?_; intro w5 rg h1 h2 h3; have HK5 := Aside0.mk (HK4.out.new h3 h2); have HRG := Aside0.mk (show w.heap.size ≤ rg from Nat.le_trans HK4.out.size h1); have HNE := Aside0.mk (show bg ≠ rg by have a1 := HK4.out.head.lt; have a2 := h1; omega); clear h1 h2 h3) | (refine store41 rfl rfl (.tmp 3) (.tmp 10) rfl rg rfl y Ay y.keep.length cy HG.out.len rfl (m := step0) rfl HK5.out.head ?_; intro w6 h21 h22 h23; have HK6 := Aside0.mk (HK5.out.put h22 HRG.out (by simpa using HNE.out) h21); clear h21 h22 h23))
  go_ret
  unfold PlainEnd
  rw [HF.out]
  exact ⟨rfl, HK6.out.below⟩
set_option maxRecDepth 10000 in
set_option maxHeartbeats 4000000 in
theorem plain_yes (w : World) (hE : Env w) (x : Step) (hG : Good x) (A : Option Addr) (c : Nat) (hC : (Kd.int .i64).C w A x.keep.length x.keep) (hc : x.keep.length ≤ c) (hl : x.keep.length ≤ 1000) (z : Step) (hst : stepOf (Lib.join (parts x) [32]) = some z) : Calls Tryd.prog 17 #[.agg (stepC x (.slice A x.keep.length c)).toArray] w (PlainEnd w x) := by
  have HK := Aside0.mk (Keeps.refl w)
  have HE := Aside0.mk hE
  have HLN := Aside0.mk (fun W hW => line_calls W (hE.below hW) x hG A c (Kd.C_below hC hW) hc hl)
  have HLEN := Aside0.mk hG.len
  have HGX := Aside0.mk hG
  have HC := Aside0.mk hC
  have HF := Aside0.mk (show plainB x = decide (x = z) by unfold plainB; rw [hst])
  obtain ⟨q, hq⟩ : ∃ q, q = str (Lib.join (parts x) [32]) := ⟨_, rfl⟩
  have HIS := Aside0.mk (show stepOf q.data.toList = some z by rw [hq, str_data]; exact hst)
  have HQ := Aside0.mk (show q.size ≤ 2147483648 by rw [hq, Lib.size_eq, str_data]; have := step_len hG hl; omega)
  have hll := line_len hG
  have HTR := Aside0.mk (fun W => (Tryd.strings_TrimSuffix (str (lineOf x)) ⟨#[10]⟩ W (by rw [Lib.size_eq, str_data]; omega)).mono (R' := fun e w' => e = .returned (.string q) ∧ w' = W) (fun e w' h => ⟨by rw [h.1, hq, str_data]; exact congrArg (fun z : Bs => Ending.returned (.string (str z))) (trim10 _), h.2⟩))
  clear hq hst hE hG hC hll
  go_enter Tryd.func17, Tryd.ntmps17
  go_wp2_with (first | ((with_reducible refine gate_dst (N := 1) rfl ?_); refine box41 rfl (.tmp 0) rfl x _ rfl ?_; intro w1 bg h1 h2 h3; have HK1 := Aside0.mk (HK.out.new h3 h2); clear h1 h2 h3) | ((with_reducible refine gate_dst (N := 6) rfl ?_); refine loadB41 rfl (.tmp 1) rfl bg rfl x _ HLEN.out HK1.out.head ?_) | (go_at_call 26; refine (HLN.out _ HK1.out.below).mono ?_; rintro e w2 ⟨rfl, hbb⟩; have HK2 := Aside0.mk (HK1.out.step hbb); clear hbb) | (go_at_call 25; refine (HTR.out _).mono ?_; rintro e w3 ⟨rfl, rfl⟩) | (go_at_call 20; refine (step_calls _ (HE.out.below HK2.out.below) q HQ.out).mono ?_; unfold StepEnd; rw [HIS.out]; rintro e w4 ⟨y, v, rfl, hg, hx, hv, hbb⟩; obtain rfl := hx z rfl; obtain ⟨Ay, cy, rfl, hcy, _⟩ := Kd.R_reads hv; have HK4 := Aside0.mk (HK2.out.step hbb); have HG := Aside0.mk hg; have HV := Aside0.mk hv; have HCY := Aside0.mk hcy; clear hbb hg hx hv hcy) | ((with_reducible refine gate_dst (N := 3) rfl ?_); refine alloc41 rfl rfl ?_; intro w5 rg h1 h2 h3; have HK5 := Aside0.mk (HK4.out.new h3 h2); have HRG := Aside0.mk (show w.heap.size ≤ rg from Nat.le_trans HK4.out.size h1); have HNE := Aside0.mk (show bg ≠ rg by have a1 := HK4.out.head.lt; have a2 := h1; omega); have HV5 := Aside0.mk (Kd.R_below HV.out (grown_fresh h3)); clear h1 h2 h3) | (refine store41 rfl rfl (.tmp 3) (.tmp 10) rfl rg rfl y Ay y.keep.length cy HG.out.len rfl (m := step0) rfl HK5.out.head ?_; intro w6 h21 h22 h23; have HK6 := Aside0.mk (HK5.out.put h22 HRG.out (by simpa using HNE.out) h21); have HV6 := Aside0.mk (rk_row HV5.out HK5.out.head (by decide) h22); clear h21 h22 h23) | ((with_reducible refine gate_dst (N := 14) rfl ?_); refine loadW41 (by rfl) (.tmp 1) rfl bg rfl x _ HLEN.out HK6.out.tail.head ?_) | ((with_reducible refine gate_dst (N := 15) rfl ?_); refine loadW41 (by rfl) (.tmp 3) rfl rg rfl y _ HG.out.len HK6.out.head ?_) | (go_at_call 27; refine (same_calls _ x y A Ay c cy HGX.out HG.out (Kd.C_below HC.out HK6.out.below) (Kd.R_reads' HV6.out).2.2 hc HCY.out (by omega)).mono ?_; rintro e w7 ⟨rfl, hbb⟩; have HK7 := Aside0.mk (HK6.out.step hbb); clear hbb))
  go_ret
  unfold PlainEnd
  rw [HF.out]
  exact ⟨rfl, HK7.out.below⟩
theorem plain_calls (w : World) (hE : Env w) (x : Step) (hG : Good x) (A : Option Addr) (c : Nat) (hC : (Kd.int .i64).C w A x.keep.length x.keep) (hc : x.keep.length ≤ c) (hl : x.keep.length ≤ 1000) : Calls Tryd.prog 17 #[.agg (stepC x (.slice A x.keep.length c)).toArray] w (PlainEnd w x) := by
  rcases hst : stepOf (Lib.join (parts x) [32]) with _ | z
  · exact plain_no w hE x hG A c hC hc hl hst
  · exact plain_yes w hE x hG A c hC hc hl z hst
end
end Go.Proofs.YtagpldkgkchfcaaDoor.Txt
