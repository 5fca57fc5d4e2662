/- Layer 25: walks of Parse and of the first roads of the document Line. -/
import Derived.Test.YtagpldkgkchfcaaDoorTxtF
namespace Go.Proofs.YtagpldkgkchfcaaDoor.Txt
section
set_option linter.unusedSimpArgs false
set_option linter.unusedVariables false
open Go.RowKit Go.Proofs.YtagpldkgkchfcaaDoorW.PrintWords Go.Proofs.YtagpldkgkchfcaaDoorW.PrintLast Go.Proofs.YtagpldkgkchfcaaDoorW.PrintMore Arr PTextPrints

abbrev RO (w : World) (B : Nat) (v : Value) (l : List Step) : Prop := Kd.R k41 41 w B (fun _ => True) v l
theorem ro_row {w w1 w2 : World} {B g : Nat} {v : Value} {l : List Step} (h : RO w B v l) (hg : w.heap.size ≤ g) (h1 : Below w.heap.size w w1) (h2 : w1.grownBy w2 (some g)) : RO w2 B v l :=
  Kd.R_mono (Kd.R_grown (Kd.R_below (Kd.R_elderB h g hg) h1) h2 (fun k hk => by simpa using hk.2)) (fun _ _ => trivial)
section
variable {ops : Array Oper} {rest : List Oper} {o : Oper} {a : Act} {Q : Exit → Act → World → Prop} {w0 W : World} {B : Nat}
/-- A step appended. -/
theorem app41 (hgd : o.guard = none) (s x : Operand) (ho : o.op = .call { callee := .builtin .append, args := #[s, x], argTypes := #[23, 23] })
    (v : Value) (l : List Step) (p : Step) (vk : Value) (hs : a.eval s = v) (hx : a.eval x = .slice (some ⟨W.heap.size, 0, none⟩) 1 1) (hp : p.op.data.length = 32) (hk : RK W B vk p.keep) (HO : RO W B v l) (HB : Below B w0 W) (hb : B ≤ W.heap.size) (hl : l.length ≤ 4294967296)
    (h : ∀ v1 w1, RO w1 B v1 (l ++ [p]) → Below B w0 w1 → wpList Tryd.prog ops Q rest (a.put o.dst v1) w1) : wpList Tryd.prog ops Q (o :: rest) a (W.alloc (.cells (stepC p vk).toArray 41)) :=
  Kd.R_append k41 (w0 := w0) B hgd s x 23 41 (.agg (stepC step0 (.slice none 0 0)).toArray) 128 ho Tryd.underlying23 info41 (by rw [k41_sz]; rfl) (by rw [k41_sz]; decide) (by decide) v l p (stepC p vk) (fun _ => True) (fun k => True ∧ some k ≠ v.ownBlock) hs hx
    (k41_mkM W B _ p vk hp (Kd.R_apartR hk HO (fun q hq => by
      rcases List.mem_cons.1 hq with rfl | hq
      · decide
      · cases hq))) (fun _ hk => hk) (fun _ _ => trivial) HO HB hb (by omega)
    fun v1 w1 h1 h2 h3 h4 => h v1 w1 h1 h2
end
theorem cut_miss (c : ByteArray) (h : 10 ∉ c.data.toList) (hc : c.size ≤ 2147483648) (W : World) (hE : Env W) : Calls Tryd.prog 19 #[.string c, .string ⟨#[10]⟩] W fun e w' => (∃ a b, e = .returned (.tuple #[.string a, .string b, .bool false])) ∧ Below W.heap.size W w' := by
  obtain ⟨m, hm⟩ := hE.mx
  refine (Tryd.strings_Cut c ⟨#[10]⟩ m W (by omega) hm).mono ?_
  rintro e w' ⟨rfl, n, rfl⟩
  refine ⟨⟨⟨(Lib.cut c.data.toList [10]).1.toArray⟩, ⟨(Lib.cut c.data.toList [10]).2.1.toArray⟩, ?_⟩, pw_below_drewN (Below.refl _ _) n⟩
  show Ending.returned (.tuple #[_, _, .bool (Lib.cut c.data.toList [10]).2.2]) = _
  rw [cut_none1 10 _ h]
theorem cut_hit (c : ByteArray) (x r : Bs) (hx : 10 ∉ x) (h : c.data.toList = x ++ 10 :: r) (hc : c.size ≤ 2147483648) (W : World) (hE : Env W) : Calls Tryd.prog 19 #[.string c, .string ⟨#[10]⟩] W fun e w' => e = .returned (.tuple #[.string (str x), .string (str r), .bool true]) ∧ Below W.heap.size W w' := by
  obtain ⟨m, hm⟩ := hE.mx
  refine (Tryd.strings_Cut c ⟨#[10]⟩ m W (by omega) hm).mono ?_
  rintro e w' ⟨rfl, n, rfl⟩
  refine ⟨?_, pw_below_drewN (Below.refl _ _) n⟩
  show Ending.returned (.tuple #[.string (str (Lib.cut c.data.toList [10]).1), .string (str (Lib.cut c.data.toList [10]).2.1), .bool (Lib.cut c.data.toList [10]).2.2]) = _
  rw [h, cut_some1 10 x r hx]
def szOf : Value → Nat
  | .string b => b.size
  | _ => 0
def ParseEnd (w : World) (r : Res) (e : Ending) (w' : World) : Prop := match r with
  | .ok l => ∃ v, e = .returned (.tuple #[v, .int .i64 0, .int .i64 0]) ∧ RO w' w.heap.size v l ∧ (∀ x ∈ l, Good x) ∧ Below w.heap.size w w'
  | .err n => e = .returned (.tuple #[.slice none 0 0, .int .i64 n, .int .i64 16]) ∧ Below w.heap.size w w'
set_option maxRecDepth 10000 in
set_option maxHeartbeats 8000000 in
theorem parse_calls (w : World) (hE : Env w) (s : ByteArray) (hs : s.size ≤ 2147483648) : Calls Tryd.prog 11 #[.string s] w (ParseEnd w (parseOf s.data.toList)) := by
  have HK := Aside0.mk (Keeps.refl w)
  have HE := Aside0.mk hE
  obtain ⟨R, hR⟩ : ∃ R, R = parseOf s.data.toList := ⟨_, rfl⟩
  have HR0 := Aside0.mk (show R = (parseAt (0 + 1) s.data.toList).behind [] by rw [behind_nil, hR]; rfl)
  rw [← hR]
  clear hE hR
  go_enter Tryd.func11, Tryd.ntmps11
  go_wp2_with fail
  go_loopw [0, 5, 6, 7, 8, 9, 10] (fun s0 out n _ _ _ _ wr => ∃ (cur : ByteArray) (k : Nat) (A : Option Addr) (c : Nat) (xs : List Step), s0 = .string cur ∧ k + cur.size ≤ s.size ∧ n = .int .i64 ((k : Int) + 1) ∧ out = .slice A k c ∧ Aside0 (xs.length = k) ∧ Aside0 (RO wr w.heap.size (.slice A k c) xs) ∧ Aside0 (R = (parseAt (k + 1) cur.data.toList).behind xs) ∧ Aside0 (∀ x ∈ xs, Good x) ∧ Aside0 (Keeps w [] wr)) (fun s0 _ _ _ _ _ _ _ => szOf s0)
  case atStart => exact ⟨s, 0, none, 0, [], rfl, by omega, rfl, rfl, ⟨rfl⟩, ⟨Kd.R_nil _ _ _ _ _⟩, HR0, ⟨fun x hx => by cases hx⟩, HK⟩
  case round =>
    obtain ⟨cur, k, A, c, xs, rfl, hk, rfl, rfl, HL, HO, HS, HG, HB⟩ := hrel
    rename World => wr
    have hz0 : cur.data.toList.length = cur.size := (Lib.size_eq cur).symm
    by_cases hz : cur.data.toList = []
    · have hq : (cur.toList == []) = true := by rw [Lib.toList_data, hz]; rfl
      have hq2 : cur.toList = [] := by rw [Lib.toList_data, hz]
      have HF := Aside0.mk (show R = .ok xs by rw [HS.out, hz, parseAt_nil]; simp [Res.behind])
      clear hz hz0
      go_wp2_with fail
      go_ret3
      unfold ParseEnd
      rw [HF.out]
      exact ⟨_, rfl, HO.out, HG.out, HB.out.below⟩
    · have hq : (cur.toList == []) = false := by rw [Lib.toList_data, beq_eq_false_iff_ne]; exact hz
      have hq2 : ¬ cur.toList = [] := by rw [Lib.toList_data]; exact hz
      have hcs : cur.size ≤ 2147483648 := by omega
      rcases mem_cases 10 cur.data.toList with hno | ⟨x, r, hx, hno⟩
      · have HC := Aside0.mk (cut_miss cur hno hcs)
        have HF := Aside0.mk (show R = .err (k + 1) by rw [HS.out, parseAt_none _ hno hz]; simp [Res.behind])
        clear hno hz hz0
        go_wp2_with (first | (go_at_call 19; refine (HC.out _ (HE.out.below HB.out.below)).mono ?_; rintro e w2 ⟨⟨a, b, rfl⟩, hbb⟩; have HB2 := Aside0.mk (HB.out.step hbb); clear hbb))
        go_ret3
        unfold ParseEnd
        rw [HF.out]
        exact ⟨rfl, HB2.out.below⟩
      · have HC := Aside0.mk (cut_hit cur x r hno hx hcs)
        have hlen := congrArg List.length hx
        rw [hz0, List.length_append, List.length_cons] at hlen
        have HXS := Aside0.mk (show (str x).size ≤ 2147483648 by rw [Lib.size_eq, str_data]; omega)
        have hrs : (str r).size = r.length := by rw [Lib.size_eq, str_data]
        have HLN := Aside0.mk (show k + 1 + (str r).size ≤ s.size ∧ (str r).size < cur.size by omega)
        rcases hst : stepOf x with _ | z
        · have HF := Aside0.mk (show R = .err (k + 1) by rw [HS.out, hx, parseAt_some _ hno, hst]; simp [Res.behind])
          have HST := Aside0.mk (show stepOf (str x).data.toList = none by rw [str_data]; exact hst)
          clear hno hx hz hz0 hlen hrs hst
          go_wp2_with (first | (go_at_call 19; refine (HC.out _ (HE.out.below HB.out.below)).mono ?_; rintro e w2 ⟨rfl, hbb⟩; have HB2 := Aside0.mk (HB.out.step hbb); clear hbb) | (go_at_call 20; refine (step_calls _ (HE.out.below HB2.out.below) (str x) HXS.out).mono ?_; unfold StepEnd; rw [HST.out]; rintro e w4 ⟨y, v, rfl, hg, hx, hv, hbb⟩; obtain ⟨Ay, cy, rfl, hcy, _⟩ := Kd.R_reads hv; have HB4 := Aside0.mk (HB2.out.step hbb); have HG1 := Aside0.mk hg; clear hbb hg hx hv hcy) | ((with_reducible refine gate_dst (N := 10) rfl ?_); refine alloc41 rfl rfl ?_; intro w5 rg h1 h2 h3; have HB5 := Aside0.mk (HB4.out.new h3 h2); have HRG := Aside0.mk (show w.heap.size ≤ rg from Nat.le_trans HB4.out.size h1); clear h1 h2 h3) | (refine store41 rfl rfl (.tmp 10) (.tmp 27) rfl rg rfl y Ay y.keep.length cy HG1.out.len rfl (m := step0) rfl HB5.out.head ?_; intro w6 h21 h22 h23; have HB6 := Aside0.mk (HB5.out.put h22 HRG.out (by simp) h21); clear h21 h22 h23))
          go_ret3
          unfold ParseEnd
          rw [HF.out]
          exact ⟨rfl, HB6.out.below⟩
        · have HS2 := Aside0.mk (show R = (parseAt (k + 1 + 1) (str r).data.toList).behind (xs ++ [z]) by rw [HS.out, hx, parseAt_some _ hno, hst, str_data]; exact behind_push _ _ _)
          have HST := Aside0.mk (show stepOf (str x).data.toList = some z by rw [str_data]; exact hst)
          clear hno hx hz hz0 hlen hrs hst
          go_wp2_with (first | (go_at_call 19; refine (HC.out _ (HE.out.below HB.out.below)).mono ?_; rintro e w2 ⟨rfl, hbb⟩; have HB2 := Aside0.mk (HB.out.step hbb); have HO2 := Aside0.mk (Kd.R_below HO.out hbb); clear hbb) | (go_at_call 20; refine (step_calls _ (HE.out.below HB2.out.below) (str x) HXS.out).mono ?_; unfold StepEnd; rw [HST.out]; rintro e w4 ⟨y, v, rfl, hg, hx, hv, hbb⟩; obtain rfl := hx z rfl; obtain ⟨Ay, cy, rfl, hcy, _⟩ := Kd.R_reads hv; have HB4 := Aside0.mk (HB2.out.step hbb); have HO4 := Aside0.mk (Kd.R_below HO2.out hbb); have HG1 := Aside0.mk hg; have HV := Aside0.mk (Kd.R_lower hv HB2.out.size); clear hbb hg hx hv hcy) | ((with_reducible refine gate_dst (N := 10) rfl ?_); refine alloc41 rfl rfl ?_; intro w5 rg h1 h2 h3; have HB5 := Aside0.mk (HB4.out.new h3 h2); have HRG := Aside0.mk (show w.heap.size ≤ rg from Nat.le_trans HB4.out.size h1); have HRG2 := Aside0.mk h1; have HG5 := Aside0.mk (grown_fresh h3); have HV5 := Aside0.mk (Kd.R_below HV.out (grown_fresh h3)); clear h1 h2 h3) | (refine store41 rfl rfl (.tmp 10) (.tmp 27) rfl rg rfl y Ay y.keep.length cy HG1.out.len rfl (m := step0) rfl HB5.out.head ?_; intro w6 h21 h22 h23; have HB6 := Aside0.mk (HB5.out.put h22 HRG.out (by simp) h21); have HO6 := Aside0.mk (ro_row HO4.out HRG2.out HG5.out h22); have HV6 := Aside0.mk (rk_row HV5.out HB5.out.head (by decide) h22); clear h21 h22 h23) | ((with_reducible refine gate_dst (N := 33) rfl ?_); refine loadB41 rfl (.tmp 10) rfl rg rfl y _ HG1.out.len HB6.out.head ?_) | ((with_reducible refine gate_dst (N := 34) rfl ?_); refine Arr.wpl_lit rfl 23 41 (.tmp 33) rfl Tryd.underlying23 42 128 _ (by exact info41) (by decide) (by decide) (stepC y (.slice Ay y.keep.length cy)) (stepC_len _ _ HG1.out.len) rfl ?_) | ((with_reducible refine gate_dst (N := 35) rfl ?_); refine app41 rfl (.tmp 32) (.tmp 34) rfl _ xs y _ rfl rfl HG1.out.len HV6.out HO6.out (w0 := w) HB6.out.below HB6.out.size (by rw [HL.out]; omega) ?_; intro v1 w9 h1 h2; obtain ⟨A9, c9, hv9, _, _⟩ := Kd.R_reads h1; rw [show (xs ++ [y]).length = k + 1 by simp [HL.out]] at hv9; subst hv9; have HO9 := Aside0.mk h1; have HB9 := Aside0.mk (show Keeps w [] w9 from ⟨h2, fun _ h => by cases h⟩); have HL9 := Aside0.mk (show (xs ++ [y]).length = k + 1 by simp [HL.out]); clear h1 h2))
          go_roundw
          case rel => exact ⟨str r, k + 1, A9, c9, xs ++ [y], rfl, HLN.out.1, by go_num, rfl, HL9, HO9, HS2, ⟨fun q hq => by
            rcases List.mem_append.1 hq with hq | hq
            · exact HG.out q hq
            · obtain rfl := List.mem_singleton.1 hq
              exact HG1.out⟩, HB9⟩
          case measure => simp only [szOf]; exact HLN.out.2
end
section
set_option linter.unusedSimpArgs false
set_option linter.unusedVariables false
open Go.RowKit Go.Proofs.YtagpldkgkchfcaaDoorW.PrintWords Go.Proofs.YtagpldkgkchfcaaDoorW.PrintLast Go.Proofs.YtagpldkgkchfcaaDoorW.PrintMore Arr PTextPrints

theorem fits_calls (n : Int) (w : World) : Calls Tryd.prog 21 #[.int .i64 n] w fun e w' => e = .returned (.bool (fits n)) ∧ Below w.heap.size w w' := by
  refine (windrowref25_fits.calls n (fits n) w ?_).mono (fun e w' h => ⟨h.1, h.2.below⟩)
  unfold windrowref25_fits.f fits
  by_cases h : n ≥ 0
  · rw [if_pos h]
    simp only [decide_eq_true h, Bool.true_and]
  · rw [if_neg h]
    simp only [decide_eq_false h, Bool.false_and]
theorem name_calls (k : Int) (s : Bool) (w : World) : Calls Tryd.prog 23 #[.int .i64 k, .bool s] w fun e w' => e = .returned (.tuple #[.string (str (nameOf k s).1), .string (str (nameOf k s).2)]) ∧ Below w.heap.size w w' := by
  refine (windrowref25_name.calls k s (str (nameOf k s).1) (str (nameOf k s).2) w ?_).mono (fun e w' h => ⟨h.1, h.2.below⟩)
  unfold windrowref25_name.f nameOf
  cases s
  · by_cases h1 : k = 1
    · subst h1; rfl
    by_cases h2 : k = 2
    · subst h2; rfl
    by_cases h3 : k = 3
    · subst h3; rfl
    by_cases h4 : k = 4
    · subst h4; rfl
    by_cases h5 : k = 5
    · subst h5; rfl
    by_cases h6 : k = 6
    · subst h6; rfl
    by_cases h7 : k = 7
    · subst h7; rfl
    by_cases h8 : k = 8
    · subst h8; rfl
    by_cases h9 : k = 9
    · subst h9; rfl
    by_cases h10 : k = 10
    · subst h10; rfl
    by_cases h11 : k = 11
    · subst h11; rfl
    by_cases h12 : k = 12
    · subst h12; rfl
    simp only [Bool.false_eq_true, if_false, if_neg h1, if_neg h2, if_neg h3, if_neg h4, if_neg h5, if_neg h6, if_neg h7, if_neg h8, if_neg h9, if_neg h10, if_neg h11, if_neg h12]
    rfl
  · by_cases h7 : k = 7
    · subst h7; rfl
    · simp only [if_true, if_neg h7]
      rfl
theorem nums1 (n : Nat) (h : n < 10) : strOfNums [(IntKind.u64.wrap (48 + (n : Int))) % 256] = str [UInt8.ofNat (48 + n)] := by
  have e : ∀ i : Fin 10, strOfNums [(IntKind.u64.wrap (48 + ((i.val : Nat) : Int))) % 256] = str [UInt8.ofNat (48 + i.val)] := by decide +kernel
  exact e ⟨n, h⟩
theorem dec_len10 : ∀ (k n : Nat), n < 10 ^ (k + 1) → (dec n).length ≤ k + 1
  | 0, n, h => by rw [dec_small n (by simpa using h)]; simp
  | k + 1, n, h => by
    by_cases h1 : n < 10
    · rw [dec_small n h1]; simp
    · rw [dec_big n h1, List.length_append]
      have := dec_len10 k (n / 10) (by rw [Nat.pow_succ] at h; omega)
      simp; omega
theorem str_append (a b : Bs) : str a ++ str b = str (a ++ b) := by
  apply ByteArray.ext
  simp [str]
theorem spell_f : ∀ (k n : Nat), n < 10 ^ (k + 1) → n < 18446744073709551616 → k ≤ 20 → windrowref25_spell.f (k + 1) (n : Int) = some (str (dec n))
  | 0, n, h, _, _ => by
    have hn : n < 10 := by simpa using h
    unfold windrowref25_spell.f
    rw [if_pos (by omega), nums1 n hn, dec_small n hn]
  | k + 1, n, h, h2, hk => by
    unfold windrowref25_spell.f
    by_cases hn : n < 10
    · rw [if_pos (by omega), nums1 n hn, dec_small n hn]
    · have hd : n / 10 < 10 ^ (k + 1) := by rw [Nat.pow_succ] at h; omega
      have e1 : IntKind.u64.wrap (Int.tdiv (n : Int) 10) = ((n / 10 : Nat) : Int) := by
        rw [Int.tdiv_eq_ediv_of_nonneg (by omega)]
        rw [IntWalk.u64_in _ (by omega)]
        omega
      have e2 : Int.tmod (n : Int) 10 = ((n % 10 : Nat) : Int) := by
        rw [Int.tmod_eq_emod_of_nonneg (by omega)]
        omega
      rw [if_neg (by omega), e1, spell_f k (n / 10) hd (by omega) (by omega), e2, dec_big n hn]
      have hl := dec_len10 k (n / 10) hd
      have hs : (str (dec (n / 10))).size = (dec (n / 10)).length := by rw [Lib.size_eq, str_data]
      have hs2 : (str [UInt8.ofNat (48 + n % 10)]).size = 1 := rfl
      simp only [Option.bind_some]
      rw [nums1 _ (by omega), if_pos (by rw [hs, hs2]; omega), str_append]
theorem spell_calls (n : Nat) (h : n < 18446744073709551616) (w : World) : Calls Tryd.prog 22 #[.int .u64 (n : Int)] w fun e w' => e = .returned (.string (str (dec n))) ∧ Below w.heap.size w w' :=
  windrowref25_spell.calls 21 n (str (dec n)) w (spell_f 20 n (by omega) h (by omega))
end
section
set_option linter.unusedSimpArgs false
set_option linter.unusedVariables false
open Go.RowKit Go.Proofs.YtagpldkgkchfcaaDoorW.PrintWords Go.Proofs.YtagpldkgkchfcaaDoorW.PrintLast Go.Proofs.YtagpldkgkchfcaaDoorW.PrintMore Arr PTextPrints

def RLineEnd (w : World) (x : Step) (e : Ending) (w' : World) : Prop := ∃ s, e = .returned (.tuple #[.string s, .bool (refLine x).isSome]) ∧ (∀ s', refLine x = some s' → s = str s') ∧ Below w.heap.size w w'
theorem rl_crash0 {x : Step} (hc : x.crash = true) (h : x.op ≠ op0 ∨ x.arm ≠ 0 ∨ fits x.tear = false) : refLine x = none := by
  unfold refLine
  rw [if_pos hc, if_pos h]
theorem rl_crash {x : Step} (hc : x.crash = true) (h0 : x.op = op0) (h1 : x.arm = 0) (h2 : fits x.tear = true) : refLine x = (refKeep x.keep (sCrash ++ [32] ++ dec x.soft.toNat ++ [32] ++ dec x.tear.toNat)).map (· ++ [10]) := by
  unfold refLine
  rw [if_pos hc, if_neg (by rintro (h | h | h); exact h h0; exact h h1; rw [h2] at h; cases h)]
theorem rl_wreck {x : Step} (hc : x.crash = false) (h : x.soft ≠ 0 ∨ x.tear ≠ 0 ∨ x.keep.length ≠ 0) : refLine x = none := by
  unfold refLine
  rw [if_neg (by rw [hc]; decide), if_pos h]
theorem rl_arm {x : Step} (hc : x.crash = false) (ha : x.arm ≠ 0) (h : x.op ≠ op0 ∨ fits x.arm = false) : refLine x = none := by
  unfold refLine
  rw [if_neg (by rw [hc]; decide)]
  split
  · rfl
  · first
    | rfl
    | rw [if_pos ha, if_pos h]
theorem rl_name {x : Step} (hc : x.crash = false) (ha : x.arm = 0) (h : (nameOf x.op.kind x.op.sync).1 = []) : refLine x = none := by
  unfold refLine
  rw [if_neg (by rw [hc]; decide)]
  split
  · rfl
  · first
    | rfl
    | rw [if_neg (by simpa using ha)]
    | rw [if_neg (by simpa using ha), if_pos h]
theorem rl_op {x : Step} (hc : x.crash = false) (h1 : x.soft = 0) (h2 : x.tear = 0) (h3 : x.keep.length = 0) (ha : x.arm = 0) (h : (nameOf x.op.kind x.op.sync).1 ≠ []) : refLine x = match refTells x.op (nameOf x.op.kind x.op.sync).2 (nameOf x.op.kind x.op.sync).1 { op0 with kind := x.op.kind, sync := x.op.sync } with
    | none => none
    | some (s, o) => if o = x.op then some (s ++ [10]) else none := by
  unfold refLine
  rw [if_neg (by rw [hc]; decide), if_neg (by rintro (h | h | h); exact h h1; exact h h2; exact h h3), if_neg (by simpa using ha), if_neg h]
  rfl
set_option maxRecDepth 10000 in
set_option maxHeartbeats 8000000 in
theorem rline_c1 (w : World) (x : Step) (hG : Good x) (A : Option Addr) (c : Nat) (hC : (Kd.int .i64).C w A x.keep.length x.keep) (hc : x.keep.length ≤ c) (hl : x.keep.length ≤ 1000000) (hcr : x.crash = true) (h0 : x.op ≠ op0) : Calls Tryd.prog 16 #[.agg (stepC x (.slice A x.keep.length c)).toArray] w (RLineEnd w x) := by
  have HK := Aside0.mk (Keeps.refl w)
  have HG := Aside0.mk hG
  have HC := Aside0.mk hC
  have HL := Aside0.mk hG.len
  have HF := Aside0.mk (rl_crash0 hcr (Or.inl h0))
  have HB0 := Aside0.mk (show decide (x.op = op0) = false from decide_eq_false h0)
  clear hG hC h0
  go_enter Tryd.func16, Tryd.ntmps16
  go_wp2_with (first | ((with_reducible refine gate_dst (N := 1) rfl ?_); refine box41 rfl (.tmp 0) rfl x _ rfl ?_; intro w1 g h1 h2 h3; have HK1 := Aside0.mk (HK.out.new h3 h2); have HGG := Aside0.mk h1; clear h1 h2 h3) | ((with_reducible refine gate_dst (N := 12) rfl ?_); refine build35z rfl rfl ?_) | ((with_reducible refine gate_dst (N := 4) rfl ?_); refine alloc35 rfl rfl ?_; intro w2 zg h1 h2 h3; have HK2 := Aside0.mk (HK1.out.new h3 h2); have HZG := Aside0.mk (show w.heap.size ≤ zg from Nat.le_trans HK1.out.size h1); have HZN := Aside0.mk (show g ≠ zg by have a1 := HK1.out.head.lt; have a2 := h1; omega); clear h1 h2 h3) | (refine store35 rfl rfl (.tmp 4) (.tmp 12) rfl zg rfl op0 rfl rfl (m := op0) rfl HK2.out.head ?_; intro w3 h21 h22 h23; have HK3 := Aside0.mk (HK2.out.put h22 HZG.out (by simpa using HZN.out) h21); have q7 := (step_at x (.slice A x.keep.length c) HL.out); have a1 := HK3.out.tail.head.cell q7.1; have a2 := HK3.out.tail.head.cell q7.2.1; have a3 := HK3.out.tail.head.cell q7.2.2.1; have a4 := HK3.out.tail.head.cell q7.2.2.2.1; have a5 := HK3.out.tail.head.cell q7.2.2.2.2; rw [hcr] at a2; clear h21 h22 h23 q7) | ((with_reducible refine gate_dst (N := 16) rfl ?_); refine loadOp rfl (.tmp 15) rfl g rfl x _ HL.out HK3.out.tail.head ?_) | ((with_reducible refine gate_dst (N := 17) rfl ?_); refine loadB35 rfl (.tmp 4) rfl zg rfl op0 rfl HK3.out.head ?_) | ((with_reducible refine gate_dst (N := 18) rfl ?_); refine neq35 rfl (.tmp 16) (.tmp 17) rfl x.op op0 rfl rfl HG.out.op goodop0 _ HB0.out ?_))
  go_ret2
  unfold RLineEnd
  rw [HF.out]
  exact ⟨_, rfl, (fun s' h => by cases h), HK3.out.below⟩
set_option maxRecDepth 10000 in
set_option maxHeartbeats 8000000 in
theorem rline_c2 (w : World) (x : Step) (hG : Good x) (A : Option Addr) (c : Nat) (hC : (Kd.int .i64).C w A x.keep.length x.keep) (hc : x.keep.length ≤ c) (hl : x.keep.length ≤ 1000000) (hcr : x.crash = true) (h0 : x.op = op0) (h1 : x.arm ≠ 0) : Calls Tryd.prog 16 #[.agg (stepC x (.slice A x.keep.length c)).toArray] w (RLineEnd w x) := by
  have HK := Aside0.mk (Keeps.refl w)
  have HG := Aside0.mk hG
  have HC := Aside0.mk hC
  have HL := Aside0.mk hG.len
  have HF := Aside0.mk (rl_crash0 hcr (Or.inr (Or.inl h1)))
  have HB0 := Aside0.mk (show decide (x.op = op0) = true from decide_eq_true h0)
  have e1 : (x.arm == 0) = false := by rw [beq_eq_false_iff_ne]; exact h1
  have e1p : ¬ x.arm = 0 := h1
  clear hG hC h0 h1
  go_enter Tryd.func16, Tryd.ntmps16
  go_wp2_with (first | ((with_reducible refine gate_dst (N := 1) rfl ?_); refine box41 rfl (.tmp 0) rfl x _ rfl ?_; intro w1 g h1 h2 h3; have HK1 := Aside0.mk (HK.out.new h3 h2); have HGG := Aside0.mk h1; clear h1 h2 h3) | ((with_reducible refine gate_dst (N := 12) rfl ?_); refine build35z rfl rfl ?_) | ((with_reducible refine gate_dst (N := 4) rfl ?_); refine alloc35 rfl rfl ?_; intro w2 zg h1 h2 h3; have HK2 := Aside0.mk (HK1.out.new h3 h2); have HZG := Aside0.mk (show w.heap.size ≤ zg from Nat.le_trans HK1.out.size h1); have HZN := Aside0.mk (show g ≠ zg by have a1 := HK1.out.head.lt; have a2 := h1; omega); clear h1 h2 h3) | (refine store35 rfl rfl (.tmp 4) (.tmp 12) rfl zg rfl op0 rfl rfl (m := op0) rfl HK2.out.head ?_; intro w3 h21 h22 h23; have HK3 := Aside0.mk (HK2.out.put h22 HZG.out (by simpa using HZN.out) h21); have q7 := (step_at x (.slice A x.keep.length c) HL.out); have a1 := HK3.out.tail.head.cell q7.1; have a2 := HK3.out.tail.head.cell q7.2.1; have a3 := HK3.out.tail.head.cell q7.2.2.1; have a4 := HK3.out.tail.head.cell q7.2.2.2.1; have a5 := HK3.out.tail.head.cell q7.2.2.2.2; rw [hcr] at a2; clear h21 h22 h23 q7) | ((with_reducible refine gate_dst (N := 16) rfl ?_); refine loadOp rfl (.tmp 15) rfl g rfl x _ HL.out HK3.out.tail.head ?_) | ((with_reducible refine gate_dst (N := 17) rfl ?_); refine loadB35 rfl (.tmp 4) rfl zg rfl op0 rfl HK3.out.head ?_) | ((with_reducible refine gate_dst (N := 18) rfl ?_); refine neq35 rfl (.tmp 16) (.tmp 17) rfl x.op op0 rfl rfl HG.out.op goodop0 _ HB0.out ?_))
  go_ret2
  unfold RLineEnd
  rw [HF.out]
  exact ⟨_, rfl, (fun s' h => by cases h), HK3.out.below⟩
set_option maxRecDepth 10000 in
set_option maxHeartbeats 8000000 in
theorem rline_c3 (w : World) (x : Step) (hG : Good x) (A : Option Addr) (c : Nat) (hC : (Kd.int .i64).C w A x.keep.length x.keep) (hc : x.keep.length ≤ c) (hl : x.keep.length ≤ 1000000) (hcr : x.crash = true) (h0 : x.op = op0) (h1 : x.arm = 0) (h2 : fits x.tear = false) : Calls Tryd.prog 16 #[.agg (stepC x (.slice A x.keep.length c)).toArray] w (RLineEnd w x) := by
  have HK := Aside0.mk (Keeps.refl w)
  have HG := Aside0.mk hG
  have HC := Aside0.mk hC
  have HL := Aside0.mk hG.len
  have HF := Aside0.mk (rl_crash0 hcr (Or.inr (Or.inr h2)))
  have HB0 := Aside0.mk (show decide (x.op = op0) = true from decide_eq_true h0)
  have HFT := Aside0.mk h2
  have e1 : (x.arm == 0) = true := by rw [beq_iff_eq]; exact h1
  have e1p : x.arm = 0 := h1
  clear hG hC h0 h1 h2
  go_enter Tryd.func16, Tryd.ntmps16
  go_wp2_with (first | ((with_reducible refine gate_dst (N := 1) rfl ?_); refine box41 rfl (.tmp 0) rfl x _ rfl ?_; intro w1 g h1 h2 h3; have HK1 := Aside0.mk (HK.out.new h3 h2); have HGG := Aside0.mk h1; clear h1 h2 h3) | ((with_reducible refine gate_dst (N := 12) rfl ?_); refine build35z rfl rfl ?_) | ((with_reducible refine gate_dst (N := 4) rfl ?_); refine alloc35 rfl rfl ?_; intro w2 zg h1 h2 h3; have HK2 := Aside0.mk (HK1.out.new h3 h2); have HZG := Aside0.mk (show w.heap.size ≤ zg from Nat.le_trans HK1.out.size h1); have HZN := Aside0.mk (show g ≠ zg by have a1 := HK1.out.head.lt; have a2 := h1; omega); clear h1 h2 h3) | (refine store35 rfl rfl (.tmp 4) (.tmp 12) rfl zg rfl op0 rfl rfl (m := op0) rfl HK2.out.head ?_; intro w3 h21 h22 h23; have HK3 := Aside0.mk (HK2.out.put h22 HZG.out (by simpa using HZN.out) h21); have q7 := (step_at x (.slice A x.keep.length c) HL.out); have a1 := HK3.out.tail.head.cell q7.1; have a2 := HK3.out.tail.head.cell q7.2.1; have a3 := HK3.out.tail.head.cell q7.2.2.1; have a4 := HK3.out.tail.head.cell q7.2.2.2.1; have a5 := HK3.out.tail.head.cell q7.2.2.2.2; rw [hcr] at a2; clear h21 h22 h23 q7) | ((with_reducible refine gate_dst (N := 16) rfl ?_); refine loadOp rfl (.tmp 15) rfl g rfl x _ HL.out HK3.out.tail.head ?_) | ((with_reducible refine gate_dst (N := 17) rfl ?_); refine loadB35 rfl (.tmp 4) rfl zg rfl op0 rfl HK3.out.head ?_) | ((with_reducible refine gate_dst (N := 18) rfl ?_); refine neq35 rfl (.tmp 16) (.tmp 17) rfl x.op op0 rfl rfl HG.out.op goodop0 _ HB0.out ?_) | (go_at_call 21; refine (fits_calls x.tear _).mono ?_; rintro e w4 ⟨rfl, hbb⟩; rw [HFT.out]; have HK4 := Aside0.mk (HK3.out.step hbb); clear hbb))
  go_ret2
  unfold RLineEnd
  rw [HF.out]
  exact ⟨_, rfl, (fun s' h => by cases h), HK4.out.below⟩
set_option maxRecDepth 10000 in
set_option maxHeartbeats 8000000 in
theorem rline_w1 (w : World) (x : Step) (hG : Good x) (A : Option Addr) (c : Nat) (hC : (Kd.int .i64).C w A x.keep.length x.keep) (hc : x.keep.length ≤ c) (hl : x.keep.length ≤ 1000000) (hcr : x.crash = false) (h1 : x.soft ≠ 0) : Calls Tryd.prog 16 #[.agg (stepC x (.slice A x.keep.length c)).toArray] w (RLineEnd w x) := by
  have HK := Aside0.mk (Keeps.refl w)
  have HG := Aside0.mk hG
  have HC := Aside0.mk hC
  have HL := Aside0.mk hG.len
  have HF := Aside0.mk (rl_wreck hcr (Or.inl h1))
  have e1 : (x.soft == 0) = false := by rw [beq_eq_false_iff_ne]; exact h1
  have e1p : ¬ x.soft = 0 := h1
  clear hG hC h1
  go_enter Tryd.func16, Tryd.ntmps16
  go_wp2_with (first | ((with_reducible refine gate_dst (N := 1) rfl ?_); refine box41 rfl (.tmp 0) rfl x _ rfl ?_; intro w1 g h1 h2 h3; have HK1 := Aside0.mk (HK.out.new h3 h2); have HGG := Aside0.mk h1; clear h1 h2 h3) | ((with_reducible refine gate_dst (N := 12) rfl ?_); refine build35z rfl rfl ?_) | ((with_reducible refine gate_dst (N := 4) rfl ?_); refine alloc35 rfl rfl ?_; intro w2 zg h1 h2 h3; have HK2 := Aside0.mk (HK1.out.new h3 h2); have HZG := Aside0.mk (show w.heap.size ≤ zg from Nat.le_trans HK1.out.size h1); have HZN := Aside0.mk (show g ≠ zg by have a1 := HK1.out.head.lt; have a2 := h1; omega); clear h1 h2 h3) | (refine store35 rfl rfl (.tmp 4) (.tmp 12) rfl zg rfl op0 rfl rfl (m := op0) rfl HK2.out.head ?_; intro w3 h21 h22 h23; have HK3 := Aside0.mk (HK2.out.put h22 HZG.out (by simpa using HZN.out) h21); have q7 := (step_at x (.slice A x.keep.length c) HL.out); have a1 := HK3.out.tail.head.cell q7.1; have a2 := HK3.out.tail.head.cell q7.2.1; have a3 := HK3.out.tail.head.cell q7.2.2.1; have a4 := HK3.out.tail.head.cell q7.2.2.2.1; have a5 := HK3.out.tail.head.cell q7.2.2.2.2; rw [hcr] at a2; clear h21 h22 h23 q7))
  go_ret2
  unfold RLineEnd
  rw [HF.out]
  exact ⟨_, rfl, (fun s' h => by cases h), HK3.out.below⟩
set_option maxRecDepth 10000 in
set_option maxHeartbeats 8000000 in
theorem rline_w2 (w : World) (x : Step) (hG : Good x) (A : Option Addr) (c : Nat) (hC : (Kd.int .i64).C w A x.keep.length x.keep) (hc : x.keep.length ≤ c) (hl : x.keep.length ≤ 1000000) (hcr : x.crash = false) (h0 : x.soft = 0) (h1 : x.tear ≠ 0) : Calls Tryd.prog 16 #[.agg (stepC x (.slice A x.keep.length c)).toArray] w (RLineEnd w x) := by
  have HK := Aside0.mk (Keeps.refl w)
  have HG := Aside0.mk hG
  have HC := Aside0.mk hC
  have HL := Aside0.mk hG.len
  have HF := Aside0.mk (rl_wreck hcr (Or.inr (Or.inl h1)))
  have e0 : (x.soft == 0) = true := by rw [beq_iff_eq]; exact h0
  have e0p : x.soft = 0 := h0
  have e1 : (x.tear == 0) = false := by rw [beq_eq_false_iff_ne]; exact h1
  have e1p : ¬ x.tear = 0 := h1
  clear hG hC h0 h1
  go_enter Tryd.func16, Tryd.ntmps16
  go_wp2_with (first | ((with_reducible refine gate_dst (N := 1) rfl ?_); refine box41 rfl (.tmp 0) rfl x _ rfl ?_; intro w1 g h1 h2 h3; have HK1 := Aside0.mk (HK.out.new h3 h2); have HGG := Aside0.mk h1; clear h1 h2 h3) | ((with_reducible refine gate_dst (N := 12) rfl ?_); refine build35z rfl rfl ?_) | ((with_reducible refine gate_dst (N := 4) rfl ?_); refine alloc35 rfl rfl ?_; intro w2 zg h1 h2 h3; have HK2 := Aside0.mk (HK1.out.new h3 h2); have HZG := Aside0.mk (show w.heap.size ≤ zg from Nat.le_trans HK1.out.size h1); have HZN := Aside0.mk (show g ≠ zg by have a1 := HK1.out.head.lt; have a2 := h1; omega); clear h1 h2 h3) | (refine store35 rfl rfl (.tmp 4) (.tmp 12) rfl zg rfl op0 rfl rfl (m := op0) rfl HK2.out.head ?_; intro w3 h21 h22 h23; have HK3 := Aside0.mk (HK2.out.put h22 HZG.out (by simpa using HZN.out) h21); have q7 := (step_at x (.slice A x.keep.length c) HL.out); have a1 := HK3.out.tail.head.cell q7.1; have a2 := HK3.out.tail.head.cell q7.2.1; have a3 := HK3.out.tail.head.cell q7.2.2.1; have a4 := HK3.out.tail.head.cell q7.2.2.2.1; have a5 := HK3.out.tail.head.cell q7.2.2.2.2; rw [hcr] at a2; clear h21 h22 h23 q7))
  go_ret2
  unfold RLineEnd
  rw [HF.out]
  exact ⟨_, rfl, (fun s' h => by cases h), HK3.out.below⟩
set_option maxRecDepth 10000 in
set_option maxHeartbeats 8000000 in
theorem rline_w3 (w : World) (x : Step) (hG : Good x) (A : Option Addr) (c : Nat) (hC : (Kd.int .i64).C w A x.keep.length x.keep) (hc : x.keep.length ≤ c) (hl : x.keep.length ≤ 1000000) (hcr : x.crash = false) (h0 : x.soft = 0) (h2 : x.tear = 0) (h1 : x.keep.length ≠ 0) : Calls Tryd.prog 16 #[.agg (stepC x (.slice A x.keep.length c)).toArray] w (RLineEnd w x) := by
  have HK := Aside0.mk (Keeps.refl w)
  have HG := Aside0.mk hG
  have HC := Aside0.mk hC
  have HL := Aside0.mk hG.len
  have HF := Aside0.mk (rl_wreck hcr (Or.inr (Or.inr h1)))
  have e0 : (x.soft == 0) = true := by rw [beq_iff_eq]; exact h0
  have e0p : x.soft = 0 := h0
  have e2 : (x.tear == 0) = true := by rw [beq_iff_eq]; exact h2
  have e2p : x.tear = 0 := h2
  have e1 : ((x.keep.length : Int) == 0) = false := by rw [beq_eq_false_iff_ne]; omega
  have e1p : ¬ (x.keep.length : Int) = 0 := by omega
  clear hG hC h0 h1 h2
  go_enter Tryd.func16, Tryd.ntmps16
  go_wp2_with (first | ((with_reducible refine gate_dst (N := 1) rfl ?_); refine box41 rfl (.tmp 0) rfl x _ rfl ?_; intro w1 g h1 h2 h3; have HK1 := Aside0.mk (HK.out.new h3 h2); have HGG := Aside0.mk h1; clear h1 h2 h3) | ((with_reducible refine gate_dst (N := 12) rfl ?_); refine build35z rfl rfl ?_) | ((with_reducible refine gate_dst (N := 4) rfl ?_); refine alloc35 rfl rfl ?_; intro w2 zg h1 h2 h3; have HK2 := Aside0.mk (HK1.out.new h3 h2); have HZG := Aside0.mk (show w.heap.size ≤ zg from Nat.le_trans HK1.out.size h1); have HZN := Aside0.mk (show g ≠ zg by have a1 := HK1.out.head.lt; have a2 := h1; omega); clear h1 h2 h3) | (refine store35 rfl rfl (.tmp 4) (.tmp 12) rfl zg rfl op0 rfl rfl (m := op0) rfl HK2.out.head ?_; intro w3 h21 h22 h23; have HK3 := Aside0.mk (HK2.out.put h22 HZG.out (by simpa using HZN.out) h21); have q7 := (step_at x (.slice A x.keep.length c) HL.out); have a1 := HK3.out.tail.head.cell q7.1; have a2 := HK3.out.tail.head.cell q7.2.1; have a3 := HK3.out.tail.head.cell q7.2.2.1; have a4 := HK3.out.tail.head.cell q7.2.2.2.1; have a5 := HK3.out.tail.head.cell q7.2.2.2.2; rw [hcr] at a2; clear h21 h22 h23 q7))
  go_ret2
  unfold RLineEnd
  rw [HF.out]
  exact ⟨_, rfl, (fun s' h => by cases h), HK3.out.below⟩
set_option maxRecDepth 10000 in
set_option maxHeartbeats 8000000 in
theorem rline_a1 (w : World) (x : Step) (hG : Good x) (A : Option Addr) (c : Nat) (hC : (Kd.int .i64).C w A x.keep.length x.keep) (hc : x.keep.length ≤ c) (hl : x.keep.length ≤ 1000000) (hcr : x.crash = false) (h0 : x.soft = 0) (h1 : x.tear = 0) (h2 : x.keep.length = 0) (h3 : x.arm ≠ 0) (h4 : x.op ≠ op0) : Calls Tryd.prog 16 #[.agg (stepC x (.slice A x.keep.length c)).toArray] w (RLineEnd w x) := by
  have HK := Aside0.mk (Keeps.refl w)
  have HG := Aside0.mk hG
  have HC := Aside0.mk hC
  have HL := Aside0.mk hG.len
  have HF := Aside0.mk (rl_arm hcr h3 (Or.inl h4))
  have HB0 := Aside0.mk (show decide (x.op = op0) = false from decide_eq_false h4)
  have e0p : x.soft = 0 := h0
  have e1p : x.tear = 0 := h1
  have e2p : (x.keep.length : Int) = 0 := by omega
  have e0 : (x.soft == 0) = true := by rw [beq_iff_eq]; exact h0
  have e1 : (x.tear == 0) = true := by rw [beq_iff_eq]; exact h1
  have e2 : ((x.keep.length : Int) == 0) = true := by rw [beq_iff_eq]; omega
  have e3 : (x.arm == 0) = false := by rw [beq_eq_false_iff_ne]; exact h3
  have e3p : ¬ x.arm = 0 := h3
  clear hG hC h0 h1 h2 h3 h4
  go_enter Tryd.func16, Tryd.ntmps16
  go_wp2_with (first | ((with_reducible refine gate_dst (N := 1) rfl ?_); refine box41 rfl (.tmp 0) rfl x _ rfl ?_; intro w1 g h1 h2 h3; have HK1 := Aside0.mk (HK.out.new h3 h2); have HGG := Aside0.mk h1; clear h1 h2 h3) | ((with_reducible refine gate_dst (N := 12) rfl ?_); refine build35z rfl rfl ?_) | ((with_reducible refine gate_dst (N := 4) rfl ?_); refine alloc35 rfl rfl ?_; intro w2 zg h1 h2 h3; have HK2 := Aside0.mk (HK1.out.new h3 h2); have HZG := Aside0.mk (show w.heap.size ≤ zg from Nat.le_trans HK1.out.size h1); have HZN := Aside0.mk (show g ≠ zg by have a1 := HK1.out.head.lt; have a2 := h1; omega); clear h1 h2 h3) | (refine store35 rfl rfl (.tmp 4) (.tmp 12) rfl zg rfl op0 rfl rfl (m := op0) rfl HK2.out.head ?_; intro w3 h21 h22 h23; have HK3 := Aside0.mk (HK2.out.put h22 HZG.out (by simpa using HZN.out) h21); have q7 := (step_at x (.slice A x.keep.length c) HL.out); have a1 := HK3.out.tail.head.cell q7.1; have a2 := HK3.out.tail.head.cell q7.2.1; have a3 := HK3.out.tail.head.cell q7.2.2.1; have a4 := HK3.out.tail.head.cell q7.2.2.2.1; have a5 := HK3.out.tail.head.cell q7.2.2.2.2; rw [hcr] at a2; clear h21 h22 h23 q7) | ((with_reducible refine gate_dst (N := 93) rfl ?_); refine loadOp rfl (.tmp 92) rfl g rfl x _ HL.out HK3.out.tail.head ?_) | ((with_reducible refine gate_dst (N := 94) rfl ?_); refine loadB35 rfl (.tmp 4) rfl zg rfl op0 rfl HK3.out.head ?_) | ((with_reducible refine gate_dst (N := 95) rfl ?_); refine neq35 rfl (.tmp 93) (.tmp 94) rfl x.op op0 rfl rfl HG.out.op goodop0 _ HB0.out ?_))
  go_ret2
  unfold RLineEnd
  rw [HF.out]
  exact ⟨_, rfl, (fun s' h => by cases h), HK3.out.below⟩
set_option maxRecDepth 10000 in
set_option maxHeartbeats 8000000 in
theorem rline_a2 (w : World) (x : Step) (hG : Good x) (A : Option Addr) (c : Nat) (hC : (Kd.int .i64).C w A x.keep.length x.keep) (hc : x.keep.length ≤ c) (hl : x.keep.length ≤ 1000000) (hcr : x.crash = false) (h0 : x.soft = 0) (h1 : x.tear = 0) (h2 : x.keep.length = 0) (h3 : x.arm ≠ 0) (h4 : x.op = op0) (h5 : fits x.arm = false) : Calls Tryd.prog 16 #[.agg (stepC x (.slice A x.keep.length c)).toArray] w (RLineEnd w x) := by
  have HK := Aside0.mk (Keeps.refl w)
  have HG := Aside0.mk hG
  have HC := Aside0.mk hC
  have HL := Aside0.mk hG.len
  have HF := Aside0.mk (rl_arm hcr h3 (Or.inr h5))
  have HB0 := Aside0.mk (show decide (x.op = op0) = true from decide_eq_true h4)
  have HFT := Aside0.mk h5
  have e0p : x.soft = 0 := h0
  have e1p : x.tear = 0 := h1
  have e2p : (x.keep.length : Int) = 0 := by omega
  have e0 : (x.soft == 0) = true := by rw [beq_iff_eq]; exact h0
  have e1 : (x.tear == 0) = true := by rw [beq_iff_eq]; exact h1
  have e2 : ((x.keep.length : Int) == 0) = true := by rw [beq_iff_eq]; omega
  have e3 : (x.arm == 0) = false := by rw [beq_eq_false_iff_ne]; exact h3
  have e3p : ¬ x.arm = 0 := h3
  clear hG hC h0 h1 h2 h3 h4 h5
  go_enter Tryd.func16, Tryd.ntmps16
  go_wp2_with (first | ((with_reducible refine gate_dst (N := 1) rfl ?_); refine box41 rfl (.tmp 0) rfl x _ rfl ?_; intro w1 g h1 h2 h3; have HK1 := Aside0.mk (HK.out.new h3 h2); have HGG := Aside0.mk h1; clear h1 h2 h3) | ((with_reducible refine gate_dst (N := 12) rfl ?_); refine build35z rfl rfl ?_) | ((with_reducible refine gate_dst (N := 4) rfl ?_); refine alloc35 rfl rfl ?_; intro w2 zg h1 h2 h3; have HK2 := Aside0.mk (HK1.out.new h3 h2); have HZG := Aside0.mk (show w.heap.size ≤ zg from Nat.le_trans HK1.out.size h1); have HZN := Aside0.mk (show g ≠ zg by have a1 := HK1.out.head.lt; have a2 := h1; omega); clear h1 h2 h3) | (refine store35 rfl rfl (.tmp 4) (.tmp 12) rfl zg rfl op0 rfl rfl (m := op0) rfl HK2.out.head ?_; intro w3 h21 h22 h23; have HK3 := Aside0.mk (HK2.out.put h22 HZG.out (by simpa using HZN.out) h21); have q7 := (step_at x (.slice A x.keep.length c) HL.out); have a1 := HK3.out.tail.head.cell q7.1; have a2 := HK3.out.tail.head.cell q7.2.1; have a3 := HK3.out.tail.head.cell q7.2.2.1; have a4 := HK3.out.tail.head.cell q7.2.2.2.1; have a5 := HK3.out.tail.head.cell q7.2.2.2.2; rw [hcr] at a2; clear h21 h22 h23 q7) | ((with_reducible refine gate_dst (N := 93) rfl ?_); refine loadOp rfl (.tmp 92) rfl g rfl x _ HL.out HK3.out.tail.head ?_) | ((with_reducible refine gate_dst (N := 94) rfl ?_); refine loadB35 rfl (.tmp 4) rfl zg rfl op0 rfl HK3.out.head ?_) | ((with_reducible refine gate_dst (N := 95) rfl ?_); refine neq35 rfl (.tmp 93) (.tmp 94) rfl x.op op0 rfl rfl HG.out.op goodop0 _ HB0.out ?_) | (go_at_call 21; refine (fits_calls x.arm _).mono ?_; rintro e w4 ⟨rfl, hbb⟩; rw [HFT.out]; have HK4 := Aside0.mk (HK3.out.step hbb); clear hbb))
  go_ret2
  unfold RLineEnd
  rw [HF.out]
  exact ⟨_, rfl, (fun s' h => by cases h), HK4.out.below⟩
end
section
set_option linter.unusedSimpArgs false
set_option linter.unusedVariables false
open Go.RowKit Go.Proofs.YtagpldkgkchfcaaDoorW.PrintWords Go.Proofs.YtagpldkgkchfcaaDoorW.PrintLast Go.Proofs.YtagpldkgkchfcaaDoorW.PrintMore Arr PTextPrints

set_option maxRecDepth 10000 in
set_option maxHeartbeats 8000000 in
theorem rline_a3 (w : World) (x : Step) (hG : Good x) (A : Option Addr) (c : Nat) (hC : (Kd.int .i64).C w A x.keep.length x.keep) (hc : x.keep.length ≤ c) (hl : x.keep.length ≤ 1000000) (hcr : x.crash = false) (h0 : x.soft = 0) (h1 : x.tear = 0) (h2 : x.keep.length = 0) (h3 : x.arm ≠ 0) (h4 : x.op = op0) (h5 : fits x.arm = true) : Calls Tryd.prog 16 #[.agg (stepC x (.slice A x.keep.length c)).toArray] w (RLineEnd w x) := by
  have HK := Aside0.mk (Keeps.refl w)
  have HG := Aside0.mk hG
  have HC := Aside0.mk hC
  have HL := Aside0.mk hG.len
  have HF := Aside0.mk (refLine_arm x hcr h0 h1 (List.length_eq_zero_iff.1 h2) h3 h4 h5)
  have HB0 := Aside0.mk (show decide (x.op = op0) = true from decide_eq_true h4)
  have HFT := Aside0.mk h5
  have e0p : x.soft = 0 := h0
  have e1p : x.tear = 0 := h1
  have e2p : (x.keep.length : Int) = 0 := by omega
  have e0 : (x.soft == 0) = true := by rw [beq_iff_eq]; exact h0
  have e1 : (x.tear == 0) = true := by rw [beq_iff_eq]; exact h1
  have e2 : ((x.keep.length : Int) == 0) = true := by rw [beq_iff_eq]; omega
  have e3 : (x.arm == 0) = false := by rw [beq_eq_false_iff_ne]; exact h3
  have e3p : ¬ x.arm = 0 := h3
  have hfi := (fits_iff _).1 h5
  obtain ⟨n, hn⟩ : ∃ n : Nat, n = x.arm.toNat := ⟨_, rfl⟩
  have hn2 : IntKind.u64.wrap x.arm = (n : Int) := by rw [IntWalk.u64_in _ (by omega)]; omega
  have hn3 : n ≤ 999999 := by omega
  have HSZ := Aside0.mk (show (str (dec n)).size ≤ 64 by rw [Lib.size_eq, str_data]; exact dec_len n (by omega))
  have hsz := HSZ.out
  rw [← hn] at HF
  clear hG hC h0 h1 h2 h3 h4 h5 hn hfi
  go_enter Tryd.func16, Tryd.ntmps16
  go_wp2_with (first | ((with_reducible refine gate_dst (N := 1) rfl ?_); refine box41 rfl (.tmp 0) rfl x _ rfl ?_; intro w1 g h1 h2 h3; have HK1 := Aside0.mk (HK.out.new h3 h2); have HGG := Aside0.mk h1; clear h1 h2 h3) | ((with_reducible refine gate_dst (N := 12) rfl ?_); refine build35z rfl rfl ?_) | ((with_reducible refine gate_dst (N := 4) rfl ?_); refine alloc35 rfl rfl ?_; intro w2 zg h1 h2 h3; have HK2 := Aside0.mk (HK1.out.new h3 h2); have HZG := Aside0.mk (show w.heap.size ≤ zg from Nat.le_trans HK1.out.size h1); have HZN := Aside0.mk (show g ≠ zg by have a1 := HK1.out.head.lt; have a2 := h1; omega); clear h1 h2 h3) | (refine store35 rfl rfl (.tmp 4) (.tmp 12) rfl zg rfl op0 rfl rfl (m := op0) rfl HK2.out.head ?_; intro w3 h21 h22 h23; have HK3 := Aside0.mk (HK2.out.put h22 HZG.out (by simpa using HZN.out) h21); have q7 := (step_at x (.slice A x.keep.length c) HL.out); have a1 := HK3.out.tail.head.cell q7.1; have a2 := HK3.out.tail.head.cell q7.2.1; have a3 := HK3.out.tail.head.cell q7.2.2.1; have a4 := HK3.out.tail.head.cell q7.2.2.2.1; have a5 := HK3.out.tail.head.cell q7.2.2.2.2; rw [hcr] at a2; clear h21 h22 h23 q7) | ((with_reducible refine gate_dst (N := 93) rfl ?_); refine loadOp rfl (.tmp 92) rfl g rfl x _ HL.out HK3.out.tail.head ?_) | ((with_reducible refine gate_dst (N := 94) rfl ?_); refine loadB35 rfl (.tmp 4) rfl zg rfl op0 rfl HK3.out.head ?_) | ((with_reducible refine gate_dst (N := 95) rfl ?_); refine neq35 rfl (.tmp 93) (.tmp 94) rfl x.op op0 rfl rfl HG.out.op goodop0 _ HB0.out ?_) | (go_at_call 21; refine (fits_calls x.arm _).mono ?_; rintro e w4 ⟨rfl, hbb⟩; rw [HFT.out]; have HK4 := Aside0.mk (HK3.out.step hbb); have b1 := HK4.out.tail.head.cell (step_at x (.slice A x.keep.length c) HL.out).1; clear hbb) | (go_at_call 22; (try rw [hn2]); refine (spell_calls n (by omega) _).mono ?_; rintro e w5 ⟨rfl, hbb⟩; have HK5 := Aside0.mk (HK4.out.step hbb); clear hbb))
  go_ret2
  unfold RLineEnd
  rw [HF.out]
  exact ⟨_, rfl, (fun s' h => by
    obtain rfl := Option.some.inj h
    apply ByteArray.ext
    simp [str, sArm]), HK5.out.below⟩
end
section
set_option linter.unusedSimpArgs false
set_option linter.unusedVariables false
open Go.RowKit Go.Proofs.YtagpldkgkchfcaaDoorW.PrintWords Go.Proofs.YtagpldkgkchfcaaDoorW.PrintLast Go.Proofs.YtagpldkgkchfcaaDoorW.PrintMore Arr PTextPrints

theorem refKeep_step {l : List Int} {k : Nat} (h : k < l.length) (s : Bs) : refKeep (l.drop k) s = if fits (rd l k) then refKeep (l.drop (k + 1)) (s ++ 32 :: dec (rd l k).toNat) else none := by
  rw [List.drop_eq_getElem_cons h]
  have e : rd l k = l[k] := by unfold rd; rw [Int.toNat_natCast, List.getD_eq_getElem?_getD, List.getElem?_eq_getElem h]; rfl
  rw [e]
  rfl
theorem str_cat (a b : Bs) : (str a ++ ⟨#[32]⟩ ++ str b : ByteArray) = str (a ++ 32 :: b) := by
  apply ByteArray.ext
  simp [str]
set_option maxRecDepth 10000 in
set_option maxHeartbeats 400000 in
theorem rline_c4 (w : World) (x : Step) (hG : Good x) (A : Option Addr) (c : Nat) (hC : (Kd.int .i64).C w A x.keep.length x.keep) (hc : x.keep.length ≤ c) (hl : x.keep.length ≤ 1000000) (hcr : x.crash = true) (h0 : x.op = op0) (h1 : x.arm = 0) (h2 : fits x.tear = true) : Calls Tryd.prog 16 #[.agg (stepC x (.slice A x.keep.length c)).toArray] w (RLineEnd w x) := by
  have HK := Aside0.mk (Keeps.refl w)
  have HG := Aside0.mk hG
  have HC := Aside0.mk hC
  have HL := Aside0.mk hG.len
  have HB0 := Aside0.mk (show decide (x.op = op0) = true from decide_eq_true h0)
  have HFT := Aside0.mk h2
  have e1 : (x.arm == 0) = true := by rw [beq_iff_eq]; exact h1
  have e1p : x.arm = 0 := h1
  have hs := hG.soft
  have hfi := (fits_iff _).1 h2
  obtain ⟨u, hu⟩ : ∃ u : Nat, x.soft = (u : Int) := ⟨x.soft.toNat, by omega⟩
  obtain ⟨tn, htn⟩ : ∃ tn : Nat, x.tear = (tn : Int) := ⟨x.tear.toNat, by omega⟩
  have hu2 : u < 18446744073709551616 := by omega
  have htn2 : tn ≤ 999999 := by omega
  obtain ⟨base, hbase⟩ : ∃ base, base = sCrash ++ [32] ++ dec u ++ [32] ++ dec tn := ⟨_, rfl⟩
  have HF := Aside0.mk (show refLine x = (refKeep x.keep base).map (· ++ [10]) by rw [rl_crash hcr h0 h1 h2, hbase]; rw [show x.soft.toNat = u by omega, show x.tear.toNat = tn by omega])
  have HBS := Aside0.mk hbase
  have hsu : (str (dec u)).size ≤ 64 := by rw [Lib.size_eq, str_data]; exact dec_len u hu2
  have hst : (str (dec tn)).size ≤ 64 := by rw [Lib.size_eq, str_data]; exact dec_len tn (by omega)
  have HSU := Aside0.mk (spell_calls u hu2)
  have HTW := Aside0.mk (show IntKind.u64.wrap (tn : Int) = (tn : Int) from IntWalk.u64_in _ (by omega))
  have HSN := Aside0.mk (spell_calls tn (by omega))
  obtain ⟨DU, hDU⟩ : ∃ D, D = str (dec u) := ⟨_, rfl⟩
  obtain ⟨DN, hDN⟩ : ∃ D, D = str (dec tn) := ⟨_, rfl⟩
  rw [← hDU] at hsu HSU
  rw [← hDN] at hst HSN
  have HDU := Aside0.mk hDU
  have HDN := Aside0.mk hDN
  have HBL := Aside0.mk (show base.length ≤ 300 by rw [hbase]; have q1 := dec_len u hu2; have q2 := dec_len tn (by omega); simp [sCrash]; omega)
  have C39 := Aside0.mk (step_at x (.slice A x.keep.length c) HL.out).2.2.1
  have C40 := Aside0.mk (show (stepC x (.slice A x.keep.length c))[40]? = some (.int .u64 (u : Int)) by rw [(step_at x _ HL.out).2.2.2.1, hu])
  have C41 := Aside0.mk (show (stepC x (.slice A x.keep.length c))[41]? = some (.int .i64 (tn : Int)) by rw [(step_at x _ HL.out).2.2.2.2, htn])
  clear hG hC h0 h1 h2 hs hfi hu htn hbase hDU hDN
  go_enter Tryd.func16, Tryd.ntmps16
  go_upto_region 5 with (first | ((with_reducible refine gate_dst (N := 1) rfl ?_); refine box41 rfl (.tmp 0) rfl x _ rfl ?_; intro w1 g h1 h2 h3; have HK1 := Aside0.mk (HK.out.new h3 h2); have HGG := Aside0.mk h1; clear h1 h2 h3) | ((with_reducible refine gate_dst (N := 12) rfl ?_); refine build35z rfl rfl ?_) | ((with_reducible refine gate_dst (N := 4) rfl ?_); refine alloc35 rfl rfl ?_; intro w2 zg h1 h2 h3; have HK2 := Aside0.mk (HK1.out.new h3 h2); have HZG := Aside0.mk (show w.heap.size ≤ zg from Nat.le_trans HK1.out.size h1); have HZN := Aside0.mk (show g ≠ zg by have a1 := HK1.out.head.lt; have a2 := h1; omega); clear h1 h2 h3) | (refine store35 rfl rfl (.tmp 4) (.tmp 12) rfl zg rfl op0 rfl rfl (m := op0) rfl HK2.out.head ?_; intro w3 h21 h22 h23; have HK3 := Aside0.mk (HK2.out.put h22 HZG.out (by simpa using HZN.out) h21); have q7 := (step_at x (.slice A x.keep.length c) HL.out); have a1 := HK3.out.tail.head.cell q7.1; have a2 := HK3.out.tail.head.cell q7.2.1; have a3 := HK3.out.tail.head.cell q7.2.2.1; have a4 := HK3.out.tail.head.cell q7.2.2.2.1; have a5 := HK3.out.tail.head.cell q7.2.2.2.2; rw [hcr] at a2; clear h21 h22 h23 q7) | ((with_reducible refine gate_dst (N := 16) rfl ?_); refine loadOp rfl (.tmp 15) rfl g rfl x _ HL.out HK3.out.tail.head ?_) | ((with_reducible refine gate_dst (N := 17) rfl ?_); refine loadB35 rfl (.tmp 4) rfl zg rfl op0 rfl HK3.out.head ?_) | ((with_reducible refine gate_dst (N := 18) rfl ?_); refine neq35 rfl (.tmp 16) (.tmp 17) rfl x.op op0 rfl rfl HG.out.op goodop0 _ HB0.out ?_) | (go_at_call 21; refine (fits_calls x.tear _).mono ?_; rintro e w4 ⟨rfl, hbb⟩; rw [HFT.out]; have HK4 := Aside0.mk (HK3.out.step hbb); clear hbb))
  clear a1 a2 a3 a4 a5
  refine wp_region_held_drew (S := (fun w' => Blk w' g 41 (stepC x (.slice A x.keep.length c)))) (by kernel_rfl) (by exact HK4.out.tail.head.drew) (fun hHeld => ?_)
  refine wpAnyH_tk (i := 0) (v := ?vz1) 31 rfl rfl (by kernel_rfl) (by kernel_rfl) (by kernel_rfl) (fun _ _ _ h => h) (Or.inl ⟨by rfl, ?yz1⟩) hHeld ?rz1
  case yz1 => (intro w hSw; go_simp; try (first | with_reducible rfl | (rw [if_neg (by omega)]; try with_reducible rfl)))
  (try simp only [Act.put, List.setIfInBounds_toArray, List.set_cons_zero, List.set_cons_succ])
  refine wpAnyH_tk (i := 1) (v := ?vz2) 32 rfl rfl (by kernel_rfl) (by kernel_rfl) (by kernel_rfl) (fun _ _ _ h => h) (Or.inl ⟨by rfl, ?yz2⟩) hHeld ?rz2
  case yz2 => (intro w hSw; go_simp; try (first | with_reducible rfl | (rw [if_neg (by omega)]; try with_reducible rfl)))
  (try simp only [Act.put, List.setIfInBounds_toArray, List.set_cons_zero, List.set_cons_succ])
  refine wpAnyH_tk (i := 2) (v := _) 33 rfl rfl (by kernel_rfl) (by kernel_rfl) (by kernel_rfl) (fun _ _ _ h => h) (yields_cell (by rfl) 37 (.tmp 32) rfl ⟨g, 40, none⟩ rfl (v := .int .u64 (u : Int)) (fun w h => h.cell C40.out) Tryd.underlying37 rfl) hHeld ?_
  (try simp only [Act.put, List.setIfInBounds_toArray, List.set_cons_zero, List.set_cons_succ])
  refine wpAnyH_tk (i := 6) (v := ?vz3) 37 rfl rfl (by kernel_rfl) (by kernel_rfl) (by kernel_rfl) (fun _ _ _ h => h) (Or.inl ⟨by rfl, ?yz3⟩) hHeld ?rz3
  case yz3 => (intro w hSw; go_simp; try (first | with_reducible rfl | (rw [if_neg (by omega)]; try with_reducible rfl)))
  (try simp only [Act.put, List.setIfInBounds_toArray, List.set_cons_zero, List.set_cons_succ])
  refine wpAnyH_tk (i := 7) (v := ?vz4) 38 rfl rfl (by kernel_rfl) (by kernel_rfl) (by kernel_rfl) (fun _ _ _ h => h) (Or.inl ⟨by rfl, ?yz4⟩) hHeld ?rz4
  case yz4 => (intro w hSw; go_simp; try (first | with_reducible rfl | (rw [if_neg (by omega)]; try with_reducible rfl)))
  (try simp only [Act.put, List.setIfInBounds_toArray, List.set_cons_zero, List.set_cons_succ])
  refine wpAnyH_tk (i := 8) (v := _) 39 rfl rfl (by kernel_rfl) (by kernel_rfl) (by kernel_rfl) (fun _ _ _ h => h) (yields_cell (by rfl) 3 (.tmp 38) rfl ⟨g, 41, none⟩ rfl (v := .int .i64 (tn : Int)) (fun w h => h.cell C41.out) Tryd.underlying3 rfl) hHeld ?_
  (try simp only [Act.put, List.setIfInBounds_toArray, List.set_cons_zero, List.set_cons_succ])
  refine wpAnyH_tk (i := 9) (v := _) 40 rfl rfl (by kernel_rfl) (by kernel_rfl) (by kernel_rfl) (fun _ _ _ h => h) (show YieldsIf Tryd.prog _ _ _ (.int .u64 (tn : Int)) _ from Or.inl ⟨(by rfl), fun w hSw => by go_simp; first | exact HTW.out | (rw [HTW.out]) | skip⟩) hHeld ?_
  (try simp only [Act.put, List.setIfInBounds_toArray, List.set_cons_zero, List.set_cons_succ])
  refine wpAnyH_one (i := 3) (by kernel_rfl) rfl (fun K hK => ?_)
  go_simp
  go_wp2_with (go_at_call 22; refine (HSU.out _).mono ?_; rintro e w5 ⟨rfl, hbb⟩; have HK5 := Aside0.mk (HK4.out.drew.step hbb); clear hbb)
  refine hK.out _ _ (by exact HK5.out.tail.head) (fun hHeld => ?_)
  clear hK K
  refine wpAnyH_tk (i := 4) (v := ?vz5) 35 rfl rfl (by kernel_rfl) (by kernel_rfl) (by kernel_rfl) (fun _ _ _ h => h) (Or.inl ⟨by rfl, ?yz5⟩) hHeld ?rz5
  case yz5 => (intro w hSw; go_simp; try (first | with_reducible rfl | (rw [if_neg (by omega)]; try with_reducible rfl)))
  (try simp only [Act.put, List.setIfInBounds_toArray, List.set_cons_zero, List.set_cons_succ])
  refine wpAnyH_tk (i := 5) (v := ?vz6) 36 rfl rfl (by kernel_rfl) (by kernel_rfl) (by kernel_rfl) (fun _ _ _ h => h) (Or.inl ⟨by rfl, ?yz6⟩) hHeld ?rz6
  case yz6 => (intro w hSw; go_simp; try (first | with_reducible rfl | (rw [if_neg (by omega)]; try with_reducible rfl)))
  (try simp only [Act.put, List.setIfInBounds_toArray, List.set_cons_zero, List.set_cons_succ])
  refine wpAnyH_one (i := 10) (by kernel_rfl) rfl (fun K hK => ?_)
  go_simp
  go_wp2_with (go_at_call 22; refine (HSN.out _).mono ?_; rintro e w6 ⟨rfl, hbb⟩; have HK6 := Aside0.mk (HK5.out.step hbb); clear hbb)
  refine hK.out _ _ (by exact HK6.out.tail.head) (fun hHeld => ?_)
  clear hK K
  refine wpAnyH_tk (i := 11) (v := ?vz7) 42 rfl rfl (by kernel_rfl) (by kernel_rfl) (by kernel_rfl) (fun _ _ _ h => h) (Or.inl ⟨by rfl, ?yz7⟩) hHeld ?rz7
  case yz7 => (intro w hSw; go_simp; try (first | with_reducible rfl | (rw [if_neg (by omega)]; try with_reducible rfl)))
  (try simp only [Act.put, List.setIfInBounds_toArray, List.set_cons_zero, List.set_cons_succ])
  refine wpAnyH_tk (i := 12) (v := ?vz8) 5 rfl rfl (by kernel_rfl) (by kernel_rfl) (by kernel_rfl) (fun _ _ _ h => h) (Or.inl ⟨by rfl, ?yz8⟩) hHeld ?rz8
  case yz8 => (intro w hSw; go_simp; try (first | with_reducible rfl | (rw [if_neg (by omega)]; try with_reducible rfl)))
  (try simp only [Act.put, List.setIfInBounds_toArray, List.set_cons_zero, List.set_cons_succ])
  refine wpAnyH_done (by kernel_rfl) ?_ _
  skip
  clear hHeld
  have HT0 := Aside0.mk (show (⟨#[99, 114, 97, 115, 104, 32]⟩ ++ DU ++ ⟨#[32]⟩ ++ DN : ByteArray) = str base by
    rw [HDU.out, HDN.out, HBS.out]
    apply ByteArray.ext
    simp [str, sCrash])
  have q39 := HK6.out.tail.head.cell C39.out
  go_wp2_with fail
  go_loopw [5, 6] (fun v i wr => ∃ (k : Nat) (s : Bs), k ≤ x.keep.length ∧ i = .int .i64 k ∧ v = .string (str s) ∧ Aside0 (refKeep x.keep base = refKeep (x.keep.drop k) s) ∧ Aside0 (s.length ≤ 300 + 65 * k) ∧ Aside0 (Keeps w [(zg, 35, opC op0), (g, 41, stepC x (.slice A x.keep.length c))] wr)) (fun _ i _ => x.keep.length - (intOf i).toNat)
  case atStart => exact ⟨0, base, by omega, rfl, by rw [HT0.out], ⟨rfl⟩, ⟨by have := HBL.out; omega⟩, HK6⟩
  case round =>
    obtain ⟨k, s, hk, rfl, rfl, HS, HSL, HB⟩ := hrel
    rename World => wr
    have q39r := HB.out.tail.head.cell C39.out
    have hss : (str s).size ≤ 100000000 := by rw [Lib.size_eq, str_data]; have := HSL.out; omega
    by_cases hlt : k < x.keep.length
    · have hd : decide ((k : Int) < x.keep.length) = true := by simp; omega
      obtain ⟨ad, hA, hcy⟩ := Kd.at_int (Kd.C_below HC.out HB.out.below) (k : Int) (by omega) (by omega)
      rw [Int.toNat_natCast] at hcy
      have HS1 := Aside0.mk (refKeep_step hlt s)
      obtain ⟨y, hy⟩ : ∃ y, y = rd x.keep k := ⟨_, rfl⟩
      rw [← hy] at hcy HS1
      subst hA
      clear hy
      by_cases hf : fits y = true
      · obtain ⟨y0, y1⟩ := (fits_iff _).1 hf
        obtain ⟨yn, rfl⟩ : ∃ yn : Nat, y = (yn : Int) := ⟨y.toNat, by omega⟩
        have HS2 := Aside0.mk (show refKeep x.keep base = refKeep (x.keep.drop (k + 1)) (s ++ 32 :: dec yn) by rw [HS.out, HS1.out, if_pos hf, Int.toNat_natCast])
        have HFT2 := Aside0.mk hf
        have HSP := Aside0.mk (spell_calls yn (by omega))
        have hyw : IntKind.u64.wrap (yn : Int) = (yn : Int) := IntWalk.u64_in _ (by omega)
        have HL2 := Aside0.mk (show (s ++ 32 :: dec yn).length ≤ 300 + 65 * (k + 1) by have := HSL.out; have := dec_len yn (by omega); simp; omega)
        have hyz : (str (dec yn)).size ≤ 64 := by rw [Lib.size_eq, str_data]; exact dec_len yn (by omega)
        obtain ⟨D, hD⟩ : ∃ D, D = str (dec yn) := ⟨_, rfl⟩
        obtain ⟨S, hS⟩ : ∃ S, S = str s := ⟨_, rfl⟩
        rw [← hD] at HSP hyz
        rw [← hS] at hss ⊢
        have HCAT := Aside0.mk (show (S ++ ⟨#[32]⟩ ++ D : ByteArray) = str (s ++ 32 :: dec yn) by rw [hS, hD, str_cat])
        clear hD hf hS
        go_wp2_with (first | (go_at_call 21; refine (fits_calls (yn : Int) _).mono ?_; rintro e w7 ⟨rfl, hbb⟩; rw [HFT2.out]; have HB7 := Aside0.mk (HB.out.step hbb); have q39s := HB7.out.tail.head.cell C39.out; have hcz := pw_cell_below hbb hcy; clear hbb) | (go_at_call 22; (try rw [hyw]); refine (HSP.out _).mono ?_; rintro e w8 ⟨rfl, hbb⟩; have HB8 := Aside0.mk (HB7.out.step hbb); clear hbb))
        go_roundw
        case rel => exact ⟨k + 1, _, by omega, by go_num, by rw [HCAT.out], HS2, HL2, HB8⟩
        case measure => simp [intOf]; omega
      · have hf2 : fits y = false := by simpa using hf
        have HFF := Aside0.mk (show refLine x = none by rw [HF.out, HS.out, HS1.out, if_neg hf]; rfl)
        have HFT2 := Aside0.mk hf2
        clear hf hf2
        go_wp2_with (first | (go_at_call 21; refine (fits_calls y _).mono ?_; rintro e w7 ⟨rfl, hbb⟩; rw [HFT2.out]; have HB7 := Aside0.mk (HB.out.step hbb); clear hbb))
        go_ret2
        unfold RLineEnd
        rw [HFF.out]
        exact ⟨_, rfl, (fun s' h => by cases h), HB7.out.below⟩
    · obtain rfl : k = x.keep.length := by omega
      have hd : decide ((x.keep.length : Int) < x.keep.length) = false := by simp
      have HFF := Aside0.mk (show refLine x = some (s ++ [10]) by rw [HF.out, HS.out, List.drop_length]; rfl)
      go_wp2_with fail
      go_ret2
      unfold RLineEnd
      rw [HFF.out]
      exact ⟨_, rfl, (fun s' h => by
        obtain rfl := Option.some.inj h
        exact str_snoc10 s), HB.out.below⟩
end
end Go.Proofs.YtagpldkgkchfcaaDoor.Txt
