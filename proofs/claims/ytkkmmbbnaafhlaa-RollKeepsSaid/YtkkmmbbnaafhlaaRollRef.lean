/- Layer 15: what the document's answers come to. -/
import Derived.Test.YtkkmmbbnaafhlaaRollDo
namespace Go.Proofs.Ytkkmmbbnaafhlaa.Roll
set_option linter.unusedSimpArgs false
set_option linter.unusedVariables false
open Go.RowKit Go.Proofs.YtkkmmbbnaafhlaaW.PrintWords Go.Proofs.YtkkmmbbnaafhlaaW.PrintLast Go.Proofs.YtkkmmbbnaafhlaaW.PrintMore Arr PRollJoin

theorem w64 {n : Int} (h0 : -9223372036854775808 ≤ n) (h : n ≤ 9223372036854775807) : wrap64 n = n := by unfold wrap64; omega
/-! ### the same -/
theorem same09_ev (l : List Int) (hl : l.length ≤ 9223372036854775807) : ∀ d j : Nat, j + d = l.length → Ev (fun k => windrowref09_Same.l0 k l l (j : Int)) true := by
  intro d
  induction d with
  | zero =>
    intro j h
    refine Ev.step (f := fun _ => some true) (fun k => ?_) (Ev.now _)
    show windrowref09_Same.l0 (k + 1) l l _ = _
    rw [windrowref09_Same.l0, if_neg (by omega)]
  | succ d ih =>
    intro j h
    refine Ev.step (fun k => ?_) (ih (j + 1) (by omega))
    show windrowref09_Same.l0 (k + 1) l l _ = _
    rw [windrowref09_Same.l0, if_pos (by omega), if_pos (by omega), if_pos (by omega), if_pos rfl, w64 (by omega) (by omega)]
    rfl
theorem same09_calls (w : World) (A0 : Option Addr) (c0 : Nat) (A1 : Option Addr) (c1 : Nat) (l : List Int) (h0 : (Kd.int .i64).C w A0 l.length l) (hc0 : l.length ≤ c0) (h1 : (Kd.int .i64).C w A1 l.length l) (hc1 : l.length ≤ c1) :
    Calls Try.prog 15 #[.slice A0 l.length c0, .slice A1 l.length c1] w fun e w' => e = .returned (.bool true) ∧ Below w.heap.size w w' := by
  obtain ⟨k, hk⟩ := (same09_ev l (Kd.C_max h0) l.length 0 (by omega)).rounds
  refine (windrowref09_Same.calls k A0 c0 l A1 c1 l true w h0 hc0 h1 hc1 (by unfold windrowref09_Same.f; rw [if_pos rfl]; exact hk)).mono ?_
  rintro e w' ⟨he, hd⟩
  exact ⟨he, hd.below⟩
theorem same15_l1 (gs : List S28) (i : Nat) (hi : i < gs.length) (hm : (rd_T28 gs (i : Int)).f2.length ≤ 9223372036854775807) (h : Ev (fun k => windrowref15_Same.l0 k gs gs (wrap64 ((i : Int) + 1))) true) : ∀ d j : Nat, j + d = (rd_T28 gs (i : Int)).f2.length → Ev (fun k => windrowref15_Same.l1 k gs gs (i : Int) (j : Int)) true := by
  intro d
  induction d with
  | zero =>
    intro j hj
    refine Ev.step (fun k => ?_) h
    show windrowref15_Same.l1 (k + 1) gs gs _ _ = _
    rw [windrowref15_Same.l1, if_pos (by omega), if_pos (by omega), if_neg (by omega)]
  | succ d ih =>
    intro j hj
    refine Ev.step (fun k => ?_) (ih (j + 1) (by omega))
    show windrowref15_Same.l1 (k + 1) gs gs _ _ = _
    rw [windrowref15_Same.l1, if_pos (by omega), if_pos (by omega), if_pos (by omega), if_pos (by omega), if_pos (by omega), if_pos (by omega), if_neg (by simp), w64 (by omega) (by omega)]
    rfl
theorem same15_ev (gs : List S28) (hl : gs.length ≤ 9223372036854775807) (hm : ∀ i : Nat, i < gs.length → (rd_T28 gs (i : Int)).f2.length ≤ 9223372036854775807) : ∀ d i : Nat, i + d = gs.length → Ev (fun k => windrowref15_Same.l0 k gs gs (i : Int)) true := by
  intro d
  induction d with
  | zero =>
    intro i h
    refine Ev.step (f := fun _ => some true) (fun k => ?_) (Ev.now _)
    show windrowref15_Same.l0 (k + 1) gs gs _ = _
    rw [windrowref15_Same.l0, if_neg (by omega)]
  | succ d ih =>
    intro i h
    have h1 : Ev (fun k => windrowref15_Same.l1 k gs gs (i : Int) ((0 : Nat) : Int)) true := same15_l1 gs i (by omega) (hm i (by omega)) (by
      have := ih (i + 1) (by omega)
      rw [w64 (by omega) (by omega)]
      exact this) (rd_T28 gs (i : Int)).f2.length 0 (by omega)
    have h2 : Ev (fun k => windrowref15_Same.j1 k gs gs (i : Int) ((((rd_T28 gs (i : Int)).f2).length : Int) != (((rd_T28 gs (i : Int)).f2).length : Int))) true := by
      refine Ev.step (fun k => ?_) h1
      show windrowref15_Same.j1 (k + 1) gs gs _ _ = _
      rw [windrowref15_Same.j1, if_neg (by simp)]
      rfl
    refine Ev.step (fun k => ?_) h2
    show windrowref15_Same.l0 (k + 1) gs gs _ = _
    rw [windrowref15_Same.l0, if_pos (by omega), if_pos (by omega), if_pos (by omega), if_neg (by simp), if_pos rfl]
theorem f2_max {w : World} {A : Option Addr} {gs : List S28} (h : k28.C w A gs.length gs) (i : Nat) (hi : i < gs.length) : (rd_T28 gs (i : Int)).f2.length ≤ 9223372036854775807 := by
  obtain ⟨_, _, _, _, _, _, _, _, h4⟩ := at_T28 h (i : Int) (by omega) (by omega)
  exact Kd.C_max h4
theorem same15_calls (w : World) (A0 : Option Addr) (c0 : Nat) (A1 : Option Addr) (c1 : Nat) (gs : List S28) (h0 : k28.C w A0 gs.length gs) (hc0 : gs.length ≤ c0) (h1 : k28.C w A1 gs.length gs) (hc1 : gs.length ≤ c1) :
    Calls Try.prog 20 #[.slice A0 gs.length c0, .slice A1 gs.length c1] w fun e w' => e = .returned (.bool true) ∧ Below w.heap.size w w' := by
  obtain ⟨k, hk⟩ := (same15_ev gs (Kd.C_max h0) (fun i hi => f2_max h0 i hi) gs.length 0 (by omega)).rounds
  refine (windrowref15_Same.calls k A0 c0 gs A1 c1 gs true w h0 hc0 h1 hc1 (by unfold windrowref15_Same.f; rw [if_pos rfl]; exact hk)).mono ?_
  rintro e w' ⟨he, hd⟩
  exact ⟨he, hd.below⟩
/-! ### the clients' -/
def users (gs : List S28) : Nat := gs.countP fun g => !g.f0
theorem users_take (gs : List S28) (i : Nat) (h : i < gs.length) : users (gs.take (i + 1)) = users (gs.take i) + if (rd_T28 gs (i : Int)).f0 = true then 0 else 1 := by
  rw [take_rd28 gs i h]
  unfold users
  rw [List.countP_append]
  cases e : (rd_T28 gs (i : Int)).f0 <;> simp [e]
theorem users_le (gs : List S28) : users gs ≤ gs.length := List.countP_le_length
theorem users_ev (gs : List S28) (hl : gs.length ≤ 9223372036854775807) : ∀ d i : Nat, i + d = gs.length → Ev (fun k => roll_Users.l0 k (users (gs.take i) : Int) gs (gs.length : Int) (i : Int)) (users gs : Int) := by
  intro d
  induction d with
  | zero =>
    intro i h
    have e : gs.take i = gs := List.take_of_length_le (by omega)
    rw [e]
    refine Ev.step (f := fun _ => some (users gs : Int)) (fun k => ?_) (Ev.now _)
    show roll_Users.l0 (k + 1) _ gs _ _ = _
    rw [roll_Users.l0, if_neg (by omega)]
  | succ d ih =>
    intro i h
    refine Ev.step (fun k => ?_) (ih (i + 1) (by omega))
    show roll_Users.l0 (k + 1) _ gs _ _ = _
    have h1 := users_take gs i (by omega)
    have h2 := users_le (gs.take i)
    have h3 := List.length_take_le i gs
    rw [roll_Users.l0, if_pos (by omega), if_pos (by omega), if_pos (by omega), w64 (n := (i : Int) + 1) (by omega) (by omega), h1]
    cases e : (rd_T28 gs (i : Int)).f0
    · rw [if_neg (by decide), if_neg (by decide), w64 (by omega) (by omega)]
      rfl
    · rw [if_pos rfl, if_pos rfl]
      rfl
theorem users_calls (w : World) (A : Option Addr) (c : Nat) (gs : List S28) (h : k28.C w A gs.length gs) (hc : gs.length ≤ c) :
    Calls Try.prog 18 #[.slice A gs.length c] w fun e w' => e = .returned (.int .i64 (users gs)) ∧ Below w.heap.size w w' := by
  obtain ⟨k, hk⟩ := (users_ev gs (Kd.C_max h) gs.length 0 (by omega)).rounds
  exact roll_Users.calls k A c gs (users gs : Int) w h hc hk
/-! ### the same kinds, printed beside -/
def c44 (c : S44) : PRollDoes.S44 := ⟨c.f0, c.f1⟩
def c28 (g : S28) : PRollDoes.S28 := ⟨g.f0, g.f1, g.f2.map c44⟩
theorem C_conv {α β : Type} {d : Kd α} {d' : Kd β} (hs : d.sz = d'.sz) (f : α → β) (h : ∀ w x cs, d.K w x cs → d'.K w (f x) cs) {w : World} {A : Option Addr} {n : Nat} {xs : List α} (hc : d.C w A n xs) : d'.C w A n (xs.map f) := by
  obtain ⟨h1, h2, h3⟩ := hc
  refine ⟨by rw [List.length_map]; exact h1, h2, fun hn => ?_⟩
  obtain ⟨ad, e, h4⟩ := h3 hn
  refine ⟨ad, e, fun j p hp => ?_⟩
  rw [List.getElem?_map] at hp
  obtain ⟨q, hq, rfl⟩ := Option.map_eq_some_iff.1 hp
  obtain ⟨c, hc1, hc2, hc3⟩ := h4 j q hq
  exact ⟨c, by rw [hc1, hs], h _ _ _ hc2, fun i u hu => by rw [← hs]; exact hc3 i u hu⟩
theorem K_conv28 (w : World) (x : S28) (cs : List Value) (h : k28.K w x cs) : PRollDoes.k28.K w (c28 x) cs := by
  obtain ⟨A2, c2, rfl, hl, hC⟩ := k28_open h
  have := PRollDoes.k28_mk w (c28 x) (A2 := A2) (c2 := c2) (by simpa [c28] using hl) (by
    have := C_conv (d := k44) (d' := PRollDoes.k44) rfl c44 (fun w x cs h => by obtain rfl := k44_open h; exact PRollDoes.k44_mk w (c44 x)) hC
    simpa [c28] using this)
  simpa [c28] using this
theorem C28_conv {w : World} {A : Option Addr} {n : Nat} {gs : List S28} (h : k28.C w A n gs) : PRollDoes.k28.C w A n (gs.map c28) := C_conv (d := k28) (d' := PRollDoes.k28) rfl c28 K_conv28 h
/-! ### few groups? -/
theorem few_ev (gs : List PRollDoes.S28) (hl : gs.length ≤ 9223372036854775807) : ∀ d i : Nat, i + d = gs.length → ∀ n : Int, ∃ b, Ev (fun k => PRollDoes.windrowref15_Few.l0 k gs n (i : Int)) b := by
  intro d
  induction d with
  | zero =>
    intro i h n
    refine ⟨decide (n ≤ 200), Ev.step (f := fun _ => some (decide (n ≤ 200))) (fun k => ?_) (Ev.now _)⟩
    show PRollDoes.windrowref15_Few.l0 (k + 1) gs _ _ = _
    rw [PRollDoes.windrowref15_Few.l0, if_neg (by omega)]
  | succ d ih =>
    intro i h n
    by_cases hn : n ≤ 200
    · obtain ⟨b, hb⟩ := ih (i + 1) (by omega) (wrap64 (n + (((PRollDoes.rd_T28 gs (i : Int)).f2).length : Int)))
      refine ⟨b, Ev.step (fun k => ?_) hb⟩
      show PRollDoes.windrowref15_Few.l0 (k + 1) gs _ _ = _
      rw [PRollDoes.windrowref15_Few.l0, if_pos (by omega), if_pos hn, if_pos (by omega), w64 (n := (i : Int) + 1) (by omega) (by omega)]
      rfl
    · refine ⟨decide (n ≤ 200), Ev.step (f := fun _ => some (decide (n ≤ 200))) (fun k => ?_) (Ev.now _)⟩
      show PRollDoes.windrowref15_Few.l0 (k + 1) gs _ _ = _
      rw [PRollDoes.windrowref15_Few.l0, if_pos (by omega), if_neg hn]
theorem few_calls (w : World) (A : Option Addr) (c : Nat) (gs : List S28) (h : k28.C w A gs.length gs) (hc : gs.length ≤ c) : ∃ b : Bool,
    Calls Try.prog 14 #[.slice A gs.length c] w fun e w' => e = .returned (.bool b) ∧ Below w.heap.size w w' := by
  have hl : (gs.map c28).length = gs.length := List.length_map _
  have h' := C28_conv h
  rw [← hl] at h'
  obtain ⟨b, hb⟩ := few_ev (gs.map c28) (by rw [hl]; exact Kd.C_max h) (gs.map c28).length 0 (by omega) ((gs.map c28).length : Int)
  obtain ⟨k, hk⟩ := hb.rounds
  refine ⟨b, ?_⟩
  rw [← hl]
  refine (PRollDoes.windrowref15_Few.calls k A c (gs.map c28) b w h' (by rw [hl]; exact hc) hk).mono ?_
  rintro e w' ⟨he, hd⟩
  exact ⟨he, hd.below⟩
/-! ### done, block by block -/
def val (b acc : Int) (c : PRollDoes.S44) : Int := if c.f0 = b then c.f1 else acc
def vals (b acc : Int) (g : PRollDoes.S28) : Int := g.f2.foldl (val b) acc
theorem rdo_l2 (p : List Int) (gs : List PRollDoes.S28) (out : List Int) (b : Int) (i : Nat) (hi : i < gs.length) (hm : (PRollDoes.rd_T28 gs (i : Int)).f2.length ≤ 9223372036854775807) (r : List Int) : ∀ d j : Nat, j + d = (PRollDoes.rd_T28 gs (i : Int)).f2.length → ∀ acc : Int,
    Ev (fun k => PRollDoes.windrowref15_Do.l1 k p gs out b (((PRollDoes.rd_T28 gs (i : Int)).f2.drop j).foldl (val b) acc) (wrap64 ((i : Int) + 1))) r → Ev (fun k => PRollDoes.windrowref15_Do.l2 k p gs out b acc (i : Int) (j : Int)) r := by
  intro d
  induction d with
  | zero =>
    intro j hj acc h
    rw [List.drop_of_length_le (by omega)] at h
    refine Ev.step (fun k => ?_) h
    show PRollDoes.windrowref15_Do.l2 (k + 1) p gs out b acc _ _ = _
    rw [PRollDoes.windrowref15_Do.l2, if_pos (by omega), if_pos (by omega), if_neg (by omega)]
    rfl
  | succ d ih =>
    intro j hj acc h
    have hjl : j < (PRollDoes.rd_T28 gs (i : Int)).f2.length := by omega
    rw [List.drop_eq_getElem_cons hjl, List.foldl_cons] at h
    refine Ev.step (fun k => ?_) (ih (j + 1) (by omega) _ h)
    show PRollDoes.windrowref15_Do.l2 (k + 1) p gs out b acc _ _ = _
    have e : PRollDoes.rd_T44 (PRollDoes.rd_T28 gs (i : Int)).f2 (j : Int) = (PRollDoes.rd_T28 gs (i : Int)).f2[j] := by
      unfold PRollDoes.rd_T44
      rw [Int.toNat_natCast, List.getD_eq_getElem?_getD, List.getElem?_eq_getElem hjl]; rfl
    rw [PRollDoes.windrowref15_Do.l2, if_pos (by omega), if_pos (by omega), if_pos (by omega), if_pos (by omega), e, w64 (n := (j : Int) + 1) (by omega) (by omega)]
    unfold val
    by_cases hb : (PRollDoes.rd_T28 gs (i : Int)).f2[j].f0 = b
    · rw [if_pos hb, if_pos hb]; rfl
    · rw [if_neg hb, if_neg hb]; rfl
theorem rdo_l1 (p : List Int) (gs : List PRollDoes.S28) (hl : gs.length ≤ 9223372036854775807) (hm : ∀ i : Nat, i < gs.length → (PRollDoes.rd_T28 gs (i : Int)).f2.length ≤ 9223372036854775807) (out : List Int) (ho : out.length < 17592186044416) (b : Int) (r : List Int) : ∀ d i : Nat, i + d = gs.length → ∀ acc : Int,
    Ev (fun k => PRollDoes.windrowref15_Do.l0 k p gs (out ++ [(gs.drop i).foldl (vals b) acc]) (wrap64 (b + 1))) r → Ev (fun k => PRollDoes.windrowref15_Do.l1 k p gs out b acc (i : Int)) r := by
  intro d
  induction d with
  | zero =>
    intro i hi acc h
    rw [List.drop_of_length_le (by omega)] at h
    refine Ev.step (fun k => ?_) h
    show PRollDoes.windrowref15_Do.l1 (k + 1) p gs out b acc _ = _
    rw [PRollDoes.windrowref15_Do.l1, if_neg (by omega), if_pos ho]
    rfl
  | succ d ih =>
    intro i hi acc h
    have hil : i < gs.length := by omega
    rw [List.drop_eq_getElem_cons hil, List.foldl_cons] at h
    have e : PRollDoes.rd_T28 gs (i : Int) = gs[i] := by
      unfold PRollDoes.rd_T28
      rw [Int.toNat_natCast, List.getD_eq_getElem?_getD, List.getElem?_eq_getElem hil]; rfl
    have h1 := ih (i + 1) (by omega) _ h
    have h2 : Ev (fun k => PRollDoes.windrowref15_Do.l2 k p gs out b acc (i : Int) ((0 : Nat) : Int)) r := rdo_l2 p gs out b i hil (hm i hil) r (PRollDoes.rd_T28 gs (i : Int)).f2.length 0 (by omega) acc (by
      rw [List.drop_zero, w64 (by omega) (by omega), e]
      exact h1)
    refine Ev.step (fun k => ?_) h2
    show PRollDoes.windrowref15_Do.l1 (k + 1) p gs out b acc _ = _
    rw [PRollDoes.windrowref15_Do.l1, if_pos (by omega)]
    rfl
def refDo (p : List Int) (gs : List PRollDoes.S28) : List Int := (List.range p.length).map fun b : Nat => gs.foldl (vals (b : Int)) (p.getD b 0)
theorem rdo_ev (p : List Int) (hp : p.length ≤ 1000) (gs : List PRollDoes.S28) (hl : gs.length ≤ 9223372036854775807) (hm : ∀ i : Nat, i < gs.length → (PRollDoes.rd_T28 gs (i : Int)).f2.length ≤ 9223372036854775807) : ∀ d b : Nat, b + d = p.length →
    Ev (fun k => PRollDoes.windrowref15_Do.l0 k p gs ((refDo p gs).take b) (b : Int)) (refDo p gs) := by
  have hrl : (refDo p gs).length = p.length := by simp [refDo]
  intro d
  induction d with
  | zero =>
    intro b h
    rw [List.take_of_length_le (by omega)]
    refine Ev.step (f := fun _ => some (refDo p gs)) (fun k => ?_) (Ev.now _)
    show PRollDoes.windrowref15_Do.l0 (k + 1) p gs _ _ = _
    rw [PRollDoes.windrowref15_Do.l0, if_neg (by omega)]
  | succ d ih =>
    intro b h
    have h1 := ih (b + 1) (by omega)
    have hb : b < (refDo p gs).length := by omega
    rw [List.take_add_one, List.getElem?_eq_getElem hb] at h1
    have e : (refDo p gs)[b] = (gs.drop 0).foldl (vals (b : Int)) (rd p (b : Int)) := by
      unfold refDo rd
      simp
    have h2 : Ev (fun k => PRollDoes.windrowref15_Do.l1 k p gs ((refDo p gs).take b) (b : Int) (rd p (b : Int)) ((0 : Nat) : Int)) (refDo p gs) :=
      rdo_l1 p gs hl hm _ (by have := List.length_take_le b (refDo p gs); omega) (b : Int) _ gs.length 0 (by omega) _ (by
        rw [w64 (by omega) (by omega), ← e]
        exact h1)
    refine Ev.step (fun k => ?_) h2
    show PRollDoes.windrowref15_Do.l0 (k + 1) p gs _ _ = _
    rw [PRollDoes.windrowref15_Do.l0, if_pos (by omega), if_pos (by omega)]
    rfl
/-! ### both ways -/
def val' (b acc : Int) (c : S44) : Int := if c.f0 = b then c.f1 else acc
theorem dstep_get (p : List Int) (c : S44) (b : Nat) (hb : b < p.length) : (dstep p c).getD b 0 = val' b (p.getD b 0) c := by
  unfold dstep val'
  by_cases h : 0 ≤ c.f0 ∧ c.f0 < (p.length : Int)
  · rw [if_pos h, List.getD_eq_getElem?_getD, List.getElem?_set]
    by_cases e : c.f0 = (b : Int)
    · have e2 : c.f0.toNat = b := by omega
      rw [if_pos e, if_pos e2, if_pos (by omega)]; rfl
    · have e2 : c.f0.toNat ≠ b := by omega
      rw [if_neg e, if_neg e2, ← List.getD_eq_getElem?_getD]
  · rw [if_neg h, if_neg (by omega)]
theorem dGrp_get (cs : List S44) (b : Nat) : ∀ p : List Int, b < p.length → (cs.foldl dstep p).getD b 0 = cs.foldl (val' (b : Int)) (p.getD b 0) := by
  induction cs with
  | nil => intro p _; rfl
  | cons c cs ih =>
    intro p hb
    rw [List.foldl_cons, List.foldl_cons, ih (dstep p c) (by rw [dstep_len]; exact hb), dstep_get p c b hb]
theorem doAll_get (gs : List S28) (b : Nat) : ∀ p : List Int, b < p.length → (doAll p gs).getD b 0 = (gs.map c28).foldl (vals (b : Int)) (p.getD b 0) := by
  induction gs with
  | nil => intro p _; rfl
  | cons g gs ih =>
    intro p hb
    show (doAll (dGrp p g) gs).getD b 0 = _
    rw [ih (dGrp p g) (by unfold dGrp; rw [dGrp_len]; exact hb), List.map_cons, List.foldl_cons]
    congr 1
    unfold dGrp vals c28
    rw [dGrp_get g.f2 b p hb, List.foldl_map]
    rfl
theorem do_ref (p : List Int) (gs : List S28) : refDo p (gs.map c28) = doAll p gs := by
  apply List.ext_getElem
  · simp [refDo, doAll_len]
  · intro b h1 h2
    have hb : b < p.length := by simpa [refDo] using h1
    have h := doAll_get gs b p hb
    rw [List.getD_eq_getElem?_getD, List.getElem?_eq_getElem h2] at h
    simp only [Option.getD_some] at h
    rw [h]
    simp [refDo]
theorem rdo_calls (w : World) (A0 : Option Addr) (c0 : Nat) (p : List Int) (h0 : (Kd.int .i64).C w A0 p.length p) (hc0 : p.length ≤ c0) (hp : p.length ≤ 1000) (A1 : Option Addr) (c1 : Nat) (gs : List S28) (h1 : k28.C w A1 gs.length gs) (hc1 : gs.length ≤ c1) :
    Calls Try.prog 17 #[.slice A0 p.length c0, .slice A1 gs.length c1] w fun e w' => ∃ v, e = .returned v ∧ RI w' w.heap.size v (doAll p gs) ∧ Below w.heap.size w w' := by
  have hl : (gs.map c28).length = gs.length := List.length_map _
  have h' := C28_conv h1
  rw [← hl] at h'
  obtain ⟨k, hk⟩ := (rdo_ev p hp (gs.map c28) (by rw [hl]; exact Kd.C_max h1) (fun i hi => by
    have := f2_max h1 i (by omega)
    have e : PRollDoes.rd_T28 (gs.map c28) (i : Int) = c28 (rd_T28 gs (i : Int)) := by
      unfold PRollDoes.rd_T28 rd_T28
      rw [Int.toNat_natCast, List.getD_eq_getElem?_getD, List.getD_eq_getElem?_getD, List.getElem?_map, List.getElem?_eq_getElem (by omega)]
      rfl
    rw [e]
    simpa [c28] using this) p.length 0 (by omega)).rounds
  rw [← hl]
  refine (PRollDoes.windrowref15_Do.calls k A0 c0 p A1 c1 (gs.map c28) _ w h0 hc0 h' (by rw [hl]; exact hc1) hk).mono ?_
  rintro e w' ⟨v, he, hR, hb⟩
  rw [do_ref] at hR
  exact ⟨v, he, hR, hb⟩
end Go.Proofs.Ytkkmmbbnaafhlaa.Roll
