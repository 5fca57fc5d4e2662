/- The walks of layer 17: what is forgotten. -/
import Derived.Test.YtipbgldfomejpaaSnapRead
import Derived.Deep.LoopGhost
namespace Go.Proofs.Ytipbgldfomejpaa.Snap
set_option linter.unusedSimpArgs false
set_option linter.unusedVariables false
open Go.RowKit Go.Proofs.YtipbgldfomejpaaW.PrintWords Go.Proofs.YtipbgldfomejpaaW.PrintLast Go.Proofs.YtipbgldfomejpaaW.PrintMore Arr

set_option maxHeartbeats 1000000 in
theorem del_calls (w : World) (b k n : Int) (o : Old) (hl : o.data.length = 32) (p : Addr) (hp : w.cell? p = some (.int .i64 n)) : Calls Try.prog 36 #[.agg #[.int .i64 b, .int .i64 k], .agg (oldC o).toArray, .pointer (some p)] w fun e w' => e = .returned (.bool (decide (k ≤ n))) ∧ w.grownBy w' none := by
  have hlt := World.block_lt_of_cell? w p hp
  go_enter Try.func36, Try.ntmps36
  go_wp2_with fail
  go_ret
  exact ⟨rfl, (World.grownBy_alloc _ _ none).trans (World.grownBy_alloc _ _ none)⟩
/-- The entries that are struck. -/
def upTo (n : Int) (k : Key) : Bool := decide (k.2 ≤ n)
open Classical in
noncomputable def pd (n : Int) (l : Lit) (_ : DataW Value) : Bool := if ∃ b k, l = kl b k ∧ (Lit.int .i64 b).wf = true ∧ (Lit.int .i64 k).wf = true ∧ k ≤ n then true else false
theorem pd_kl {n b k : Int} (hb : (Lit.int .i64 b).wf = true) (hk : (Lit.int .i64 k).wf = true) (d : DataW Value) : pd n (kl b k) d = decide (k ≤ n) := by
  unfold pd
  by_cases h : k ≤ n
  · rw [if_pos ⟨b, k, rfl, hb, hk, h⟩]; simp [h]
  · rw [if_neg]
    · simp [h]
    · rintro ⟨b', k', e, hb', hk', h'⟩
      obtain ⟨_, e2⟩ := kl_inj hb hk hb' hk' e
      omega
theorem entry_of {es0 : List (Lit × DataW Value)} {L : Cont} (h : Fits es0 L) {P2 : Lit → DataW Value → Bool} {left : Lit → Bool} {x c : Value} {q : Lit} (hkey : keyOf Try.prog 76 x = some q) (hat : ∀ zd, (Maps.Fk P2 es0 left).atKey q zd = .held c) : ∃ p ∈ L, x = keyV p.1.1 p.1.2 ∧ q = kl p.1.1 p.1.2 ∧ c = .agg (oldC p.2).toArray := by
  have h1 := Maps.has_true_of_atKey hat
  unfold Maps.Fk at h1 hat
  rw [Maps.has_eq, List.any_eq_true] at h1
  obtain ⟨p, hp, hsame⟩ := h1
  have hpe := (List.mem_filter.1 hp).1
  obtain ⟨q', hq', rfl⟩ := List.mem_map.1 (h.perm.mem_iff.1 hpe)
  have hk := WideAt.sameKey_eq hsame
  have hg := h.good q' hq'
  have hx : x = keyV q'.1.1 q'.1.2 := law76.inj hkey (by rw [← hk]; exact keyOf76 hg.1 hg.2.1)
  refine ⟨q', hq', hx, hk.symm, ?_⟩
  have h2 := WideAt.atKey_mem .nil (law76.key hkey) (h.pair.filter _) (k := q) (d := (ent q').2) (by rw [← hk]; exact hp)
  rw [hat] at h2
  injection h2
set_option maxHeartbeats 8000000 in
set_option maxRecDepth 100000 in
theorem delete_calls (w : World) (ob m : Nat) (L : Cont) (hO : OldMap w ob m L) (n : Int) (p : Addr) (hp : w.cell? p = some (.int .i64 n)) (hpb : p.block ≠ ob) :
    Calls Try.prog 35 #[.map (some ob), .func (.func 36) #[] #[.pointer (some p)]] w fun e w' => e = .returned (.tuple #[]) ∧ OldMap w' ob m (L.filter fun q => !upTo n q.1) ∧ w.grownBy w' (some ob) := by
  obtain ⟨es0, hown, hF⟩ := hO
  have HF := Aside0.mk hF
  obtain ⟨es1, he, hap, hkeys⟩ := hown.entries law76
  injection he with he
  subst he
  have HP := Aside0.mk hp
  have HAP := Aside0.mk hap
  have HKS := Aside0.mk hkeys
  clear hF hp hap hkeys
  go_enter Try.func35, Try.ntmps35
  go_wp2_with (first | (at_range; refine wpList_range_own _ rfl _ 71 rfl 76 29 law76 Try.underlying71 RV ob m _ rfl hown ?_; intro w0 hrg0 hg0 hs0) | go_in)
  go_frame
  have HRG := Aside0.mk hrg0
  have HG := Aside0.mk hg0
  clear hrg0 hg0 hs0 hown
  go_loopw [8] (fun _ wr => ∃ (left : Lit → Bool) (cnt : Nat), Aside0 (wr.ranges Try.prog 76 RV ob w.heap.size m (Maps.Fk (pd n) es0 left) left cnt) ∧ Aside0 (w.grownBy wr (some ob)))
    (fun _ wr => wr.rangeLeft ob w.heap.size)
  case atStart => exact ⟨_, _, ⟨by rw [Maps.Fk_start HKS.out]; exact HRG.out⟩, ⟨HG.out.but _⟩⟩
  case round =>
    clear HRG HG
    obtain ⟨left, cnt, hrg0, hgw0⟩ := hrel
    have hrg := hrg0.out
    have hgw := hgw0.out
    go_wp2_with (first | (at_next; refine wpList_next_ranges _ rfl _ rfl 76 law76 RV id id (fun key _ _ => ⟨key, rfl⟩) (fun v _ _ => ⟨v, rfl⟩) ob w.heap.size m _ _ _ rfl hrg ?_ ?_) | go_in)
    · intro _ hl0
      go_wp2
      go_end0
      obtain ⟨es', e, hf⟩ := HF.out.del (upTo n) (pd n) (fun q hq => by
        have hg := HF.out.good q hq
        exact pd_kl hg.1 hg.2.1 _)
      refine ⟨rfl, ⟨es', ?_, hf⟩, hgw⟩
      rw [← e, ← Maps.Fk_end hl0]
      exact hrg.owns
    · intro x c kl1 yd yp w1 cnt1 hkey hlx hv hat hrg1 hlt hg1 hs1 hen
      obtain ⟨rfl, rfl⟩ : yd = .held c ∧ yp = [] := by injection hv with hv; injection hv with h1 h2; exact ⟨h1.symm, h2.symm⟩
      have hen0 := hen
      obtain ⟨q, hq, rfl, rfl, rfl⟩ := entry_of HF.out hkey hat
      have hgood := HF.out.good q hq
      obtain ⟨⟨b, k⟩, o⟩ := q
      have hol : o.data.length = 32 := hgood.2.2
      have hpdk := pd_kl (n := n) hgood.1 hgood.2.1 (.held (.agg (oldC o).toArray))
      have HR1 := Aside0.mk hrg1
      have HG1 := Aside0.mk (hgw.andThen hg1 (fun j hj => by cases hj; exact Or.inl (Nat.le_refl _)))
      have HAT := Aside0.mk hat
      have HLX := Aside0.mk hlx
      have HLT := Aside0.mk (show cnt1 < wr.rangeLeft ob w.heap.size by rw [hrg.left_eq]; exact hlt)
      have HKEY := Aside0.mk hkey
      have hen' : (Instr.entry (.pointer (some ⟨w.heap.size, 0, none⟩))).run Try.prog w1 = .ok (.tuple #[.agg #[.int .i64 b, .int .i64 k], .agg (oldC o).toArray]) w1 := hen
      clear hrg hgw hrg0 hgw0 hat hlx hv hen hg1 hs1 hrg1 hkey hgood hq hlt
      have hw1 : w.heap.size < w1.heap.size := HR1.out.lt
      have hob1 : ob < w1.heap.size := HR1.out.owns.lt
      show wpList _ _ _ _ _ _
      go_upto_region 3 with (first | ((with_reducible refine gate_dst (N := 4) rfl ?_); refine wpl_alloc rfl 76 rfl _ info76 [.int .i64 0, .int .i64 0] rfl ?_; intro w2 kg h6 h7 h8; have HK2 := Aside0.mk h7; have HR2 := Aside0.mk (HR1.out.kept h8 (by simp) (by simp)); have HG2 := Aside0.mk (HG1.out.andThen h8 (fun j hj => by cases hj)); clear h7 h8) | ((with_reducible refine gate_dst (N := 5) rfl ?_); refine alloc29 rfl rfl ?_; intro w3 xg h16 h17 h18; have HX3 := Aside0.mk h17; have HK3 := Aside0.mk (HK2.out.grown h18 (by simp)); have HR3 := Aside0.mk (HR2.out.kept h18 (by simp) (by simp)); have HG3 := Aside0.mk (HG2.out.andThen h18 (fun j hj => by cases hj)); have hkx := Nat.lt_of_lt_of_le HK2.out.lt h16; clear h17 h18) | (refine wpl_storeAll rfl rfl 76 (.tmp 4) (.tmp 11) rfl kg rfl (keyC b k) rfl (by exact size76) (by intro v hv; unfold keyC at hv; simp at hv; rcases hv with rfl | rfl <;> rfl) HK3.out rfl ?_; intro w4 h21 h22 h23; have HK4 := Aside0.mk h21; have HX4 := Aside0.mk (HX3.out.grown h22 (by simp; omega)); have HR4 := Aside0.mk (HR3.out.kept h22 (by simp; omega) (by simp; omega)); have HG4 := Aside0.mk (HG3.out.andThen h22 (fun j hj => by cases hj; exact Or.inl (by omega))); clear h21 h22 h23) | (refine store29 rfl rfl (.tmp 5) (.tmp 12) rfl xg rfl o hol rfl (M := old0) rfl HX4.out ?_; intro w5 h24 h25 h26; have HX5 := Aside0.mk h24; have HK5 := Aside0.mk (HK4.out.grown h25 (by simp; omega)); have HR5 := Aside0.mk (HR4.out.kept h25 (by simp; omega) (by simp; omega)); have HG5 := Aside0.mk (HG4.out.andThen h25 (fun j hj => by cases hj; exact Or.inl (by omega))); clear h24 h25 h26))
      have hpc := HG5.out.cell HP.out (by simpa using hpb)
      have HDEL := Aside0.mk (del_calls w5 b k n o hol p hpc)
      have hpos : w.heap.size < w5.heap.size := HR5.out.lt
      clear HR1 HR2 HR3 HR4 HG1 HG2 HG3 HG4 HK2 HK3 HK4 HX3 HX4 hen' hen0 hpc
      by_cases hkn : k ≤ n
      · have hd : decide (k ≤ n) = true := by simp; omega
        rw [hd] at hpdk HDEL
        have HPD := Aside0.mk hpdk
        clear hpdk hkn hd
        go_wp2_with (first | ((with_reducible refine gate_dst (N := 14) rfl ?_); refine wpl_loadAll rfl 76 (.tmp 4) rfl kg rfl HK5.out Try.underlying76 rfl (by exact size76) ?_) | ((with_reducible refine gate_dst (N := 15) rfl ?_); refine loadB29 rfl (.tmp 5) rfl xg rfl o hol HX5.out ?_) | (go_at_call 36; refine HDEL.out.mono ?_; rintro e w6 ⟨rfl, hg6⟩; have HR6 := Aside0.mk (HR5.out.kept hg6 (by simp) (by simp)); have HK6 := Aside0.mk (HK5.out.grown hg6 (by simp)); have HG6 := Aside0.mk (HG5.out.andThen hg6 (fun j hj => by cases hj)); clear hg6) | ((with_reducible refine gate_dst (N := 18) rfl ?_); refine wpl_loadAll rfl 76 (.tmp 4) rfl kg rfl HK6.out Try.underlying76 rfl (by exact size76) ?_) | (at_delete; refine wpList_delete_ranges _ rfl _ _ 71 76 rfl 29 law76 Try.underlying71 RV ob w.heap.size m _ _ _ rfl HR6.out _ _ rfl HKEY.out ?_; intro w7 cnt7 hrg7 hle7 hturn7; go_frame))
        rw [Maps.strike_twice] at hrg7
        have HG7 := Aside0.mk (HG6.out.andThen hturn7.grown (fun j hj => by cases hj; exact Or.inr rfl))
        go_roundw
        case rel => exact ⟨_, cnt7, ⟨by rw [← Maps.Fk_struck HAP.out (isKey b k) HLX.out HPD.out HAT.out]; exact hrg7⟩, HG7⟩
        case measure => rw [hrg7.left_eq]; exact Nat.lt_of_le_of_lt hle7 HLT.out
      · have hd : decide (k ≤ n) = false := by simp; omega
        rw [hd] at hpdk HDEL
        have HPD := Aside0.mk hpdk
        clear hpdk hkn hd
        go_wp2_with (first | ((with_reducible refine gate_dst (N := 14) rfl ?_); refine wpl_loadAll rfl 76 (.tmp 4) rfl kg rfl HK5.out Try.underlying76 rfl (by exact size76) ?_) | ((with_reducible refine gate_dst (N := 15) rfl ?_); refine loadB29 rfl (.tmp 5) rfl xg rfl o hol HX5.out ?_) | (go_at_call 36; refine HDEL.out.mono ?_; rintro e w6 ⟨rfl, hg6⟩; have HR6 := Aside0.mk (HR5.out.kept hg6 (by simp) (by simp)); have HG6 := Aside0.mk (HG5.out.andThen hg6 (fun j hj => by cases hj)); clear hg6))
        go_roundw
        case rel => exact ⟨_, cnt1, ⟨by rw [← Maps.Fk_stays HAP.out (isKey b k) HLX.out HPD.out HAT.out]; exact HR6.out⟩, HG6⟩
        case measure => rw [HR6.out.left_eq]; exact HLT.out
set_option maxHeartbeats 2000000 in
theorem forget_calls (w : World) (s ob lb m : Nat) (now : Int) (L : Cont) (f : Int → Int) (hS : SnapAt w s ob lb now L f m) (n : Int) : Calls Try.prog 25 #[.pointer (some ⟨s, 0, none⟩), .int .i64 n] w fun e w' => e = .returned (.tuple #[]) ∧ SnapAt w' s ob lb now (L.filter fun q => !upTo n q.1) f m ∧ Moves w w' s ob lb := by
  have HS := Aside0.mk (hS.below' (below_alloc (Below.refl _ _) (.cells #[.int .i64 n] 3)))
  have h1 := HS.out.c1
  have hlt := hS.old.lt
  have HD := Aside0.mk (delete_calls _ ob m L HS.out.old n ⟨w.heap.size, 0, none⟩ (Blk.new w 3 [.int .i64 n] |>.cell rfl) (by simp; omega))
  clear hS
  go_enter Try.func25, Try.ntmps25
  go_wp2_with (first | (go_at_call 35; refine HD.out.mono ?_; rintro e w1 ⟨rfl, hO, hg⟩))
  go_end0
  refine ⟨rfl, ⟨HS.out.blk.grown hg (by simpa using fun e => HS.out.n1 e.symm), hO, HS.out.last.kept hg (by simpa using HS.out.ne.symm), HS.out.ne⟩, ?_⟩
  exact (Moves.of_below (below_alloc (Below.refl _ _) _)).put hg (.inr (.inr (.inl rfl)))
end Go.Proofs.Ytipbgldfomejpaa.Snap
