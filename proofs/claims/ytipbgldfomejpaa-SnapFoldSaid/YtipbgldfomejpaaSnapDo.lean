/- The walk of layer 17's law's acts. -/
import Derived.Test.YtipbgldfomejpaaSnapRef
namespace Go.Proofs.Ytipbgldfomejpaa.Snap
set_option linter.unusedSimpArgs false
set_option linter.unusedVariables false
open Go.RowKit Go.Proofs.YtipbgldfomejpaaW.PrintWords Go.Proofs.YtipbgldfomejpaaW.PrintLast Go.Proofs.YtipbgldfomejpaaW.PrintMore Arr

def actC (a : Act) (A : Option Addr) (c : Nat) : List Value := [.int .u8 a.kind, .slice A a.olds.length c, .int .i64 a.n]
theorem at48v {w : World} {A : Option Addr} {n : Nat} {l : List Act} (h : Kd.C k48 w A n l) (i : Nat) (h1 : i < n) : ∃ ad Ao co, A = some ad ∧ (∀ j u, (actC (ac l i) Ao co)[j]? = some u → w.cell? ((ad.add (i * 3)).add j) = some u) ∧ (ac l i).olds.length ≤ co ∧ CO w Ao (ac l i).olds.length (ac l i).olds := by
  obtain ⟨ad, c, e, _, hK, hc0⟩ := Kd.C_get h act0 (i : Int) (by omega) (by omega)
  rw [Int.toNat_natCast] at hK hc0
  have hc : ∀ j u, c[j]? = some u → w.cell? (ad.add (i * 3 + j)) = some u := hc0
  obtain ⟨_, _, rfl, rfl, ⟨_, _, rfl, ⟨Ao, co, rfl, hl, hC⟩, rfl⟩⟩ := hK
  refine ⟨ad, Ao, co, e, fun j u hu => ?_, hl, hC⟩
  have := hc j u hu
  rwa [Addr.add_add]
/-- The document, after an act. -/
def doAct (st : All × Nat) (a : Act) : All × Nat := if a.kind % 2 = 0 then (st.1 ++ [a.olds], st.2) else (st.1, max st.2 (min a.n st.1.length).toNat)
def DocAt (w : World) (s ob lb : Nat) (st : All × Nat) (m : Nat) : Prop := SnapAt w s ob lb (st.1.length : Int) (canon st.1 st.2) (lastOf st.1) m ∧ st.2 ≤ st.1.length
theorem doAct_len (st : All × Nat) (a : Act) : (doAct st a).1.length ≤ st.1.length + 1 := by
  unfold doAct; split <;> simp
set_option maxRecDepth 10000 in
set_option maxHeartbeats 2000000 in
theorem do_calls (w : World) (s ob lb m : Nat) (st : All × Nat) (hS : DocAt w s ob lb st m) (A : Option Addr) (c : Nat) (a : Act) (hCO : ∀ w1, Moves w w1 s ob lb → CO w1 A a.olds.length a.olds) (hG : gAct a) (hn : st.1.length ≤ 100000) (hm : m + a.olds.length ≤ 100000) :
    Calls Try.prog 18 #[.pointer (some ⟨s, 0, none⟩), .agg (actC a A c).toArray] w fun e w' => e = .returned (.tuple #[]) ∧ DocAt w' s ob lb (doAct st a) (m + a.olds.length) ∧ Moves w w' s ob lb := by
  obtain ⟨hS, hg⟩ := hS
  have HS := Aside0.mk hS
  have HC := Aside0.mk hCO
  have HG := Aside0.mk hG
  have hk := bounds_u8 hG.1
  obtain ⟨k, ol, n⟩ := a
  obtain ⟨all, gone⟩ := st
  simp only at hS HS HC hk hg hn hm
  have HDO := Aside0.mk (show doAct (all, gone) ⟨k, ol, n⟩ = if k % 2 = 0 then (all ++ [ol], gone) else (all, max gone (min n all.length).toNat) from rfl)
  obtain ⟨D, hD⟩ : ∃ D, D = doAct (all, gone) ⟨k, ol, n⟩ := ⟨_, rfl⟩
  rw [← hD] at HDO ⊢
  show Calls Try.prog 18 #[.pointer (some ⟨s, 0, none⟩), .agg #[.int .u8 k, .slice A ol.length c, .int .i64 n]] w _
  clear hS hCO hG hD
  go_enter Try.func18, Try.ntmps18
  have HW0 := Aside0.mk (World.grownBy_alloc w (.cells #[.int .u8 k, .slice A ol.length c, .int .i64 n] 48) none)
  by_cases hk2 : k % 2 = 0
  · have hd : decide (k % 2 = 0) = true := by simp; exact hk2
    go_wp2_with (first | (go_at_call 14; refine (commit_calls _ s ob lb m _ _ _ (HS.out.fresh HW0.out) A c ol (fun w2 h2 => HC.out w2 ((Moves.fresh HW0.out).trans h2)) HG.out.2.1.2 (by omega) (by omega) (by omega)).mono ?_; rintro e w1 ⟨rfl, hS1, hM1⟩; have HS1 := Aside0.mk hS1; have HM1 := Aside0.mk hM1; clear hS1 hM1))
    go_end0
    refine ⟨rfl, ?_, (Moves.fresh HW0.out).trans HM1.out⟩
    rw [HDO.out, if_pos hk2]
    have h := HS1.out
    rw [canon_commit all gone hg ol] at h
    refine ⟨?_, by simp; omega⟩
    show SnapAt w1 s ob lb ((all ++ [ol]).length : Nat) _ _ _
    rw [show (((all ++ [ol]).length : Nat) : Int) = (all.length : Int) + 1 by simp]
    exact h
  · have hd : decide (k % 2 = 0) = false := by simp; omega
    go_wp2_with (first | (go_at_call 25; refine (forget_calls _ s ob lb m _ _ _ (HS.out.fresh HW0.out) n).mono ?_; rintro e w1 ⟨rfl, hS1, hM1⟩; have HS1 := Aside0.mk hS1; have HM1 := Aside0.mk hM1; clear hS1 hM1))
    go_end0
    refine ⟨rfl, ?_, (Moves.fresh HW0.out).trans HM1.out⟩
    rw [HDO.out, if_neg hk2]
    have h := HS1.out
    rw [canon_forget all gone n (max gone (min n all.length).toNat) (fun i hi => by omega)] at h
    exact ⟨h.mono (by omega), by show max gone (min n all.length).toNat ≤ all.length; omega⟩
/-! ### The law's document is a list of acts, done. -/
def doTo (st : All × Nat) (l : List Act) : All × Nat := l.foldl doAct st
def oldsTo (l : List Act) (k : Nat) : Nat := ((l.take k).map fun a => a.olds.length).sum
theorem doTo_succ (st : All × Nat) (l : List Act) (k : Nat) (h : k < l.length) : doTo st (l.take (k + 1)) = doAct (doTo st (l.take k)) (ac l k) := by
  unfold doTo; rw [take_ac l k h, List.foldl_append]; rfl
theorem oldsTo_succ (l : List Act) (k : Nat) (h : k < l.length) : oldsTo l (k + 1) = oldsTo l k + (ac l k).olds.length := by
  unfold oldsTo
  rw [take_ac l k h, List.map_append, List.sum_append]
  simp
theorem doTo_len (l : List Act) : ∀ k, k ≤ l.length → (doTo ([], 0) (l.take k)).1.length ≤ k
  | 0, _ => Nat.le_refl _
  | k + 1, h => by
    rw [doTo_succ _ _ _ (by omega)]
    have := doAct_len (doTo ([], 0) (l.take k)) (ac l k)
    have := doTo_len l k (by omega)
    omega
theorem oldsTo_le (l : List Act) (k : Nat) (hk : k ≤ l.length) : l.length + oldsTo l k ≤ tot l l.length := by
  have := tot_mono l k (l.length - k) (by omega)
  rw [show k + (l.length - k) = l.length by omega] at this
  exact this
end Go.Proofs.Ytipbgldfomejpaa.Snap
