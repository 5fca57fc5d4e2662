/- The walks of layer 17's document's answers. -/
import Derived.Test.YtipbgldfomejpaaSnapLog
import Derived.Test.YtipbgldfomejpaaSDec
namespace Go.Proofs.Ytipbgldfomejpaa.Snap
set_option linter.unusedSimpArgs false
set_option linter.unusedVariables false
open Go.RowKit Go.Proofs.YtipbgldfomejpaaW.PrintWords Go.Proofs.YtipbgldfomejpaaW.PrintLast Go.Proofs.YtipbgldfomejpaaW.PrintMore Arr

structure Act where
  kind : Int
  olds : List Old
  n : Int
def act0 : Act := ⟨0, [], 0⟩
def k48 : Kd Act := Kd.iso (Kd.pair (Kd.int .u8) (Kd.pair (Kd.slice 29 k29) (Kd.int .i64))) (fun a : Act => (a.kind, a.olds, a.n))
def gOlds (l : List Old) : Prop := l.length * Try.prog.bytesOf 29 ≤ reachBytes ∧ ∀ o ∈ l, gOld o
def gAct (a : Act) : Prop := (Lit.int .u8 a.kind).wf = true ∧ gOlds a.olds ∧ (Lit.int .i64 a.n).wf = true
def gActs (l : List Act) : Prop := l.length * Try.prog.bytesOf 48 ≤ reachBytes ∧ ∀ a ∈ l, gAct a
section
attribute [local irreducible] Dec.Dec Dec.DecF Dec.SDec Dec.SDecF
theorem sdec48 : Dec.SDec Try.prog 48 k48 gAct :=
  Dec.sdec_struct (k := Kd.pair (Kd.int .u8) (Kd.pair (Kd.slice 29 k29) (Kd.int .i64))) (G := fun x => (Lit.int .u8 x.1).wf = true ∧ gOlds x.2.1 ∧ (Lit.int .i64 x.2.2).wf = true) (pr := fun a : Act => (a.kind, a.olds, a.n)) Try.underlying48 (by kernel_rfl)
    (Dec.sdecf_cons (Dec.SDec.of (Dec.dec_int Try.underlying5)) rfl (by kernel_rfl) (Dec.sdecf_cons (Dec.sdec_slice Try.underlying32 (Dec.SDec.of dec29) (by kernel_rfl)) rfl (by kernel_rfl) (Dec.sdecf_one (Dec.SDec.of (Dec.dec_int Try.underlying3)) rfl (by kernel_rfl)))) (fun ⟨a, b, c⟩ => ⟨⟨a, b, c⟩, rfl⟩)
theorem sdec41 : Dec.SDec Try.prog 41 (Kd.slice 48 k48) gActs := Dec.sdec_slice Try.underlying41 sdec48 (by kernel_rfl)
end
theorem bytes29 : Try.prog.bytesOf 29 = 48 := by kernel_rfl
theorem bytes48 : Try.prog.bytesOf 48 = 40 := by kernel_rfl
def ac (l : List Act) (i : Nat) : Act := l.getD i act0
theorem ac_at (l : List Act) (i : Nat) (h : i < l.length) : l[i]? = some (ac l i) := by
  unfold ac; rw [List.getD_eq_getElem?_getD, List.getElem?_eq_getElem h]; rfl
theorem ac_mem (l : List Act) (i : Nat) (h : i < l.length) : ac l i ∈ l := by
  unfold ac; rw [List.getD_eq_getElem?_getD, List.getElem?_eq_getElem h]; exact List.getElem_mem h
theorem take_ac (l : List Act) (k : Nat) (h : k < l.length) : l.take (k + 1) = l.take k ++ [ac l k] := by
  rw [List.take_add_one, ac_at l k h]; rfl
theorem at48 {w : World} {A : Option Addr} {n : Nat} {l : List Act} (h : Kd.C k48 w A n l) (i : Nat) (h1 : i < n) : ∃ ad Ao co, A = some ad ∧ w.cell? (ad.add (i * 3)) = some (.int .u8 (ac l i).kind) ∧ w.cell? ⟨(ad.add (i * 3)).block, (ad.add (i * 3)).off + 1, none⟩ = some (.slice Ao (ac l i).olds.length co) ∧ w.cell? ⟨(ad.add (i * 3)).block, (ad.add (i * 3)).off + 2, none⟩ = some (.int .i64 (ac l i).n) ∧ (ac l i).olds.length ≤ co ∧ CO w Ao (ac l i).olds.length (ac l i).olds := by
  obtain ⟨ad, c, e, _, hK, hc0⟩ := Kd.C_get h act0 (i : Int) (by omega) (by omega)
  rw [Int.toNat_natCast] at hK hc0
  have hc : ∀ j u, c[j]? = some u → w.cell? (ad.add (i * 3 + j)) = some u := hc0
  obtain ⟨_, _, rfl, rfl, ⟨_, _, rfl, ⟨Ao, co, rfl, hl, hC⟩, rfl⟩⟩ := hK
  exact ⟨ad, Ao, co, e, hc 0 _ rfl, by rw [← add_field _ _ 1 (by omega)]; exact hc 1 _ rfl, by rw [← add_field _ _ 2 (by omega)]; exact hc 2 _ rfl, hl, hC⟩
/-! ### few acts? -/
def tot (l : List Act) (k : Nat) : Nat := l.length + ((l.take k).map fun a => a.olds.length).sum
theorem tot_succ (l : List Act) (k : Nat) (h : k < l.length) : tot l (k + 1) = tot l k + (ac l k).olds.length := by
  unfold tot
  rw [take_ac l k h, List.map_append, List.sum_append]
  simp
  omega
theorem tot_mono (l : List Act) (k : Nat) : ∀ d, k + d ≤ l.length → tot l k ≤ tot l (k + d)
  | 0, _ => Nat.le_refl _
  | d + 1, h => by
    have h1 := tot_mono l k d (by omega)
    have h2 := tot_succ l (k + d) (by omega)
    rw [show k + (d + 1) = k + d + 1 by omega]
    omega
set_option maxRecDepth 10000 in
set_option maxHeartbeats 2000000 in
theorem few_calls (w : World) (A : Option Addr) (c : Nat) (l : List Act) (hC : k48.C w A l.length l) (hG : gActs l) : Calls Try.prog 17 #[.slice A l.length c] w fun e w' => e = .returned (.bool (decide (tot l l.length ≤ 200))) ∧ w = w' := by
  have HC := Aside0.mk hC
  have HG := Aside0.mk hG
  have hl := hG.1
  rw [bytes48] at hl
  unfold reachBytes at hl
  obtain ⟨T, hT⟩ : ∃ T, T = decide (tot l l.length ≤ 200) := ⟨_, rfl⟩
  have HT := Aside0.mk hT
  rw [← hT]
  clear hC hG hT
  go_enter Try.func17, Try.ntmps17
  go_wp2_with fail
  go_loop [3, 4] (fun n i => ∃ k : Nat, k ≤ l.length ∧ i = .int .i64 k ∧ ∃ t : Nat, n = .int .i64 t ∧ Aside0 (t = tot l k)) (fun _ i => l.length - (intOf i).toNat)
  case atStart => exact ⟨0, by omega, rfl, l.length, rfl, ⟨by simp [tot]⟩⟩
  case round =>
    obtain ⟨k, hk, rfl, t, rfl, HTK⟩ := hrel
    by_cases hlt : k < l.length
    · have hd : decide ((k : Int) < l.length) = true := by simp; omega
      by_cases hle : t ≤ 200
      · have hd2 : decide ((t : Int) ≤ 200) = true := by simp; omega
        obtain ⟨ad, Ao, co, rfl, _, h1, _, _, _⟩ := at48 HC.out k hlt
        have hx := (HG.out.2 _ (ac_mem l k hlt)).2.1.1
        rw [bytes29] at hx
        unfold reachBytes at hx
        have HS := Aside0.mk (tot_succ l k hlt)
        obtain ⟨q, hq⟩ : ∃ q, q = (ac l k).olds.length := ⟨_, rfl⟩
        rw [← hq] at h1 hx HS
        clear hq
        go_wp2_with fail
        go_round
        case rel => exact ⟨k + 1, by omega, by go_num, t + q, by go_num, ⟨by rw [HS.out, ← HTK.out]⟩⟩
        case measure => simp [intOf]; omega
      · have hd2 : decide ((t : Int) ≤ 200) = false := by simp; omega
        have hTf : T = false := by
          rw [HT.out]
          have := tot_mono l k (l.length - k) (by omega)
          rw [show k + (l.length - k) = l.length by omega, ← HTK.out] at this
          simp; omega
        subst hTf
        go_wp2_with fail
        go_ret
        exact ⟨rfl, rfl⟩
    · obtain rfl : k = l.length := by omega
      have hd : decide ((l.length : Int) < l.length) = false := by simp
      have hTt : T = decide ((t : Int) ≤ 200) := by
        rw [HT.out, ← HTK.out, Bool.eq_iff_iff]
        simp
        omega
      subst hTt
      go_wp2_with fail
      go_ret
      exact ⟨rfl, rfl⟩
end Go.Proofs.Ytipbgldfomejpaa.Snap
