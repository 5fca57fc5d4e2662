/- Puts that come in; what the walks of layer 9's statements share. -/
import Derived.Test.YtkkmmbbnaafhlaaTabAwake
namespace Go.Proofs.Ytkkmmbbnaafhlaa.Tab
set_option linter.unusedSimpArgs false
set_option linter.unusedVariables false
open Go.RowKit Go.Proofs.YtkkmmbbnaafhlaaW.PrintWords Go.Proofs.YtkkmmbbnaafhlaaW.PrintLast Go.Proofs.YtkkmmbbnaafhlaaW.PrintMore Arr

abbrev Holds (W : World) : Ending → World → Prop := fun e w' => e = .returned (.bool true) ∧ Below W.heap.size W w'
structure Put where
  blk : Int
  place : Int
  clean : Bool
def put0 : Put := ⟨0, 0, false⟩
def k52 : Kd Put := Kd.iso (Kd.pair (Kd.int .i64) (Kd.pair (Kd.int .i64) Kd.bool)) (fun x : Put => (x.blk, x.place, x.clean))
def gPut (x : Put) : Prop := (Lit.int .i64 x.blk).wf = true ∧ (Lit.int .i64 x.place).wf = true ∧ True
section
attribute [local irreducible] Dec.Dec Dec.DecF
theorem dec52 : Dec.Dec Try.prog 52 k52 gPut :=
  Dec.dec_struct (k := Kd.pair (Kd.int .i64) (Kd.pair (Kd.int .i64) Kd.bool)) (G := fun x => (Lit.int .i64 x.1).wf = true ∧ (Lit.int .i64 x.2.1).wf = true ∧ True) (pr := fun x : Put => (x.blk, x.place, x.clean)) Try.underlying52 (by kernel_rfl)
    (Dec.decf_cons (Dec.dec_int Try.underlying3) rfl (by kernel_rfl) (Dec.decf_cons (Dec.dec_int Try.underlying3) rfl (by kernel_rfl) (Dec.decf_one (Dec.dec_bool Try.underlying4) rfl (by kernel_rfl)))) (fun ⟨a, b, c⟩ => ⟨⟨a, b, c⟩, rfl⟩)
theorem dec47 : Dec.Dec Try.prog 47 (Kd.slice 52 k52) (fun l => ∀ x ∈ l, gPut x) := Dec.dec_slice Try.underlying47 dec52 (by kernel_rfl)
end
theorem k52_open {w : World} {x : Put} {cs : List Value} (h : k52.K w x cs) : cs = [.int .i64 x.blk, .int .i64 x.place, .bool x.clean] := by
  obtain ⟨c1, c2, h1, h2, c3, c4, h3, h4, h5⟩ := h
  rw [h1, h2, h3, h4, h5]
  rfl
theorem at_put {w : World} {A : Option Addr} {n : Nat} {xs : List Put} (h : Kd.C k52 w A n xs) (i : Nat) (h1 : i < n) : ∃ ad, A = some ad ∧ w.cell? (ad.add (i * 3)) = some (.int .i64 (xs.getD i put0).blk) ∧ w.cell? ⟨(ad.add (i * 3)).block, (ad.add (i * 3)).off + 1, none⟩ = some (.int .i64 (xs.getD i put0).place) ∧ w.cell? ⟨(ad.add (i * 3)).block, (ad.add (i * 3)).off + 2, none⟩ = some (.bool (xs.getD i put0).clean) := by
  obtain ⟨ad, c, e, _, hK, hc0⟩ := Kd.C_get h put0 (i : Int) (by omega) (by omega)
  rw [Int.toNat_natCast] at hK hc0
  have hc : ∀ j u, c[j]? = some u → w.cell? (ad.add (i * 3 + j)) = some u := hc0
  obtain rfl := k52_open hK
  exact ⟨ad, e, hc 0 _ rfl, by rw [← add_field _ _ 1 (by omega)]; exact hc 1 _ rfl, by rw [← add_field _ _ 2 (by omega)]; exact hc 2 _ rfl⟩
theorem put_at {W w : World} {ad : Addr} {n : Nat} {xs : List Put} (h : Kd.C k52 W (some ad) n xs) (i : Nat) (h1 : i < n) (hb : Below W.heap.size W w) : w.cell? (ad.add (i * 3)) = some (.int .i64 (xs.getD i put0).blk) ∧ w.cell? ⟨(ad.add (i * 3)).block, (ad.add (i * 3)).off + 1, none⟩ = some (.int .i64 (xs.getD i put0).place) ∧ w.cell? ⟨(ad.add (i * 3)).block, (ad.add (i * 3)).off + 2, none⟩ = some (.bool (xs.getD i put0).clean) := by
  obtain ⟨ad', e, h2⟩ := at_put (Kd.C_below h hb) i h1
  obtain rfl := Option.some.inj e
  exact h2
theorem getD_mem (l : List Put) (k : Nat) (h : k < l.length) : l.getD k put0 ∈ l := by rw [List.getD_eq_getElem?_getD, List.getElem?_eq_getElem h]; exact List.getElem_mem h
theorem bounds_u8 {x : Int} (h : (Lit.int .u8 x).wf = true) : 0 ≤ x ∧ x ≤ 255 := by
  simp [Lit.wf, IntKind.min, IntKind.max, IntKind.signed, IntKind.bits] at h
  omega
theorem bounds_i64 {x : Int} (h : (Lit.int .i64 x).wf = true) : -9223372036854775808 ≤ x ∧ x ≤ 9223372036854775807 := by
  simp [Lit.wf, IntKind.min, IntKind.max, IntKind.signed, IntKind.bits] at h
  omega
/-- Behind the last block there is nought. -/
def Pad (n : Nat) (ps : List Int) : Prop := ∀ j, n ≤ j → ps.getD j 0 = 0
theorem pad_zeros (n m : Nat) : Pad n (zeros m) := fun j _ => zeros_getD m j
theorem pad_set {n : Nat} {ps : List Int} (h : Pad n ps) (b x : Int) : Pad n (setP ps n b x) := by
  intro j hj
  unfold setP
  split
  · rename_i hb
    by_cases hlt : b.toNat < ps.length
    · rw [getD_set _ _ _ _ hlt, if_neg (by omega)]; exact h j hj
    · rw [List.set_eq_of_length_le (by omega)]; exact h j hj
  · exact h j hj
end Go.Proofs.Ytkkmmbbnaafhlaa.Tab
