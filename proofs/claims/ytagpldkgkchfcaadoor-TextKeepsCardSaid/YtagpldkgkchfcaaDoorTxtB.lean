/- Layer 25: the library calls and how steps lie in memory. -/
import Derived.Test.YtagpldkgkchfcaaDoorShelf
import Derived.Test.YtagpldkgkchfcaaDoorWMore
import Derived.Test.YtagpldkgkchfcaaDoorTxtA
import Derived.Test.YtagpldkgkchfcaaDoorPTextPrintsx0
import Derived.Test.YtagpldkgkchfcaaDoorPTextPrintsx4
import Derived.Test.YtagpldkgkchfcaaDoorLit
import Derived.Test.YtagpldkgkchfcaaDoorSDec
namespace Go.Proofs.YtagpldkgkchfcaaDoor.Txt
section
set_option linter.unusedSimpArgs false
set_option linter.unusedVariables false
open Go.Shelf Go.RowKit

theorem sizeB63 : (Tryd.prog.info? 63).map (·.size) = some 2 := by kernel_rfl
theorem infoByte : (Tryd.prog.info? 5).map (fun i => (i.zero, i.size, i.bytes)) = some (some (.int .u8 0), 1, 1) := by kernel_rfl
theorem lies63 : liesAt Tryd.prog Tryd.prog.depth 63 (2 / Tryd.prog.cellsOf 63) 0 63 1 = true := by kernel_rfl
set_option maxHeartbeats 1000000 in
set_option maxRecDepth 100000 in
theorem check_used (b : Nat) (w : World) (h0 : w.cell? ⟨b, 0, none⟩ = some (.pointer (some ⟨b, 0, none⟩))) :
    Calls Tryd.prog 41 #[.pointer (some ⟨b, 0, none⟩)] w fun e w' => e = .returned (.tuple #[]) ∧ w' = w := by
  obtain ⟨j, hj, _⟩ := Option.map_eq_some_iff.1 sizeB63
  go_enter Tryd.func41, Tryd.ntmps41
  go_wp2
  rw [Lib.run_neq_ptr_same w _ Tryd.underlying60 hj]
  go_wp2
  go_end0
  exact ⟨rfl, rfl⟩
set_option maxHeartbeats 1000000 in
set_option maxRecDepth 100000 in
theorem check_fresh (b : Nat) (w : World) (h0 : w.cell? ⟨b, 0, none⟩ = some (.pointer none)) (hsh : w.shape? b = some (63, 2)) (hfz : w.frozen? ⟨b, 0, none⟩ = false) :
    Calls Tryd.prog 41 #[.pointer (some ⟨b, 0, none⟩)] w fun e w' => e = .returned (.tuple #[]) ∧ w' = w.setCell ⟨b, 0, none⟩ (.pointer (some ⟨b, 0, none⟩)) := by
  obtain ⟨j, hj, hjs⟩ := Option.map_eq_some_iff.1 sizeB63
  go_enter Tryd.func41, Tryd.ntmps41
  go_wp2
  rw [Lib.run_to_unsafe w ⟨b, 0, none⟩ Tryd.underlying60 Tryd.underlying94 hj (by rw [hjs]; decide) hsh (Nat.zero_lt_succ 1)]
  simp only [Result.andThen]
  rw [Oper.upon_value]
  go_wp2
  rw [run_callFunc_extern Tryd.func53 (by kernel_rfl) (by kernel_rfl) (by kernel_rfl) (e := Extern.AbiNoEscape.same) (by kernel_rfl)]
  rw [Lib.run_noEscape]
  simp only [Result.andThen]
  rw [Oper.upon_value]
  go_wp2
  rw [Lib.run_from_unsafe w ⟨b, 0, none⟩ Tryd.underlying94 Tryd.underlying60 hj hsh lies63]
  simp only [Result.andThen]
  rw [Oper.upon_value]
  go_wp2
  go_end0
  exact ⟨rfl, rfl⟩
theorem check_calls (B b : Nat) (bs : List Value) (w : World) (h : Lib.IsBuilder 63 5 B b bs w) :
    Calls Tryd.prog 41 #[.pointer (some ⟨b, 0, none⟩)] w fun e w' => e = .returned (.tuple #[]) ∧ (Lib.BuilderAt 63 5 B b (.pointer (some ⟨b, 0, none⟩)) bs w' ∧ Below B w w') := by
  rcases h with h | h
  · refine (check_fresh b w h.cell0 h.shape h.frozen0).mono ?_
    rintro e w' ⟨rfl, rfl⟩
    exact ⟨rfl, h.used _, (Below.refl B w).setCell (p := ⟨b, 0, none⟩) h.1 _⟩
  · refine (check_used b w h.cell0).mono ?_
    rintro e w' ⟨rfl, rfl⟩
    exact ⟨rfl, h, Below.refl B _⟩
set_option maxHeartbeats 2000000 in
set_option maxRecDepth 100000 in
theorem writeByte (B b : Nat) (bs : List Value) (c : Int) (w : World) (h : Lib.IsBuilder 63 5 B b bs w) (hlen : bs.length + 1 ≤ 140737488355328) (hBw : B ≤ w.heap.size) :
    Calls Tryd.prog 70 #[.pointer (some ⟨b, 0, none⟩), .int .u8 c] w fun e w' => e = .returned .nilIface ∧ (Lib.IsBuilder 63 5 B b (bs ++ [.int .u8 c]) w' ∧ Below B w w') := by
  obtain ⟨i0, hi, hz0, hz1, hz2⟩ := info_parts infoByte
  have u61 := run_underlying Tryd.underlying61
  go_enter Tryd.func70, Tryd.ntmps70
  go_wp2_with (go_at_call 41; refine (check_calls B b bs _ h).mono ?_)
  rintro e w1 ⟨rfl, h1, hb1⟩
  obtain ⟨hB, v, hbk, hown, hne⟩ := h1
  have c0 : w1.cell? ⟨b, 0, none⟩ = some (.pointer (some ⟨b, 0, none⟩)) := by rw [Lib.cell_of_heap hbk]; rfl
  have c1 : w1.cell? ⟨b, 1, none⟩ = some v := by rw [Lib.cell_of_heap hbk]; rfl
  go_wp2_with (at_builtin; refine wpList_append_own _ rfl _ _ 61 rfl B 5 i0 (.int .u8 0) 1 1 Tryd.underlying61 hi hz0 hz1 hz2 rfl (by decide) _ _ _ rfl (hown.alloc _) ⟨w1.heap.size, 0, none⟩ 1 1 [.int .u8 c] rfl rfl ?c1 ?c2 ?c3 ?c4 ?c5 ?_)
  case c1 =>
    intro j u hj
    match j, hj with | 0, hj => simp at hj; subst hj; simp [Addr.add]
  case c2 => intro u hu; simp at hu; subst hu; rfl
  case c3 => unfold maxLen; omega
  case c4 => omega
  case c5 => have := hb1.size; simp; omega
  intro v' w2 hown' hgrow _
  have hlt : b < w1.heap.size := by
    rcases Nat.lt_or_ge b w1.heap.size with h' | h'
    · exact h'
    · simp [Array.getElem?_eq_none h'] at hbk
  have hb2 : w2.heap[b]? = some (.cells #[.pointer (some ⟨b, 0, none⟩), v] 63 (0, 0)) := by
    rw [hgrow.block b (by simp; omega) (fun e => hne e.symm), Lib.alloc_old w1 _ b hlt]
    exact hbk
  have d0 : w2.cell? ⟨b, 0, none⟩ = some (.pointer (some ⟨b, 0, none⟩)) := by rw [Lib.cell_of_heap hb2]; rfl
  have d1 : w2.cell? ⟨b, 1, none⟩ = some v := by rw [Lib.cell_of_heap hb2]; rfl
  have f1 : w2.frozen? ⟨b, 1, none⟩ = false := Lib.frozen_of_heap hb2 1
  obtain ⟨g, cap, rfl⟩ : ∃ g cap, v' = .slice (some ⟨g, 0, none⟩) (bs.length + 1) cap := by
    rcases hown'.2 with ⟨_, h0⟩ | ⟨g, cap, cur, hv, _⟩
    · omega
    · exact ⟨g, cap, hv⟩
  go_wp2
  go_ret
  refine ⟨rfl, .inr ?_, ?_⟩
  · exact Lib.BuilderAt.put (T := 63) (e := 5) hB hb2 (bs' := bs ++ [.int .u8 c]) (by simpa using hown') (by decide)
  · exact ((hb1.alloc (by have := hb1.size; omega) _).grown hgrow (by have := hb1.size; simp; omega) (fun k hk => (hown.lt k hk).1)).setCell (p := ⟨b, 1, none⟩) hB _
set_option maxHeartbeats 2000000 in
set_option maxRecDepth 100000 in
theorem writeString (B b : Nat) (bs : List Value) (s : ByteArray) (w : World) (h : Lib.IsBuilder 63 5 B b bs w) (hlen : bs.length + s.size ≤ 140737488355328) (hBw : B ≤ w.heap.size) :
    Calls Tryd.prog 28 #[.pointer (some ⟨b, 0, none⟩), .string s] w fun e w' => e = .returned (.tuple #[.int .i64 s.size, .nilIface]) ∧ (Lib.IsBuilder 63 5 B b (bs ++ Lib.strCells s) w' ∧ Below B w w') := by
  obtain ⟨i0, hi, hz0, hz1, hz2⟩ := info_parts infoByte
  have u61 := run_underlying Tryd.underlying61
  go_enter Tryd.func28, Tryd.ntmps28
  go_wp2_with (go_at_call 41; refine (check_calls B b bs _ h).mono ?_)
  rintro e w1 ⟨rfl, h1, hb1⟩
  obtain ⟨hB, v, hbk, hown, hne⟩ := h1
  have c0 : w1.cell? ⟨b, 0, none⟩ = some (.pointer (some ⟨b, 0, none⟩)) := by rw [Lib.cell_of_heap hbk]; rfl
  have c1 : w1.cell? ⟨b, 1, none⟩ = some v := by rw [Lib.cell_of_heap hbk]; rfl
  go_wp2_with (at_builtin; refine Lib.wpList_append_own_string _ rfl _ _ 61 9 rfl B 5 i0 Tryd.underlying61 Tryd.underlying9 hi hz0 hz1 hz2 _ _ _ rfl hown s rfl ?c3 ?c4 ?c5 ?_)
  case c3 => unfold maxLen; omega
  case c4 => omega
  case c5 => have := hb1.size; omega
  intro v' w2 hown' hgrow _
  have hlt : b < w1.heap.size := by
    rcases Nat.lt_or_ge b w1.heap.size with h' | h'
    · exact h'
    · simp [Array.getElem?_eq_none h'] at hbk
  have hb2 : w2.heap[b]? = some (.cells #[.pointer (some ⟨b, 0, none⟩), v] 63 (0, 0)) := by
    rw [hgrow.block b hlt (fun e => hne e.symm)]
    exact hbk
  have d0 : w2.cell? ⟨b, 0, none⟩ = some (.pointer (some ⟨b, 0, none⟩)) := by rw [Lib.cell_of_heap hb2]; rfl
  have d1 : w2.cell? ⟨b, 1, none⟩ = some v := by rw [Lib.cell_of_heap hb2]; rfl
  have f1 : w2.frozen? ⟨b, 1, none⟩ = false := Lib.frozen_of_heap hb2 1
  obtain ⟨ao, n', cap, rfl⟩ : ∃ ao n' cap, v' = .slice ao n' cap := by
    rcases hown'.2 with ⟨hv, _⟩ | ⟨g, cap, cur, hv, _⟩
    · exact ⟨_, _, _, hv⟩
    · exact ⟨_, _, _, hv⟩
  go_wp2
  go_ret2
  refine ⟨rfl, .inr ?_, ?_⟩
  · exact Lib.BuilderAt.put (T := 63) (e := 5) hB hb2 (bs' := bs ++ Lib.strCells s) (by simpa [Lib.strCells_length] using hown') (by decide)
  · exact (hb1.grown hgrow (by have := hb1.size; omega) (fun k hk => (hown.lt k hk).1)).setCell (p := ⟨b, 1, none⟩) hB _
end
section
set_option linter.unusedSimpArgs false
set_option linter.unusedVariables false
open Go.Shelf Go.RowKit Go.Sort Go.Proofs.YtagpldkgkchfcaaDoorW.PrintWords
theorem holds_zero0 (w : World) (T : TypeId) (nd : Nat) (hs : nd ≤ 24) : Holds (fun (b : UInt8) => Value.int .u8 (b.toNat : Int)) (w.alloc (.cells Lib.zeros24 T)) w.heap.size 0 (Array.replicate nd (0 : UInt8)) := fun j hj => by
  have hj' : j < nd := by simpa using hj
  refine ⟨?_, World.frozen?_alloc_new _ _ _ _⟩
  rw [World.cell?_alloc_new, Nat.zero_add, Lib.zeros24_at _ (by omega), getElem!_pos _ j hj]
  simp
theorem grow_bel (w : World) (k : Nat) (os : Array Obj) : Below w.heap.size w (grow (w.drewN k) os) :=
  ⟨rfl, rfl, rfl, by rw [size_grow]; show w.heap.size ≤ w.heap.size + os.size; omega, fun i hi => heap_grow_old (w.drewN k) os hi⟩
theorem fin0 (w : World) (o : Obj) (dk : Array UInt8) (k : Nat) : Below w.heap.size w ((putRow (fun (b : UInt8) => Value.int .u8 (b.toNat : Int)) (w.alloc o) w.heap.size 0 dk).drewN k) := by
  rw [alloc_eq_grow]
  obtain ⟨os', _, e⟩ := putRow_grow_new (fun (b : UInt8) => Value.int .u8 (b.toNat : Int)) w #[o] w.heap.size 0 dk (Nat.le_refl _)
  rw [e]
  exact grow_bel w k os'
theorem itoa_calls (n : Int) (h0 : -9223372036854775808 ≤ n) (h1 : n ≤ 9223372036854775807) (w : World) (htab : Lib.TabIs Tryd.prog w "internal/strconv.uint64pow10" .u64 Lib.pow10Tab) :
    Calls Tryd.prog 37 #[.int .i64 n] w fun e w' => e = .returned (.string ⟨(Lib.itoa n).toArray⟩) ∧ Below w.heap.size w w' :=
  (Tryd.strconv_Itoa n h0 h1 w htab).mono fun e w' ⟨he, k, os, hw⟩ => ⟨he, hw ▸ grow_bel w k os⟩
set_option maxHeartbeats 6400000 in
set_option maxRecDepth 100000 in
theorem formatI (u : Nat) (hu64 : u < 18446744073709551616) (w : World) (htab : Lib.TabIs Tryd.prog w "internal/strconv.uint64pow10" .u64 Lib.pow10Tab) :
    Calls Tryd.prog 49 #[.int .u64 u, .int .i64 10] w fun e w' => e = .returned (.string ⟨(Lib.decDigits u).toArray⟩) ∧ Below w.heap.size w w' := by
  by_cases hs : u < 100
  · go_enter Tryd.func49, Tryd.ntmps49
    go_wp2_with (go_at_call 65; refine (Tryd.internal_strconv_small u hs _).mono ?_; rintro e w' ⟨rfl, rfl⟩)
    go_ret
    exact ⟨rfl, Below.refl _ _⟩
  · have hu1 : 1 ≤ u := by omega
    have hnd20 : Lib.nDigits u ≤ 20 := by have := Lib.numDigits_eq u hu1 hu64; split at this <;> omega
    have hal : Tryd.prog.arrayLen 101 = 24 := by simp [Program.arrayLen, Tryd.underlying101]
    have hsl1 : ∀ W, (Instr.sliceAt 101 (.pointer (some ⟨w.heap.size, 0, none⟩)) none (some (.int .i64 (Lib.nDigits u : Int))) none).run Tryd.prog W = .ok (.slice (some ⟨w.heap.size, 0, none⟩) (Lib.nDigits u) 24) W := fun W => by
      rw [run_sliceAt_array_h W 101 ⟨w.heap.size, 0, none⟩ (by simp [Program.arrayLen, Program.elem, Tryd.underlying101]) .i64 (Lib.nDigits u : Int) (by omega) (by rw [hal]; omega)]
      go_simp
    have hH0 := holds_zero0 w 101 (Lib.nDigits u) (by omega)
    have hfmt := Tryd.internal_strconv_formatBase10 w.heap.size 0 24 u (Array.replicate (Lib.nDigits u) 0) (w.alloc (.cells Lib.zeros24 101)) hH0 (by rw [Array.size_replicate]; exact Lib.lt_pow_nDigits u) hu64 (by rw [Array.size_replicate]; omega)
    rw [Array.size_replicate] at hfmt
    have HH0 := Lib.hid hH0
    clear hH0 hal
    go_enter Tryd.func49, Tryd.ntmps49
    go_wp2_with (first | (go_at_call 66; refine (Tryd.internal_strconv_numDigits u hu1 hu64 _ (Lib.tabIs_alloc htab _)).mono ?_; rintro e w' ⟨rfl, rfl⟩))
    go_at_call 67
    refine hfmt.mono ?_
    rintro e w' ⟨rfl, k, v', dk, rfl, hF⟩
    have hcv : (convert 61 9 (.slice (some ⟨w.heap.size, 0, none⟩) (Lib.nDigits u) 24)).run Tryd.prog ((putRow (fun (b : UInt8) => Value.int .u8 (b.toNat : Int)) (w.alloc (.cells Lib.zeros24 101)) w.heap.size 0 dk).drewN k) = .ok (.string ⟨(Lib.decDigits u).toArray⟩) ((putRow (fun (b : UInt8) => Value.int .u8 (b.toNat : Int)) (w.alloc (.cells Lib.zeros24 101)) w.heap.size 0 dk).drewN k) := by
      have h := run_convert_bytes_back (P := Tryd.prog) ((putRow (fun (b : UInt8) => Value.int .u8 (b.toNat : Int)) (w.alloc (.cells Lib.zeros24 101)) w.heap.size 0 dk).drewN k) 61 9 5 ⟨w.heap.size, 0, none⟩ 24 (Lib.decDigits u) Tryd.underlying61 Tryd.underlying5 Tryd.underlying9 (fun j hj => by
        rw [Lib.row_is_numeral hF j hj, Lib.add_plain, World.cell?_drewN]
        exact cell?_putRow (fun (b : UInt8) => Value.int .u8 (b.toNat : Int)) _ w.heap.size 0 _ dk HH0.out (by rw [hF.size, Array.size_replicate]) j (by rw [hF.size]; rw [Lib.decDigits_length] at hj; exact hj))
      rw [Lib.decDigits_length] at h
      exact h
    go_wp2
    go_ret
    exact ⟨rfl, fin0 w (.cells Lib.zeros24 101) dk k⟩
theorem format_calls (u : Nat) (hu64 : u < 18446744073709551616) (w : World) (htab : Lib.TabIs Tryd.prog w "internal/strconv.uint64pow10" .u64 Lib.pow10Tab) :
    Calls Tryd.prog 36 #[.int .u64 u, .int .i64 10] w fun e w' => e = .returned (.string ⟨(Lib.decDigits u).toArray⟩) ∧ Below w.heap.size w w' := by
  go_enter Tryd.func36, Tryd.ntmps36
  go_wp2_with (go_at_call 49; refine (formatI u hu64 _ htab).mono ?_; rintro e w' ⟨rfl, hb⟩)
  go_ret
  exact ⟨rfl, hb⟩
end
section
set_option linter.unusedSimpArgs false
set_option linter.unusedVariables false
open Go.RowKit Go.Proofs.YtagpldkgkchfcaaDoorW.PrintWords Go.Proofs.YtagpldkgkchfcaaDoorW.PrintLast Go.Proofs.YtagpldkgkchfcaaDoorW.PrintMore Arr PTextPrints

/-! ### what the library's tables and variables hold -/
structure Env (w : World) : Prop where
  pow : Lib.TabIs Tryd.prog w "internal/strconv.uint64pow10" .u64 Lib.pow10Tab
  mx : ∃ m, w.cell? ⟨0, 0, none⟩ = some (.int .i64 m)
  syn : ∃ tp p, w.var? Tryd.prog "strconv.ErrSyntax" = some #[.iface tp p]
  rng : ∃ tp p, w.var? Tryd.prog "strconv.ErrRange" = some #[.iface tp p]
theorem var_below {w w' : World} {name : String} {v : Array Value} (h : w.var? Tryd.prog name = some v) (hb : Below w.heap.size w w') : w'.var? Tryd.prog name = some v := by
  unfold World.var? at h ⊢
  cases hg : Tryd.prog.globalNamed name with | none => rw [hg] at h; cases h | some g =>
    rw [hg] at h
    simp only [Option.bind_some] at h ⊢
    cases hx : w.heap[g]? with | none => rw [hx] at h; cases h | some o =>
      rw [hb.block g (Array.getElem?_eq_some_iff.1 hx).1]
      exact h
theorem Env.below {w w' : World} (h : Env w) (hb : Below w.heap.size w w') : Env w' := by
  obtain ⟨m, hm⟩ := h.mx
  obtain ⟨t1, p1, h1⟩ := h.syn
  obtain ⟨t2, p2, h2⟩ := h.rng
  exact ⟨var_below h.pow hb, ⟨m, pw_cell_below hb hm⟩, ⟨t1, p1, var_below h1 hb⟩, ⟨t2, p2, var_below h2 hb⟩⟩
theorem Env.drewN {w : World} (h : Env w) (n : Nat) : Env (w.drewN n) := h.below (pw_below_drewN (Below.refl _ _) n)

/-! ### cells -/
def opC (o : Op) : List Value := [.int .i64 o.kind, .int .i64 o.id, .int .i64 o.blk] ++ (encs (Value.int .u8) o.data ++ [.bool o.sync, .int .i64 o.policy])
def stepC (x : Step) (v : Value) : List Value := opC x.op ++ [.int .i64 x.arm, .bool x.crash, v, .int .u64 x.soft, .int .i64 x.tear]
def k35 : Kd Op := Kd.iso (Kd.pair (Kd.int .i64) (Kd.pair (Kd.int .i64) (Kd.pair (Kd.int .i64) (Kd.pair (Dec.ints .u8 32) (Kd.pair Kd.bool (Kd.int .i64)))))) (fun o : Op => (o.kind, o.id, o.blk, o.data, o.sync, o.policy))
def k39 : Kd (List Int × Int × Int) := Kd.pair (Kd.slice 3 (Kd.int .i64)) (Kd.pair (Kd.int .u64) (Kd.int .i64))
def k41 : Kd Step := Kd.iso (Kd.pair k35 (Kd.pair (Kd.int .i64) (Kd.pair Kd.bool k39))) (fun x : Step => (x.op, x.arm, x.crash, (x.keep, x.soft, x.tear)))
theorem k35_open {w : World} {o : Op} {cs : List Value} (h : k35.K w o cs) : cs = opC o ∧ o.data.length = 32 := by
  obtain ⟨_, _, rfl, rfl, ⟨_, _, rfl, rfl, ⟨_, _, rfl, rfl, ⟨_, _, rfl, ⟨h5, h6⟩, ⟨_, _, rfl, rfl, rfl⟩⟩⟩⟩⟩ := h
  refine ⟨?_, h5⟩
  rw [h6]; rfl
theorem k41_open {w : World} {x : Step} {cs : List Value} (h : k41.K w x cs) : ∃ A c, cs = stepC x (.slice A x.keep.length c) ∧ x.op.data.length = 32 ∧ x.keep.length ≤ c ∧ (Kd.int .i64).C w A x.keep.length x.keep := by
  obtain ⟨_, _, rfl, h1, ⟨_, _, rfl, rfl, ⟨_, _, rfl, rfl, ⟨_, _, rfl, ⟨A, c, rfl, hc, hC⟩, ⟨_, _, rfl, rfl, rfl⟩⟩⟩⟩⟩ := h
  obtain ⟨rfl, h2⟩ := k35_open h1
  exact ⟨A, c, rfl, h2, hc, hC⟩
theorem k35_mkM (w : World) (base : Nat) (ok : Nat → Prop) (o : Op) (h : o.data.length = 32) : k35.M w base ok o (opC o) :=
  ⟨[.int .i64 o.kind], _, rfl, rfl, ⟨[.int .i64 o.id], _, rfl, rfl, ⟨[.int .i64 o.blk], _, rfl, rfl, ⟨encs (Value.int .u8) o.data, _, rfl, ⟨h, rfl⟩, ⟨[.bool o.sync], [.int .i64 o.policy], rfl, rfl, rfl⟩⟩⟩⟩⟩
theorem k41_mkM (w : World) (base : Nat) (ok : Nat → Prop) (x : Step) (v : Value) (h : x.op.data.length = 32) (hR : Kd.R (Kd.int .i64) 3 w base ok v x.keep) : k41.M w base ok x (stepC x v) :=
  ⟨opC x.op, _, rfl, k35_mkM w base ok x.op h, ⟨[.int .i64 x.arm], _, rfl, rfl, ⟨[.bool x.crash], _, rfl, rfl, ⟨[v], _, rfl, ⟨v, rfl, hR⟩, ⟨[.int .u64 x.soft], [.int .i64 x.tear], rfl, rfl, rfl⟩⟩⟩⟩⟩
theorem k35_sz : k35.sz = 37 := by kernel_rfl
theorem k41_sz : k41.sz = 42 := by kernel_rfl
theorem opC_len (o : Op) (h : o.data.length = 32) : (opC o).length = 37 := by simp [opC, encs, h]
theorem stepC_len (x : Step) (v : Value) (h : x.op.data.length = 32) : (stepC x v).length = 42 := by simp [stepC, opC_len _ h]
theorem opC_one (o : Op) : ∀ v ∈ opC o, v.oneCell' = true := by
  intro v hv
  unfold opC encs at hv
  simp only [List.mem_append, List.mem_cons, List.not_mem_nil, or_false, List.mem_map] at hv
  rcases hv with (rfl | rfl | rfl) | ⟨x, _, rfl⟩ | rfl | rfl <;> rfl
theorem stepC_one (x : Step) (A : Option Addr) (n c : Nat) : ∀ v ∈ stepC x (.slice A n c), v.oneCell' = true := by
  intro v hv
  unfold stepC at hv
  rcases List.mem_append.1 hv with hv | hv
  · exact opC_one _ v hv
  · simp only [List.mem_cons, List.not_mem_nil, or_false] at hv
    rcases hv with rfl | rfl | rfl | rfl | rfl <;> rfl
theorem size35 : (Tryd.prog.info? 35).map (·.size) = some 37 := by kernel_rfl
theorem size41 : (Tryd.prog.info? 41).map (·.size) = some 42 := by kernel_rfl
theorem zero35 : (Tryd.prog.info? 35).map (·.zero) = some (some (.agg (opC op0).toArray)) := by kernel_rfl
theorem zero41 : (Tryd.prog.info? 41).map (·.zero) = some (some (.agg (stepC step0 (.slice none 0 0)).toArray)) := by kernel_rfl
theorem info41 : (Tryd.prog.info? 41).map (fun i => (i.zero, i.size, i.bytes)) = some (some (.agg (stepC step0 (.slice none 0 0)).toArray), k41.sz, 128) := by kernel_rfl
theorem info3 : (Tryd.prog.info? 3).map (fun i => (i.zero, i.size, i.bytes)) = some (some (.int .i64 0), 1, 8) := by kernel_rfl
theorem info9 : (Tryd.prog.info? 9).map (fun i => (i.zero, i.size, i.bytes)) = some (some (.string ByteArray.empty), 1, 16) := by kernel_rfl
/-! ### what came in -/
def gOp (o : Op) : Prop := (Go.Lit.int .i64 o.kind).wf = true ∧ (Go.Lit.int .i64 o.id).wf = true ∧ (Go.Lit.int .i64 o.blk).wf = true ∧ (∀ x ∈ o.data, (Go.Lit.int .u8 x).wf = true) ∧ True ∧ (Go.Lit.int .i64 o.policy).wf = true
def gWreck (x : List Int × Int × Int) : Prop := (x.1.length * Tryd.prog.bytesOf 3 ≤ reachBytes ∧ ∀ y ∈ x.1, (Go.Lit.int .i64 y).wf = true) ∧ (Go.Lit.int .u64 x.2.1).wf = true ∧ (Go.Lit.int .i64 x.2.2).wf = true
def gStep (x : Step) : Prop := gOp x.op ∧ (Go.Lit.int .i64 x.arm).wf = true ∧ True ∧ gWreck (x.keep, x.soft, x.tear)
section
attribute [local irreducible] Dec.Dec Dec.DecF Dec.SDec Dec.SDecF
set_option maxRecDepth 10000 in
theorem dec35 : Dec.Dec Tryd.prog 35 k35 gOp :=
  Dec.dec_struct (k := Kd.pair (Kd.int .i64) (Kd.pair (Kd.int .i64) (Kd.pair (Kd.int .i64) (Kd.pair (Dec.ints .u8 32) (Kd.pair Kd.bool (Kd.int .i64))))))
    (G := fun x => (Go.Lit.int .i64 x.1).wf = true ∧ (Go.Lit.int .i64 x.2.1).wf = true ∧ (Go.Lit.int .i64 x.2.2.1).wf = true ∧ (∀ y ∈ x.2.2.2.1, (Go.Lit.int .u8 y).wf = true) ∧ True ∧ (Go.Lit.int .i64 x.2.2.2.2.2).wf = true)
    (pr := fun o : Op => (o.kind, o.id, o.blk, o.data, o.sync, o.policy)) Tryd.underlying35 (by kernel_rfl)
    (Dec.decf_cons (Dec.dec_int Tryd.underlying3) rfl (by kernel_rfl) (Dec.decf_cons (Dec.dec_int Tryd.underlying3) rfl (by kernel_rfl) (Dec.decf_cons (Dec.dec_int Tryd.underlying3) rfl (by kernel_rfl) (Dec.decf_cons (Dec.dec_ints Tryd.underlying33 Tryd.underlying5 (by kernel_rfl) (by kernel_rfl)) rfl (by kernel_rfl) (Dec.decf_cons (Dec.dec_bool Tryd.underlying4) rfl (by kernel_rfl) (Dec.decf_one (Dec.dec_int Tryd.underlying3) rfl (by kernel_rfl)))))))
    (fun ⟨a, b, c, d, e, f⟩ => ⟨⟨a, b, c, d, e, f⟩, rfl⟩)
set_option maxRecDepth 10000 in
theorem sdec39 : Dec.SDec Tryd.prog 39 (Kd.iso k39 (fun x : List Int × Int × Int => (x.1, x.2.1, x.2.2))) (fun x => gWreck (x.1, x.2.1, x.2.2)) :=
  Dec.sdec_struct (k := k39) (G := fun x => (x.1.length * Tryd.prog.bytesOf 3 ≤ reachBytes ∧ ∀ y ∈ x.1, (Go.Lit.int .i64 y).wf = true) ∧ (Go.Lit.int .u64 x.2.1).wf = true ∧ (Go.Lit.int .i64 x.2.2).wf = true)
    (pr := fun x : List Int × Int × Int => (x.1, x.2.1, x.2.2)) Tryd.underlying39 (by kernel_rfl)
    (Dec.sdecf_cons (Dec.sdec_slice Tryd.underlying36 (Dec.SDec.of (Dec.dec_int Tryd.underlying3)) (by kernel_rfl)) rfl (by kernel_rfl) (Dec.sdecf_cons (Dec.SDec.of (Dec.dec_int Tryd.underlying37)) rfl (by kernel_rfl) (Dec.sdecf_one (Dec.SDec.of (Dec.dec_int Tryd.underlying3)) rfl (by kernel_rfl))))
    (fun ⟨a, b, c⟩ => ⟨⟨a, b, c⟩, rfl⟩)
theorem sdec39' : Dec.SDec Tryd.prog 39 k39 gWreck := by
  unfold Dec.SDec
  intro H enc W fuel cs x h hS
  obtain ⟨a, h1, h2⟩ := (show ∃ a, (Kd.iso k39 (fun x : List Int × Int × Int => (x.1, x.2.1, x.2.2))).K W a cs ∧ gWreck (a.1, a.2.1, a.2.2) from by
    have := sdec39
    unfold Dec.SDec at this
    exact this h hS)
  exact ⟨a, h1, h2⟩
set_option maxRecDepth 10000 in
theorem sdec41 : Dec.SDec Tryd.prog 41 k41 gStep :=
  Dec.sdec_struct (k := Kd.pair k35 (Kd.pair (Kd.int .i64) (Kd.pair Kd.bool k39)))
    (G := fun x => gOp x.1 ∧ (Go.Lit.int .i64 x.2.1).wf = true ∧ True ∧ gWreck x.2.2.2)
    (pr := fun x : Step => (x.op, x.arm, x.crash, (x.keep, x.soft, x.tear))) Tryd.underlying41 (by kernel_rfl)
    (Dec.sdecf_cons (by exact Dec.SDec.of dec35) rfl (by kernel_rfl) (Dec.sdecf_cons (Dec.SDec.of (Dec.dec_int Tryd.underlying3)) rfl (by kernel_rfl) (Dec.sdecf_cons (Dec.SDec.of (Dec.dec_bool Tryd.underlying4)) rfl (by kernel_rfl) (Dec.sdecf_one (by exact sdec39') rfl (by kernel_rfl)))))
    (fun ⟨a, b, c, d⟩ => ⟨⟨a, b, c, d.1, d.2.1, d.2.2⟩, rfl⟩)
theorem sdec23 : Dec.SDec Tryd.prog 23 (Kd.slice 41 k41) (fun l => l.length * Tryd.prog.bytesOf 41 ≤ reachBytes ∧ ∀ x ∈ l, gStep x) := Dec.sdec_slice Tryd.underlying23 sdec41 (by kernel_rfl)
end
/-! ### what is good -/
theorem bounds_u64 {x : Int} (h : (Go.Lit.int .u64 x).wf = true) : 0 ≤ x ∧ x < 18446744073709551616 := by
  simp [Go.Lit.wf, IntKind.min, IntKind.max, IntKind.signed, IntKind.bits] at h
  omega
theorem wf_u64 {x : Int} (h : 0 ≤ x ∧ x < 18446744073709551616) : (Go.Lit.int .u64 x).wf = true := by
  simp [Go.Lit.wf, IntKind.min, IntKind.max, IntKind.signed, IntKind.bits]
  omega
/-- What a walk asks of a step. -/
structure Good (x : Step) : Prop where
  len : x.op.data.length = 32
  byte : ∀ y ∈ x.op.data, 0 ≤ y ∧ y ≤ 255
  kind : -9223372036854775808 ≤ x.op.kind ∧ x.op.kind ≤ 9223372036854775807
  id : -9223372036854775808 ≤ x.op.id ∧ x.op.id ≤ 9223372036854775807
  blk : -9223372036854775808 ≤ x.op.blk ∧ x.op.blk ≤ 9223372036854775807
  policy : -9223372036854775808 ≤ x.op.policy ∧ x.op.policy ≤ 9223372036854775807
  arm : -9223372036854775808 ≤ x.arm ∧ x.arm ≤ 9223372036854775807
  tear : -9223372036854775808 ≤ x.tear ∧ x.tear ≤ 9223372036854775807
  soft : 0 ≤ x.soft ∧ x.soft < 18446744073709551616
  keep : ∀ y ∈ x.keep, -9223372036854775808 ≤ y ∧ y ≤ 9223372036854775807
theorem good_of {x : Step} (h : gStep x) (hl : x.op.data.length = 32) : Good x :=
  ⟨hl, fun y hy => bounds_u8 (h.1.2.2.2.1 y hy), bounds_i64 h.1.1, bounds_i64 h.1.2.1, bounds_i64 h.1.2.2.1, bounds_i64 h.1.2.2.2.2.2, bounds_i64 h.2.1, bounds_i64 h.2.2.2.2.2, bounds_u64 h.2.2.2.2.1, fun y hy => bounds_i64 (h.2.2.2.1.2 y hy)⟩
theorem Good.good {x : Step} (h : Good x) : good x := ⟨⟨h.len, h.byte⟩, h.soft⟩
end
end Go.Proofs.YtagpldkgkchfcaaDoor.Txt
