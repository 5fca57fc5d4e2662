-- PRINTED BY print.sh 35421559b90ae4d0a3588c463048766b98c2df88dd9212a6774a882060cdf62d: not written by this session
import Derived.Test.YtagpldkgkchfcaaDoorPTextPrintsx0
namespace Go.Proofs.YtagpldkgkchfcaaDoor.PTextPrints
open Go.RowKit Go.Proofs.YtagpldkgkchfcaaDoorW.PrintWords Go.Proofs.YtagpldkgkchfcaaDoorW.PrintLast Go.Proofs.YtagpldkgkchfcaaDoorW.PrintMore
attribute [local go_sem] max2_int min2_int max_two min_two max_three min_three max_four min_four   -- for this text's walks alone
set_option linter.unusedVariables false
set_option linter.unusedSimpArgs false

-- NOT PRINTED: function 61 (strconv_ParseUint_61)

-- NOT PRINTED: function 83 (strconv_ParseInt)

-- NOT PRINTED: function 63 (strconv_Atoi_63)

-- NOT PRINTED: function 45 (strconv_Atoi_45)

-- NOT PRINTED: function 33 (text_number)

-- NOT PRINTED: function 49 (strconv_FormatUint_49)

-- NOT PRINTED: function 36 (strconv_FormatUint_36)

-- NOT PRINTED: function 44 (strconv_ParseUint_44)

-- NOT PRINTED: function 32 (text_crash)

/-! ### text_words: function 46 -/
def text_words.f  : Option ((List (S89))) := some (([(⟨(⟨#[102, 111, 114, 109, 97, 116]⟩ : ByteArray), 1, false, (⟨#[]⟩ : ByteArray)⟩ : S89), (⟨(⟨#[109, 111, 117, 110, 116]⟩ : ByteArray), 2, false, (⟨#[]⟩ : ByteArray)⟩ : S89), (⟨(⟨#[98, 101, 103, 105, 110]⟩ : ByteArray), 3, false, (⟨#[]⟩ : ByteArray)⟩ : S89), (⟨(⟨#[102, 108, 117, 115, 104]⟩ : ByteArray), 9, false, (⟨#[]⟩ : ByteArray)⟩ : S89), (⟨(⟨#[99, 104, 101, 99, 107, 112, 111, 105, 110, 116]⟩ : ByteArray), 10, false, (⟨#[]⟩ : ByteArray)⟩ : S89), (⟨(⟨#[115, 116, 97, 116]⟩ : ByteArray), 12, false, (⟨#[]⟩ : ByteArray)⟩ : S89), (⟨(⟨#[114, 101, 97, 100]⟩ : ByteArray), 4, false, (⟨#[105, 98]⟩ : ByteArray)⟩ : S89), (⟨(⟨#[119, 114, 105, 116, 101]⟩ : ByteArray), 5, false, (⟨#[105, 98, 100]⟩ : ByteArray)⟩ : S89), (⟨(⟨#[116, 114, 105, 109]⟩ : ByteArray), 6, false, (⟨#[105, 98]⟩ : ByteArray)⟩ : S89), (⟨(⟨#[99, 111, 109, 109, 105, 116]⟩ : ByteArray), 7, false, (⟨#[105]⟩ : ByteArray)⟩ : S89), (⟨(⟨#[115, 121, 110, 99]⟩ : ByteArray), 7, true, (⟨#[105]⟩ : ByteArray)⟩ : S89), (⟨(⟨#[97, 98, 111, 114, 116]⟩ : ByteArray), 8, false, (⟨#[105]⟩ : ByteArray)⟩ : S89), (⟨(⟨#[99, 108, 101, 97, 110]⟩ : ByteArray), 11, false, (⟨#[112]⟩ : ByteArray)⟩ : S89)] : List (S89)))
set_option maxHeartbeats 8000000 in
set_option maxRecDepth 100000 in
theorem text_words.calls  (r : List (S89)) (w : World) (h : text_words.f  = some r) :
    Calls Tryd.prog 46 #[] w fun e w' => ∃ v0_ : Value, e = .returned (v0_) ∧ Kd.R k89 89 w' w.heap.size (fun _ => True) v0_ r ∧ Below w.heap.size w w' := by
  have hu89 := Tryd.underlying89
  have HB := Aside0.mk (Below.refl w.heap.size w)
  have H : (some (([(⟨(⟨#[102, 111, 114, 109, 97, 116]⟩ : ByteArray), 1, false, (⟨#[]⟩ : ByteArray)⟩ : S89), (⟨(⟨#[109, 111, 117, 110, 116]⟩ : ByteArray), 2, false, (⟨#[]⟩ : ByteArray)⟩ : S89), (⟨(⟨#[98, 101, 103, 105, 110]⟩ : ByteArray), 3, false, (⟨#[]⟩ : ByteArray)⟩ : S89), (⟨(⟨#[102, 108, 117, 115, 104]⟩ : ByteArray), 9, false, (⟨#[]⟩ : ByteArray)⟩ : S89), (⟨(⟨#[99, 104, 101, 99, 107, 112, 111, 105, 110, 116]⟩ : ByteArray), 10, false, (⟨#[]⟩ : ByteArray)⟩ : S89), (⟨(⟨#[115, 116, 97, 116]⟩ : ByteArray), 12, false, (⟨#[]⟩ : ByteArray)⟩ : S89), (⟨(⟨#[114, 101, 97, 100]⟩ : ByteArray), 4, false, (⟨#[105, 98]⟩ : ByteArray)⟩ : S89), (⟨(⟨#[119, 114, 105, 116, 101]⟩ : ByteArray), 5, false, (⟨#[105, 98, 100]⟩ : ByteArray)⟩ : S89), (⟨(⟨#[116, 114, 105, 109]⟩ : ByteArray), 6, false, (⟨#[105, 98]⟩ : ByteArray)⟩ : S89), (⟨(⟨#[99, 111, 109, 109, 105, 116]⟩ : ByteArray), 7, false, (⟨#[105]⟩ : ByteArray)⟩ : S89), (⟨(⟨#[115, 121, 110, 99]⟩ : ByteArray), 7, true, (⟨#[105]⟩ : ByteArray)⟩ : S89), (⟨(⟨#[97, 98, 111, 114, 116]⟩ : ByteArray), 8, false, (⟨#[105]⟩ : ByteArray)⟩ : S89), (⟨(⟨#[99, 108, 101, 97, 110]⟩ : ByteArray), 11, false, (⟨#[112]⟩ : ByteArray)⟩ : S89)] : List (S89)))) = some r := h
  clear h
  obtain ⟨y138, hy138⟩ : ∃ y_ : List (S89), y_ = (([(⟨(⟨#[102, 111, 114, 109, 97, 116]⟩ : ByteArray), 1, false, (⟨#[]⟩ : ByteArray)⟩ : S89), (⟨(⟨#[109, 111, 117, 110, 116]⟩ : ByteArray), 2, false, (⟨#[]⟩ : ByteArray)⟩ : S89), (⟨(⟨#[98, 101, 103, 105, 110]⟩ : ByteArray), 3, false, (⟨#[]⟩ : ByteArray)⟩ : S89), (⟨(⟨#[102, 108, 117, 115, 104]⟩ : ByteArray), 9, false, (⟨#[]⟩ : ByteArray)⟩ : S89), (⟨(⟨#[99, 104, 101, 99, 107, 112, 111, 105, 110, 116]⟩ : ByteArray), 10, false, (⟨#[]⟩ : ByteArray)⟩ : S89), (⟨(⟨#[115, 116, 97, 116]⟩ : ByteArray), 12, false, (⟨#[]⟩ : ByteArray)⟩ : S89), (⟨(⟨#[114, 101, 97, 100]⟩ : ByteArray), 4, false, (⟨#[105, 98]⟩ : ByteArray)⟩ : S89), (⟨(⟨#[119, 114, 105, 116, 101]⟩ : ByteArray), 5, false, (⟨#[105, 98, 100]⟩ : ByteArray)⟩ : S89), (⟨(⟨#[116, 114, 105, 109]⟩ : ByteArray), 6, false, (⟨#[105, 98]⟩ : ByteArray)⟩ : S89), (⟨(⟨#[99, 111, 109, 109, 105, 116]⟩ : ByteArray), 7, false, (⟨#[105]⟩ : ByteArray)⟩ : S89), (⟨(⟨#[115, 121, 110, 99]⟩ : ByteArray), 7, true, (⟨#[105]⟩ : ByteArray)⟩ : S89), (⟨(⟨#[97, 98, 111, 114, 116]⟩ : ByteArray), 8, false, (⟨#[105]⟩ : ByteArray)⟩ : S89), (⟨(⟨#[99, 108, 101, 97, 110]⟩ : ByteArray), 11, false, (⟨#[112]⟩ : ByteArray)⟩ : S89)] : List (S89))) := ⟨_, rfl⟩
  replace H : (some y138) = some r := by first | (rw [hy138]; with_reducible exact H) | (have H2_ := (Option.bind_some _ _).symm.trans H; rw [hy138]; with_reducible exact H2_) | (have H2_ := (Option.bind_some _ _).symm.trans H; with_reducible exact H2_) | with_reducible exact H | (rw [hy138]; exact H) | exact H
  have Ny138 := Aside0.mk hy138
  clear hy138
  obtain rfl := Option.some.inj H
  go_enter Tryd.func46, Tryd.ntmps46
  go_wp2_with (first | ((with_reducible refine gate_dst (N := 14) rfl ?_); refine Kd.R_lit k89 _ 89 ?hg (N := 14) ?hd (xs := ([(⟨(⟨#[102, 111, 114, 109, 97, 116]⟩ : ByteArray), 1, false, (⟨#[]⟩ : ByteArray)⟩ : S89), (⟨(⟨#[109, 111, 117, 110, 116]⟩ : ByteArray), 2, false, (⟨#[]⟩ : ByteArray)⟩ : S89), (⟨(⟨#[98, 101, 103, 105, 110]⟩ : ByteArray), 3, false, (⟨#[]⟩ : ByteArray)⟩ : S89), (⟨(⟨#[102, 108, 117, 115, 104]⟩ : ByteArray), 9, false, (⟨#[]⟩ : ByteArray)⟩ : S89), (⟨(⟨#[99, 104, 101, 99, 107, 112, 111, 105, 110, 116]⟩ : ByteArray), 10, false, (⟨#[]⟩ : ByteArray)⟩ : S89), (⟨(⟨#[115, 116, 97, 116]⟩ : ByteArray), 12, false, (⟨#[]⟩ : ByteArray)⟩ : S89), (⟨(⟨#[114, 101, 97, 100]⟩ : ByteArray), 4, false, (⟨#[105, 98]⟩ : ByteArray)⟩ : S89), (⟨(⟨#[119, 114, 105, 116, 101]⟩ : ByteArray), 5, false, (⟨#[105, 98, 100]⟩ : ByteArray)⟩ : S89), (⟨(⟨#[116, 114, 105, 109]⟩ : ByteArray), 6, false, (⟨#[105, 98]⟩ : ByteArray)⟩ : S89), (⟨(⟨#[99, 111, 109, 109, 105, 116]⟩ : ByteArray), 7, false, (⟨#[105]⟩ : ByteArray)⟩ : S89), (⟨(⟨#[115, 121, 110, 99]⟩ : ByteArray), 7, true, (⟨#[105]⟩ : ByteArray)⟩ : S89), (⟨(⟨#[97, 98, 111, 114, 116]⟩ : ByteArray), 8, false, (⟨#[105]⟩ : ByteArray)⟩ : S89), (⟨(⟨#[99, 108, 101, 97, 110]⟩ : ByteArray), 11, false, (⟨#[112]⟩ : ByteArray)⟩ : S89)] : List (S89))) (inner := [.string (⟨#[102, 111, 114, 109, 97, 116]⟩ : ByteArray), .int .i64 1, .bool false, .string (⟨#[]⟩ : ByteArray), .string (⟨#[109, 111, 117, 110, 116]⟩ : ByteArray), .int .i64 2, .bool false, .string (⟨#[]⟩ : ByteArray), .string (⟨#[98, 101, 103, 105, 110]⟩ : ByteArray), .int .i64 3, .bool false, .string (⟨#[]⟩ : ByteArray), .string (⟨#[102, 108, 117, 115, 104]⟩ : ByteArray), .int .i64 9, .bool false, .string (⟨#[]⟩ : ByteArray), .string (⟨#[99, 104, 101, 99, 107, 112, 111, 105, 110, 116]⟩ : ByteArray), .int .i64 10, .bool false, .string (⟨#[]⟩ : ByteArray), .string (⟨#[115, 116, 97, 116]⟩ : ByteArray), .int .i64 12, .bool false, .string (⟨#[]⟩ : ByteArray), .string (⟨#[114, 101, 97, 100]⟩ : ByteArray), .int .i64 4, .bool false, .string (⟨#[105, 98]⟩ : ByteArray), .string (⟨#[119, 114, 105, 116, 101]⟩ : ByteArray), .int .i64 5, .bool false, .string (⟨#[105, 98, 100]⟩ : ByteArray), .string (⟨#[116, 114, 105, 109]⟩ : ByteArray), .int .i64 6, .bool false, .string (⟨#[105, 98]⟩ : ByteArray), .string (⟨#[99, 111, 109, 109, 105, 116]⟩ : ByteArray), .int .i64 7, .bool false, .string (⟨#[105]⟩ : ByteArray), .string (⟨#[115, 121, 110, 99]⟩ : ByteArray), .int .i64 7, .bool true, .string (⟨#[105]⟩ : ByteArray), .string (⟨#[97, 98, 111, 114, 116]⟩ : ByteArray), .int .i64 8, .bool false, .string (⟨#[105]⟩ : ByteArray), .string (⟨#[99, 108, 101, 97, 110]⟩ : ByteArray), .int .i64 11, .bool false, .string (⟨#[112]⟩ : ByteArray)]) (ok := fun _ => True) (okp := fun _ => True) ?hr ?hp (fun _ hk => hk) trivial (Below.refl _ _) (Nat.le_refl _) (by simp) ?_; (case hd => rfl); (case hg => rfl); (case hr => first | (go_simp; done) | (go_simp; rfl)); (case hp => exact (Reps.c4 (show Kd.M k89 _ _ _ (⟨(⟨#[102, 111, 114, 109, 97, 116]⟩ : ByteArray), 1, false, (⟨#[]⟩ : ByteArray)⟩ : S89) [.string (⟨#[102, 111, 114, 109, 97, 116]⟩ : ByteArray), .int .i64 1, .bool false, .string (⟨#[]⟩ : ByteArray)] from (k89_mkM _ _ _ (⟨(⟨#[102, 111, 114, 109, 97, 116]⟩ : ByteArray), 1, false, (⟨#[]⟩ : ByteArray)⟩ : S89) )) (Reps.c4 (show Kd.M k89 _ _ _ (⟨(⟨#[109, 111, 117, 110, 116]⟩ : ByteArray), 2, false, (⟨#[]⟩ : ByteArray)⟩ : S89) [.string (⟨#[109, 111, 117, 110, 116]⟩ : ByteArray), .int .i64 2, .bool false, .string (⟨#[]⟩ : ByteArray)] from (k89_mkM _ _ _ (⟨(⟨#[109, 111, 117, 110, 116]⟩ : ByteArray), 2, false, (⟨#[]⟩ : ByteArray)⟩ : S89) )) (Reps.c4 (show Kd.M k89 _ _ _ (⟨(⟨#[98, 101, 103, 105, 110]⟩ : ByteArray), 3, false, (⟨#[]⟩ : ByteArray)⟩ : S89) [.string (⟨#[98, 101, 103, 105, 110]⟩ : ByteArray), .int .i64 3, .bool false, .string (⟨#[]⟩ : ByteArray)] from (k89_mkM _ _ _ (⟨(⟨#[98, 101, 103, 105, 110]⟩ : ByteArray), 3, false, (⟨#[]⟩ : ByteArray)⟩ : S89) )) (Reps.c4 (show Kd.M k89 _ _ _ (⟨(⟨#[102, 108, 117, 115, 104]⟩ : ByteArray), 9, false, (⟨#[]⟩ : ByteArray)⟩ : S89) [.string (⟨#[102, 108, 117, 115, 104]⟩ : ByteArray), .int .i64 9, .bool false, .string (⟨#[]⟩ : ByteArray)] from (k89_mkM _ _ _ (⟨(⟨#[102, 108, 117, 115, 104]⟩ : ByteArray), 9, false, (⟨#[]⟩ : ByteArray)⟩ : S89) )) (Reps.c4 (show Kd.M k89 _ _ _ (⟨(⟨#[99, 104, 101, 99, 107, 112, 111, 105, 110, 116]⟩ : ByteArray), 10, false, (⟨#[]⟩ : ByteArray)⟩ : S89) [.string (⟨#[99, 104, 101, 99, 107, 112, 111, 105, 110, 116]⟩ : ByteArray), .int .i64 10, .bool false, .string (⟨#[]⟩ : ByteArray)] from (k89_mkM _ _ _ (⟨(⟨#[99, 104, 101, 99, 107, 112, 111, 105, 110, 116]⟩ : ByteArray), 10, false, (⟨#[]⟩ : ByteArray)⟩ : S89) )) (Reps.c4 (show Kd.M k89 _ _ _ (⟨(⟨#[115, 116, 97, 116]⟩ : ByteArray), 12, false, (⟨#[]⟩ : ByteArray)⟩ : S89) [.string (⟨#[115, 116, 97, 116]⟩ : ByteArray), .int .i64 12, .bool false, .string (⟨#[]⟩ : ByteArray)] from (k89_mkM _ _ _ (⟨(⟨#[115, 116, 97, 116]⟩ : ByteArray), 12, false, (⟨#[]⟩ : ByteArray)⟩ : S89) )) (Reps.c4 (show Kd.M k89 _ _ _ (⟨(⟨#[114, 101, 97, 100]⟩ : ByteArray), 4, false, (⟨#[105, 98]⟩ : ByteArray)⟩ : S89) [.string (⟨#[114, 101, 97, 100]⟩ : ByteArray), .int .i64 4, .bool false, .string (⟨#[105, 98]⟩ : ByteArray)] from (k89_mkM _ _ _ (⟨(⟨#[114, 101, 97, 100]⟩ : ByteArray), 4, false, (⟨#[105, 98]⟩ : ByteArray)⟩ : S89) )) (Reps.c4 (show Kd.M k89 _ _ _ (⟨(⟨#[119, 114, 105, 116, 101]⟩ : ByteArray), 5, false, (⟨#[105, 98, 100]⟩ : ByteArray)⟩ : S89) [.string (⟨#[119, 114, 105, 116, 101]⟩ : ByteArray), .int .i64 5, .bool false, .string (⟨#[105, 98, 100]⟩ : ByteArray)] from (k89_mkM _ _ _ (⟨(⟨#[119, 114, 105, 116, 101]⟩ : ByteArray), 5, false, (⟨#[105, 98, 100]⟩ : ByteArray)⟩ : S89) )) (Reps.c4 (show Kd.M k89 _ _ _ (⟨(⟨#[116, 114, 105, 109]⟩ : ByteArray), 6, false, (⟨#[105, 98]⟩ : ByteArray)⟩ : S89) [.string (⟨#[116, 114, 105, 109]⟩ : ByteArray), .int .i64 6, .bool false, .string (⟨#[105, 98]⟩ : ByteArray)] from (k89_mkM _ _ _ (⟨(⟨#[116, 114, 105, 109]⟩ : ByteArray), 6, false, (⟨#[105, 98]⟩ : ByteArray)⟩ : S89) )) (Reps.c4 (show Kd.M k89 _ _ _ (⟨(⟨#[99, 111, 109, 109, 105, 116]⟩ : ByteArray), 7, false, (⟨#[105]⟩ : ByteArray)⟩ : S89) [.string (⟨#[99, 111, 109, 109, 105, 116]⟩ : ByteArray), .int .i64 7, .bool false, .string (⟨#[105]⟩ : ByteArray)] from (k89_mkM _ _ _ (⟨(⟨#[99, 111, 109, 109, 105, 116]⟩ : ByteArray), 7, false, (⟨#[105]⟩ : ByteArray)⟩ : S89) )) (Reps.c4 (show Kd.M k89 _ _ _ (⟨(⟨#[115, 121, 110, 99]⟩ : ByteArray), 7, true, (⟨#[105]⟩ : ByteArray)⟩ : S89) [.string (⟨#[115, 121, 110, 99]⟩ : ByteArray), .int .i64 7, .bool true, .string (⟨#[105]⟩ : ByteArray)] from (k89_mkM _ _ _ (⟨(⟨#[115, 121, 110, 99]⟩ : ByteArray), 7, true, (⟨#[105]⟩ : ByteArray)⟩ : S89) )) (Reps.c4 (show Kd.M k89 _ _ _ (⟨(⟨#[97, 98, 111, 114, 116]⟩ : ByteArray), 8, false, (⟨#[105]⟩ : ByteArray)⟩ : S89) [.string (⟨#[97, 98, 111, 114, 116]⟩ : ByteArray), .int .i64 8, .bool false, .string (⟨#[105]⟩ : ByteArray)] from (k89_mkM _ _ _ (⟨(⟨#[97, 98, 111, 114, 116]⟩ : ByteArray), 8, false, (⟨#[105]⟩ : ByteArray)⟩ : S89) )) (Reps.c4 (show Kd.M k89 _ _ _ (⟨(⟨#[99, 108, 101, 97, 110]⟩ : ByteArray), 11, false, (⟨#[112]⟩ : ByteArray)⟩ : S89) [.string (⟨#[99, 108, 101, 97, 110]⟩ : ByteArray), .int .i64 11, .bool false, .string (⟨#[112]⟩ : ByteArray)] from (k89_mkM _ _ _ (⟨(⟨#[99, 108, 101, 97, 110]⟩ : ByteArray), 11, false, (⟨#[112]⟩ : ByteArray)⟩ : S89) )) (Reps.none _ _))))))))))))))); intro v139 w1 ho2 hb hg_ hnew_; clear hg_ hnew_; (first | rw [← Ny138.out] at ho2 | (simp only [Int.reduceToNat] at ho2; rw [← Ny138.out] at ho2)); have n0_ := Aside0.mk (Kd.R_lower ho2 (below_size (by repeat (first | (with_reducible first | exact HB.out | apply below_alloc | apply pw_below_drewN | apply below_drew1) | exact HB.out)))); have n1_ := Aside0.mk (below_step (by repeat (first | (with_reducible first | exact HB.out | apply below_alloc | apply pw_below_drewN | apply below_drew1) | exact HB.out)) hb); clear HB; have HO140 := n0_; have HB := n1_; clear n0_ n1_; clear hb ho2))
  go_ret
  exact ⟨_, by first | rfl | (simp [errW_none, errW_some] <;> rfl) | (simp [*, errW_none, errW_some] <;> rfl), by (with_reducible repeat (first | apply Kd.R_alloc | apply Kd.R_drewN | apply Kd.R_drew)); exact HO140.out, by repeat (first | (with_reducible first | exact HB.out | apply below_alloc | apply pw_below_drewN | apply below_drew1) | exact HB.out)⟩

-- NOT PRINTED: function 64 (strings_IndexByte)

-- NOT PRINTED: function 47 (text_data)

-- NOT PRINTED: function 34 (text_operation)

-- NOT PRINTED: function 20 (text_step)

-- NOT PRINTED: function 11 (text_Parse)

/-! ### stringslite_HasSuffix: function 48 -/
def stringslite_HasSuffix.f (a0 : ByteArray) (a1 : ByteArray) : Option (Bool) := if (a0.size : Int) ≥ (a1.size : Int) then (if 0 ≤ (wrap64 ((a0.size : Int) - (a1.size : Int))) then (if (wrap64 ((a0.size : Int) - (a1.size : Int))) ≤ (a0.size : Int) then (some ((a0.extract ((wrap64 ((a0.size : Int) - (a1.size : Int))) : Int).toNat a0.size).toList == a1.toList)) else (none)) else (none)) else (some false)
set_option maxHeartbeats 8000000 in
set_option maxRecDepth 100000 in
theorem stringslite_HasSuffix.calls (a0 : ByteArray) (a1 : ByteArray) (r : Bool) (w : World) (h : stringslite_HasSuffix.f a0 a1 = some r) :
    Calls Tryd.prog 48 #[.string a0, .string a1] w fun e w' => e = .returned (.bool r) ∧ Drawn0 w w' := by
  have H : (if (a0.size : Int) ≥ (a1.size : Int) then (if 0 ≤ (wrap64 ((a0.size : Int) - (a1.size : Int))) then (if (wrap64 ((a0.size : Int) - (a1.size : Int))) ≤ (a0.size : Int) then (some ((a0.extract ((wrap64 ((a0.size : Int) - (a1.size : Int))) : Int).toNat a0.size).toList == a1.toList)) else (none)) else (none)) else (some false)) = some r := h
  clear h
  by_cases c3 : (a0.size : Int) ≥ (a1.size : Int)
  · rw [if_pos c3] at H
    have c3b0 : decide ((a1.size : Int) ≤ (a0.size : Int)) = true := decide_eq_true c3
    have c3b1 : decide (a1.size ≤ a0.size) = true := decide_eq_true (Int.ofNat_le.mp c3)
    clear c3
    obtain ⟨ji4, hji4⟩ : ∃ j_ : Int, (wrap64 ((a0.size : Int) - (a1.size : Int))) = j_ := ⟨_, rfl⟩
    replace H : (if 0 ≤ (ji4) then (if (ji4) ≤ (a0.size : Int) then (some ((a0.extract ((ji4) : Int).toNat a0.size).toList == a1.toList)) else (none)) else (none)) = some r := by first | (rw [hji4] at H; exact H) | (simp only [hji4] at H ⊢; exact H)
    have hji4w : (IntKind.i64.wrap ((a0.size : Int) - (a1.size : Int))) = ji4 := (i64_w _).trans hji4
    by_cases c5 : 0 ≤ (ji4)
    · rw [if_pos c5] at H
      have c5b0 := eq_true c5
      have c5b1 : decide (0 ≤ (ji4)) = true := decide_eq_true c5
      clear c5
      by_cases c6 : (ji4) ≤ (a0.size : Int)
      · rw [if_pos c6] at H
        have c6b0 := eq_true c6
        have c6b1 : decide ((ji4) ≤ (a0.size : Int)) = true := decide_eq_true c6
        clear c6
        obtain rfl := Option.some.inj H
        go_enter Tryd.func48, Tryd.ntmps48
        go_wp2
        go_ret
        exact ⟨by first | rfl | (simp; done) | (simp only [← hji4] <;> (first | rfl | simp)) | (simp [*]; done), by repeat (first | exact Drawn0.refl _ | apply Drawn0.step)⟩
      · rw [if_neg c6] at H
        exact absurd H (by simp)
    · rw [if_neg c5] at H
      exact absurd H (by simp)
  · rw [if_neg c3] at H
    have c3b0 : decide ((a1.size : Int) ≤ (a0.size : Int)) = false := decide_eq_false c3
    have c3b1 : decide (a1.size ≤ a0.size) = false := decide_eq_false (fun h => c3 (Int.ofNat_le.mpr h))
    clear c3
    obtain rfl := Option.some.inj H
    go_enter Tryd.func48, Tryd.ntmps48
    go_wp2
    go_ret
    exact ⟨by first | rfl | (simp; done) | (simp [*]; done), by repeat (first | exact Drawn0.refl _ | apply Drawn0.step)⟩

/-! ### stringslite_TrimSuffix: function 35 -/
def stringslite_TrimSuffix.f (a0 : ByteArray) (a1 : ByteArray) : Option (ByteArray) := (stringslite_HasSuffix.f a0 a1).bind fun t141 => (if t141 = true then (if 0 ≤ (wrap64 ((a0.size : Int) - (a1.size : Int))) then (if (wrap64 ((a0.size : Int) - (a1.size : Int))) ≤ (a0.size : Int) then (some (a0.extract 0 ((wrap64 ((a0.size : Int) - (a1.size : Int))) : Int).toNat)) else (none)) else (none)) else (some a0))
set_option maxHeartbeats 8000000 in
set_option maxRecDepth 100000 in
theorem stringslite_TrimSuffix.calls (a0 : ByteArray) (a1 : ByteArray) (r : ByteArray) (w : World) (h : stringslite_TrimSuffix.f a0 a1 = some r) :
    Calls Tryd.prog 35 #[.string a0, .string a1] w fun e w' => e = .returned (.string r) ∧ Drawn0 w w' := by
  have H : ((stringslite_HasSuffix.f a0 a1).bind fun t141 => (if t141 = true then (if 0 ≤ (wrap64 ((a0.size : Int) - (a1.size : Int))) then (if (wrap64 ((a0.size : Int) - (a1.size : Int))) ≤ (a0.size : Int) then (some (a0.extract 0 ((wrap64 ((a0.size : Int) - (a1.size : Int))) : Int).toNat)) else (none)) else (none)) else (some a0))) = some r := h
  clear h
  replace H := Option.bind_eq_some_iff.mp H
  obtain ⟨t141, A30, H⟩ := H
  replace H : (if t141 = true then (if 0 ≤ (wrap64 ((a0.size : Int) - (a1.size : Int))) then (if (wrap64 ((a0.size : Int) - (a1.size : Int))) ≤ (a0.size : Int) then (some (a0.extract 0 ((wrap64 ((a0.size : Int) - (a1.size : Int))) : Int).toNat)) else (none)) else (none)) else (some a0)) = some r := H
  have A3 := Aside0.mk A30
  clear A30
  by_cases c4 : t141 = true
  · subst c4
    have H1 : (if 0 ≤ (wrap64 ((a0.size : Int) - (a1.size : Int))) then (if (wrap64 ((a0.size : Int) - (a1.size : Int))) ≤ (a0.size : Int) then (some (a0.extract 0 ((wrap64 ((a0.size : Int) - (a1.size : Int))) : Int).toNat)) else (none)) else (none)) = some r := by rw [if_pos rfl] at H; exact H
    clear H
    have H := H1
    clear H1
    obtain ⟨ji5, hji5⟩ : ∃ j_ : Int, (wrap64 ((a0.size : Int) - (a1.size : Int))) = j_ := ⟨_, rfl⟩
    replace H : (if 0 ≤ (ji5) then (if (ji5) ≤ (a0.size : Int) then (some (a0.extract 0 ((ji5) : Int).toNat)) else (none)) else (none)) = some r := by first | (rw [hji5] at H; exact H) | (simp only [hji5] at H ⊢; exact H)
    (try rw [hji5] at A3)
    have hji5w : (IntKind.i64.wrap ((a0.size : Int) - (a1.size : Int))) = ji5 := (i64_w _).trans hji5
    by_cases c6 : 0 ≤ (ji5)
    · rw [if_pos c6] at H
      have c6b0 := eq_true c6
      have c6b1 : decide (0 ≤ (ji5)) = true := decide_eq_true c6
      clear c6
      by_cases c7 : (ji5) ≤ (a0.size : Int)
      · rw [if_pos c7] at H
        have c7b0 := eq_true c7
        have c7b1 : decide ((ji5) ≤ (a0.size : Int)) = true := decide_eq_true c7
        clear c7
        obtain rfl := Option.some.inj H
        go_enter Tryd.func35, Tryd.ntmps35
        go_wp2_with (first | ((with_reducible refine gate_callee (f := 48) rfl ?_); refine goesL_ (some 7) rfl rfl Tryd.func48 (by kernel_rfl) rfl #[.string a0, .string a1] rfl (by (try simp only [List.map_toArray, List.map_cons, List.map_nil]); first | done | rfl | (simp only [List.length_drop, List.length_take]; rfl)) ?_; (with_reducible refine (stringslite_HasSuffix.calls a0 a1 true _ A3.out).mono ?_); rintro e w' ⟨rfl, ⟨nd, rfl⟩⟩; refine ⟨_, rfl, ?_⟩))
        go_ret
        exact ⟨by first | rfl | (simp; done) | (simp only [← hji5] <;> (first | rfl | simp)) | (simp [*]; done), by repeat (first | exact Drawn0.refl _ | apply Drawn0.step)⟩
      · rw [if_neg c7] at H
        exact absurd H (by simp)
    · rw [if_neg c6] at H
      exact absurd H (by simp)
  · replace c4 := Bool.eq_false_iff.mpr c4
    subst c4
    have H1 : (some a0) = some r := by rw [if_neg (show ¬ (false = true) by decide)] at H; exact H
    clear H
    have H := H1
    clear H1
    obtain rfl := Option.some.inj H
    go_enter Tryd.func35, Tryd.ntmps35
    go_wp2_with (first | ((with_reducible refine gate_callee (f := 48) rfl ?_); refine goesL_ (some 7) rfl rfl Tryd.func48 (by kernel_rfl) rfl #[.string a0, .string a1] rfl (by (try simp only [List.map_toArray, List.map_cons, List.map_nil]); first | done | rfl | (simp only [List.length_drop, List.length_take]; rfl)) ?_; (with_reducible refine (stringslite_HasSuffix.calls a0 a1 false _ A3.out).mono ?_); rintro e w' ⟨rfl, ⟨nd, rfl⟩⟩; refine ⟨_, rfl, ?_⟩))
    go_ret
    exact ⟨by first | rfl | (simp; done) | (simp [*]; done), by repeat (first | exact Drawn0.refl _ | apply Drawn0.step)⟩

/-! ### strings_TrimSuffix: function 25 -/
def strings_TrimSuffix.f (a0 : ByteArray) (a1 : ByteArray) : Option (ByteArray) := (stringslite_TrimSuffix.f a0 a1).bind fun t142 => (some t142)
set_option maxHeartbeats 8000000 in
set_option maxRecDepth 100000 in
theorem strings_TrimSuffix.calls (a0 : ByteArray) (a1 : ByteArray) (r : ByteArray) (w : World) (h : strings_TrimSuffix.f a0 a1 = some r) :
    Calls Tryd.prog 25 #[.string a0, .string a1] w fun e w' => e = .returned (.string r) ∧ Drawn0 w w' := by
  have H : ((stringslite_TrimSuffix.f a0 a1).bind fun t142 => (some t142)) = some r := h
  clear h
  replace H := Option.bind_eq_some_iff.mp H
  obtain ⟨t142, A30, H⟩ := H
  replace H : (some t142) = some r := H
  have A3 := Aside0.mk A30
  clear A30
  obtain rfl := Option.some.inj H
  go_enter Tryd.func25, Tryd.ntmps25
  go_wp2_with (first | ((with_reducible refine gate_callee (f := 35) rfl ?_); refine goesL_ (some 7) rfl rfl Tryd.func35 (by kernel_rfl) rfl #[.string a0, .string a1] rfl (by (try simp only [List.map_toArray, List.map_cons, List.map_nil]); first | done | rfl | (simp only [List.length_drop, List.length_take]; rfl)) ?_; (with_reducible refine (stringslite_TrimSuffix.calls a0 a1 t142 _ A3.out).mono ?_); rintro e w' ⟨rfl, ⟨nd, rfl⟩⟩; refine ⟨_, rfl, ?_⟩))
  go_ret
  exact ⟨by first | rfl | (simp; done) | (simp [*]; done), by repeat (first | exact Drawn0.refl _ | apply Drawn0.step)⟩

-- NOT PRINTED: function 29 (strings_Builder_String)

-- NOT PRINTED: function 53 (abi_NoEscape)

-- NOT PRINTED: function 41 (strings_Builder_copyCheck)

-- NOT PRINTED: function 70 (strings_Builder_WriteByte)

-- NOT PRINTED: function 51 (text_hex)

-- NOT PRINTED: function 38 (text_fields)

-- NOT PRINTED: function 28 (strings_Builder_WriteString)

-- NOT PRINTED: function 89 (bytealg_MakeNoZero)

-- NOT PRINTED: function 71 (strings_Builder_grow)

-- NOT PRINTED: function 52 (strings_Builder_Grow)

-- NOT PRINTED: function 39 (strings_Join)

-- NOT PRINTED: function 26 (text_line)

/-! ### slices_Equal_int_int: function 40 -/
def slices_Equal_int_int.l0 : Nat → List Int → List Int → Int → Int → Option (Bool)
  | 0, _, _, _, _ => none
  | k + 1, x0, x1, x12, x13 => if x13 < x12 then (if 0 ≤ x13 then (if x13 < (x0.length : Int) then (if x13 < (x1.length : Int) then (if (rd x0 x13) = (rd x1 x13) then (slices_Equal_int_int.l0 k x0 x1 x12 (wrap64 (x13 + 1))) else (some false)) else (none)) else (none)) else (none)) else (some true)
def slices_Equal_int_int.f (k : Nat) (l0 : List Int) (l1 : List Int) : Option (Bool) := if (l0.length : Int) = (l1.length : Int) then (slices_Equal_int_int.l0 k l0 l1 (l0.length : Int) 0) else (some false)
theorem slices_Equal_int_int.mono_l : ∀ k, (∀ y0 y1 y2 y3, LeO (slices_Equal_int_int.l0 k y0 y1 y2 y3) (slices_Equal_int_int.l0 (k + 1) y0 y1 y2 y3))
  | 0 => fun _ _ _ _ r h => by simp [slices_Equal_int_int.l0] at h
  | k + 1 => by
    have ih0 := slices_Equal_int_int.mono_l k
    · intro y0 y1 y2 y3
      unfold slices_Equal_int_int.l0
      repeat' first
      | (with_reducible exact ih0 _ _ _ _)
      | (with_reducible exact LeO.refl _)
      | (with_reducible exact LeO.none _)
      | (with_reducible refine LeO.ite ?_ ?_)
      | (with_reducible refine LeO.bind ?_ (fun _ => ?_))
      | exact ih0 _ _ _ _
      | exact LeO.none _
      | refine LeO.ite ?_ ?_
      | refine LeO.bind ?_ (fun _ => ?_)
theorem slices_Equal_int_int.mono : ∀ a0 a1 k, LeO (slices_Equal_int_int.f k a0 a1) (slices_Equal_int_int.f (k + 1) a0 a1) := by
  intro a0 a1 k
  have ih0 := slices_Equal_int_int.mono_l k
  unfold slices_Equal_int_int.f
  repeat' first
      | (with_reducible exact ih0 _ _ _ _)
      | (with_reducible exact LeO.refl _)
      | (with_reducible exact LeO.none _)
      | (with_reducible refine LeO.ite ?_ ?_)
      | (with_reducible refine LeO.bind ?_ (fun _ => ?_))
      | exact ih0 _ _ _ _
      | exact LeO.none _
      | refine LeO.ite ?_ ?_
      | refine LeO.bind ?_ (fun _ => ?_)
set_option maxHeartbeats 8000000 in
set_option maxRecDepth 100000 in
theorem slices_Equal_int_int.calls (k : Nat) (A0 : Option Addr) (c0 : Nat) (l0 : List Int) (A1 : Option Addr) (c1 : Nat) (l1 : List Int) (r : Bool) (w : World) (hr0 : Kd.C (Kd.int .i64) w A0 l0.length l0) (hc0 : l0.length ≤ c0) (hr1 : Kd.C (Kd.int .i64) w A1 l1.length l1) (hc1 : l1.length ≤ c1) (h : slices_Equal_int_int.f k l0 l1 = some r) :
    Calls Tryd.prog 40 #[.slice A0 l0.length c0, .slice A1 l1.length c1] w fun e w' => e = .returned (.bool r) ∧ Drawn0 w w' := by
  have HR0 := Aside0.mk hr0
  have HC0 := Aside0.mk hc0
  clear hr0 hc0
  have HR1 := Aside0.mk hr1
  have HC1 := Aside0.mk hc1
  clear hr1 hc1
  have H : (if (l0.length : Int) = (l1.length : Int) then (slices_Equal_int_int.l0 k l0 l1 (l0.length : Int) 0) else (some false)) = some r := h
  clear h
  by_cases c3 : (l0.length : Int) = (l1.length : Int)
  · rw [if_pos c3] at H
    have c3b0 : ((l0.length : Int) == (l1.length : Int)) = true := beq_iff_eq.mpr c3
    have c3b1 : ((l0.length : Int) != (l1.length : Int)) = false := bne_eq_false_iff_eq.mpr c3
    have c3b2 : (l0.length == l1.length) = true := by first | simpa using c3 | (simp at c3 ⊢; omega)
    clear c3
    have H' := Aside0.mk H
    clear H
    go_enter Tryd.func40, Tryd.ntmps40
    go_wp2
    repeat (go_quiet (fail); try go_wp2)
    go_loopg [13] k (fun kq v13 w' => ∃ (x13_1 : Int), v13 = .int .i64 x13_1 ∧ Aside0 (slices_Equal_int_int.l0 kq l0 l1 (l0.length : Int) x13_1 = some r) ∧ Aside0 (kq ≤ k) ∧ Drawn0 w w')
    case atStart => exact ⟨(0), (by first | rfl | (simp; done) | (simp [*]; done)), H', ⟨Nat.le_refl _⟩, by repeat (first | exact Drawn0.refl _ | apply Drawn0.step)⟩
    case round =>
      clear H'
      try clear c1
      try clear p2
      try clear c3
      try clear c3b0
      try clear c3b1
      try clear c3b2
      obtain ⟨x13_1, rfl, HA, HK1, ⟨m1, rfl⟩⟩ := hrel
      cases gk with
      | zero => exact absurd HA.out (by simp [slices_Equal_int_int.l0])
      | succ k1 =>
        have H := HA.out
        clear HA
        simp only [slices_Equal_int_int.l0] at H
        by_cases c4 : x13_1 < (l0.length : Int)
        · rw [if_pos c4] at H
          have c4b0 : decide (x13_1 < (l0.length : Int)) = true := decide_eq_true c4
          clear c4
          by_cases c5 : 0 ≤ x13_1
          · rw [if_pos c5] at H
            have c5b0 : decide (0 ≤ x13_1) = true := decide_eq_true c5
            clear c5
            by_cases c6 : x13_1 < (l0.length : Int)
            · rw [if_pos c6] at H
              have c6b0 : decide (x13_1 < (l0.length : Int)) = true := decide_eq_true c6
              clear c6
              by_cases c7 : x13_1 < (l1.length : Int)
              · rw [if_pos c7] at H
                have c7b0 : decide (x13_1 < (l1.length : Int)) = true := decide_eq_true c7
                clear c7
                by_cases c8 : (rd l0 x13_1) = (rd l1 x13_1)
                · rw [if_pos c8] at H
                  have c8b0 : ((rd l0 x13_1) == (rd l1 x13_1)) = true := beq_iff_eq.mpr c8
                  have c8b1 : ((rd l0 x13_1) != (rd l1 x13_1)) = false := bne_eq_false_iff_eq.mpr c8
                  clear c8
                  have H' := Aside0.mk H
                  clear H
                  have p144 : 0 ≤ (x13_1 : Int) := of_decide_eq_true (by first | (with_reducible assumption) | assumption)
                  have q144 : x13_1 < (l0.length : Int) := of_decide_eq_true (by first | (with_reducible assumption) | assumption)
                  obtain ⟨ad144, e144, hx144_0⟩ := Kd.at_int HR0.out x13_1 p144 q144
                  cases e144
                  replace p144 := eq_true p144
                  replace q144 := eq_true q144
                  have p145 : 0 ≤ (x13_1 : Int) := of_decide_eq_true (by first | (with_reducible assumption) | assumption)
                  have q145 : x13_1 < (l1.length : Int) := of_decide_eq_true (by first | (with_reducible assumption) | assumption)
                  obtain ⟨ad145, e145, hx145_0⟩ := Kd.at_int HR1.out x13_1 p145 q145
                  cases e145
                  replace p145 := eq_true p145
                  replace q145 := eq_true q145
                  go_wp2
                  repeat (go_quiet (fail); try go_wp2)
                  go_roundg k1
                  case measure => have := HK1.out; omega
                  case rel => exact ⟨(wrap64 (x13_1 + 1)), (by first | rfl | (simp; done) | (simp [*]; done)), H', ⟨by have := HK1.out; omega⟩, by repeat (first | exact Drawn0.refl _ | apply Drawn0.step)⟩
                · rw [if_neg c8] at H
                  have c8b0 : ((rd l0 x13_1) == (rd l1 x13_1)) = false := beq_eq_false_iff_ne.mpr c8
                  have c8b1 : ((rd l0 x13_1) != (rd l1 x13_1)) = true := bne_iff_ne.mpr c8
                  obtain rfl := Option.some.inj H
                  have p144 : 0 ≤ (x13_1 : Int) := of_decide_eq_true (by first | (with_reducible assumption) | assumption)
                  have q144 : x13_1 < (l0.length : Int) := of_decide_eq_true (by first | (with_reducible assumption) | assumption)
                  obtain ⟨ad144, e144, hx144_0⟩ := Kd.at_int HR0.out x13_1 p144 q144
                  cases e144
                  replace p144 := eq_true p144
                  replace q144 := eq_true q144
                  have p145 : 0 ≤ (x13_1 : Int) := of_decide_eq_true (by first | (with_reducible assumption) | assumption)
                  have q145 : x13_1 < (l1.length : Int) := of_decide_eq_true (by first | (with_reducible assumption) | assumption)
                  obtain ⟨ad145, e145, hx145_0⟩ := Kd.at_int HR1.out x13_1 p145 q145
                  cases e145
                  replace p145 := eq_true p145
                  replace q145 := eq_true q145
                  go_wp2
                  repeat (go_quiet (fail); try go_wp2)
                  go_ret
                  exact ⟨by first | rfl | (simp; done) | (simp [*]; done), by repeat (first | exact Drawn0.refl _ | apply Drawn0.step)⟩
              · rw [if_neg c7] at H
                exact absurd H (by simp)
            · rw [if_neg c6] at H
              exact absurd H (by simp)
          · rw [if_neg c5] at H
            exact absurd H (by simp)
        · rw [if_neg c4] at H
          have c4b0 : decide (x13_1 < (l0.length : Int)) = false := decide_eq_false c4
          clear c4
          obtain rfl := Option.some.inj H
          go_wp2
          repeat (go_quiet (fail); try go_wp2)
          go_ret
          exact ⟨by first | rfl | (simp; done) | (simp [*]; done), by repeat (first | exact Drawn0.refl _ | apply Drawn0.step)⟩
  · rw [if_neg c3] at H
    have c3b0 : ((l0.length : Int) == (l1.length : Int)) = false := beq_eq_false_iff_ne.mpr c3
    have c3b1 : ((l0.length : Int) != (l1.length : Int)) = true := bne_iff_ne.mpr c3
    have c3b2 : (l0.length == l1.length) = false := by first | simpa using c3 | (simp at c3 ⊢; omega)
    obtain rfl := Option.some.inj H
    go_enter Tryd.func40, Tryd.ntmps40
    go_wp2
    repeat (go_quiet (fail); try go_wp2)
    go_ret
    exact ⟨by first | rfl | (simp; done) | (simp [*]; done), by repeat (first | exact Drawn0.refl _ | apply Drawn0.step)⟩

-- NOT PRINTED: function 27 (text_same)

-- NOT PRINTED: function 17 (text_Plain)

-- NOT PRINTED: function 10 (windrowlaw25_awake)

/-! ### windrowref25_fits: function 21 -/
def windrowref25_fits.f (a0 : Int) : Option (Bool) := if a0 ≥ 0 then (some (decide (a0 ≤ 999999))) else (some false)
set_option maxHeartbeats 8000000 in
set_option maxRecDepth 100000 in
theorem windrowref25_fits.calls (a0 : Int) (r : Bool) (w : World) (h : windrowref25_fits.f a0 = some r) :
    Calls Tryd.prog 21 #[.int .i64 a0] w fun e w' => e = .returned (.bool r) ∧ Drawn0 w w' := by
  have H : (if a0 ≥ 0 then (some (decide (a0 ≤ 999999))) else (some false)) = some r := h
  clear h
  by_cases c2 : a0 ≥ 0
  · rw [if_pos c2] at H
    have c2b0 : decide (0 ≤ a0) = true := decide_eq_true c2
    clear c2
    obtain rfl := Option.some.inj H
    go_enter Tryd.func21, Tryd.ntmps21
    go_wp2
    go_ret
    exact ⟨by first | rfl | (simp; done) | (simp [*]; done), by repeat (first | exact Drawn0.refl _ | apply Drawn0.step)⟩
  · rw [if_neg c2] at H
    have c2b0 : decide (0 ≤ a0) = false := decide_eq_false c2
    clear c2
    obtain rfl := Option.some.inj H
    go_enter Tryd.func21, Tryd.ntmps21
    go_wp2
    go_ret
    exact ⟨by first | rfl | (simp; done) | (simp [*]; done), by repeat (first | exact Drawn0.refl _ | apply Drawn0.step)⟩

/-! ### windrowref25_spell: function 22 -/
def windrowref25_spell.f : Nat → Int → Option (ByteArray)
  | 0, _ => none
  | k + 1, a0 => if a0 < 10 then (some (strOfNums (([(IntKind.u64.wrap (48 + a0)) % 256] : List Int)))) else ((windrowref25_spell.f k (IntKind.u64.wrap (Int.tdiv a0 10))).bind fun t149 => ((some (([(IntKind.u64.wrap (48 + (Int.tmod a0 10))) % 256] : List Int) : List Int)).bind fun y150 => (if t149.size + (strOfNums y150).size ≤ 9223372036854775807 then (some (t149 ++ (strOfNums y150))) else (none))))
theorem windrowref25_spell.mono_l : ∀ k, (∀ y0, LeO (windrowref25_spell.f k y0) (windrowref25_spell.f (k + 1) y0))
  | 0 => fun _ r h => by simp [windrowref25_spell.f] at h
  | k + 1 => by
    have ih0 := windrowref25_spell.mono_l k
    · intro y0
      unfold windrowref25_spell.f
      repeat' first
      | (with_reducible exact ih0 _)
      | (with_reducible exact LeO.refl _)
      | (with_reducible exact LeO.none _)
      | (with_reducible refine LeO.ite ?_ ?_)
      | (with_reducible refine LeO.bind ?_ (fun _ => ?_))
      | exact ih0 _
      | exact LeO.none _
      | refine LeO.ite ?_ ?_
      | refine LeO.bind ?_ (fun _ => ?_)
theorem windrowref25_spell.mono : ∀ a0 k, LeO (windrowref25_spell.f k a0) (windrowref25_spell.f (k + 1) a0) := by
  intro a0 k
  have ih0 := windrowref25_spell.mono_l k
  exact ih0 a0
def windrowref25_spell.T3 : Bool × List (List Nat × List Nat) := (true, [([], []), ([0], [0]), ([1], [1]), ([], []), ([3], [3]), ([4], [4]), ([5], [5]), ([6], [6]), ([7], [7]), ([2, 8], [2, 8]), ([9, 2, 0, 1, 2, 3, 4, 5, 6, 7, 8, 9], [9])])
def windrowref25_spell.B3 : List Nat := [0, 1, 3, 0, 8, 24, 56, 120, 248, 511, 1023]
theorem windrowref25_spell.tab3 : rtab .any (opsOf Tryd.f22 3) = windrowref25_spell.T3 := by kernel_rfl
theorem windrowref25_spell.bits3 : waitsOk windrowref25_spell.T3.2 windrowref25_spell.B3 = true := by kernel_rfl
set_option maxHeartbeats 8000000 in
set_option maxRecDepth 100000 in
theorem windrowref25_spell.calls (k : Nat) : ∀ (a0 : Int) (r : ByteArray) (w : World) (h : windrowref25_spell.f k a0 = some r),
    Calls Tryd.prog 22 #[.int .u64 a0] w fun e w' => e = .returned (.string r) ∧ Below w.heap.size w w' := by
  induction k using Nat.strongRecOn with
  | _ k ih =>
  intro a0 r w h
  cases k with
  | zero => exact absurd h (by simp [windrowref25_spell.f])
  | succ k =>
  simp only [windrowref25_spell.f] at h
  have HB := Aside0.mk (Below.refl w.heap.size w)
  have H : (if a0 < 10 then (some (strOfNums (([(IntKind.u64.wrap (48 + a0)) % 256] : List Int)))) else ((windrowref25_spell.f k (IntKind.u64.wrap (Int.tdiv a0 10))).bind fun t149 => ((some (([(IntKind.u64.wrap (48 + (Int.tmod a0 10))) % 256] : List Int) : List Int)).bind fun y150 => (if t149.size + (strOfNums y150).size ≤ 9223372036854775807 then (some (t149 ++ (strOfNums y150))) else (none))))) = some r := h
  clear h
  by_cases c2 : a0 < 10
  · rw [if_pos c2] at H
    have c2b0 : decide (a0 < 10) = true := decide_eq_true c2
    clear c2
    obtain ⟨y146, hy146⟩ : ∃ y_ : List Int, y_ = (([(IntKind.u64.wrap (48 + a0)) % 256] : List Int)) := ⟨_, rfl⟩
    replace H : (some (strOfNums y146)) = some r := by first | (rw [hy146]; with_reducible exact H) | (have H2_ := (Option.bind_some _ _).symm.trans H; rw [hy146]; with_reducible exact H2_) | (have H2_ := (Option.bind_some _ _).symm.trans H; with_reducible exact H2_) | with_reducible exact H | (rw [hy146]; exact H) | exact H
    have Ny146 := Aside0.mk hy146
    clear hy146
    obtain rfl := Option.some.inj H
    go_enter Tryd.func22, Tryd.ntmps22
    go_wp2_with (first | ((with_reducible refine gate_dst (N := 8) rfl ?_); refine Kd.R_lit (Kd.int .u8) _ 5 ?hg (N := 8) ?hd (xs := ([(IntKind.u64.wrap (48 + a0)) % 256] : List Int)) (inner := [.int .u8 ((IntKind.u64.wrap (48 + a0)) % 256)]) (ok := fun _ => True) (okp := fun _ => True) ?hr ?hp (fun _ hk => hk) trivial (Below.refl _ _) (Nat.le_refl _) (by simp) ?_; (case hd => rfl); (case hg => rfl); (case hr => first | (go_simp; done) | (go_simp; rfl)); (case hp => exact (Reps.one (show Kd.M (Kd.int .u8) _ _ _ ((IntKind.u64.wrap (48 + a0)) % 256) [.int .u8 ((IntKind.u64.wrap (48 + a0)) % 256)] from rfl) (Reps.none _ _))); intro v147 w3 ho4 hb hg_ hnew_; clear hg_ hnew_; (first | rw [← Ny146.out] at ho4 | (simp only [Int.reduceToNat] at ho4; rw [← Ny146.out] at ho4)); have n0_ := Aside0.mk (Kd.R_lower ho4 (below_size (by repeat (first | (with_reducible first | exact HB.out | apply below_alloc | apply pw_below_drewN | apply below_drew1) | exact HB.out)))); have n1_ := Aside0.mk (below_step (by repeat (first | (with_reducible first | exact HB.out | apply below_alloc | apply pw_below_drewN | apply below_drew1) | exact HB.out)) hb); clear HB; have HO148 := n0_; have HB := n1_; clear n0_ n1_; clear hb ho4; have hcv5 := own_string (P := Tryd.prog) Tryd.underlying61 Tryd.underlying5 Tryd.underlying9 (Kd.own_of_R HO148.out)))
    go_ret
    exact ⟨by first | rfl | (simp [errW_none, errW_some] <;> rfl) | (simp [*, errW_none, errW_some] <;> rfl), by repeat (first | (with_reducible first | exact HB.out | apply below_alloc | apply pw_below_drewN | apply below_drew1) | exact HB.out)⟩
  · rw [if_neg c2] at H
    have c2b0 : decide (a0 < 10) = false := decide_eq_false c2
    clear c2
    replace H := Option.bind_eq_some_iff.mp H
    obtain ⟨t149, A60, H⟩ := H
    replace H : ((some (([(IntKind.u64.wrap (48 + (Int.tmod a0 10))) % 256] : List Int) : List Int)).bind fun y150 => (if t149.size + (strOfNums y150).size ≤ 9223372036854775807 then (some (t149 ++ (strOfNums y150))) else (none))) = some r := H
    have A6 := Aside0.mk A60
    clear A60
    obtain ⟨y150, hy150⟩ : ∃ y_ : List Int, y_ = (([(IntKind.u64.wrap (48 + (Int.tmod a0 10))) % 256] : List Int)) := ⟨_, rfl⟩
    replace H : (if t149.size + (strOfNums y150).size ≤ 9223372036854775807 then (some (t149 ++ (strOfNums y150))) else (none)) = some r := by first | (rw [hy150]; with_reducible exact H) | (have H2_ := (Option.bind_some _ _).symm.trans H; rw [hy150]; with_reducible exact H2_) | (have H2_ := (Option.bind_some _ _).symm.trans H; with_reducible exact H2_) | with_reducible exact H | (rw [hy150]; exact H) | exact H
    have Ny150 := Aside0.mk hy150
    clear hy150
    by_cases c7 : t149.size + (strOfNums y150).size ≤ 9223372036854775807
    · rw [if_pos c7] at H
      have c7b0 := eq_true c7
      have c7b1 : decide (t149.size + (strOfNums y150).size ≤ 9223372036854775807) = true := decide_eq_true c7
      try have c7b2 : (9223372036854775807 < t149.size + (strOfNums y150).size) = False := eq_false (Nat.not_lt.2 c7)
      obtain rfl := Option.some.inj H
      go_enter Tryd.func22, Tryd.ntmps22
      try go_wp2
      have n0_ := Aside0.mk (below_drew1 HB.out)
      clear HB
      have HB := n0_
      clear n0_
      refine start_ (n := 11) (S := fun w' => True) (ds := []) #[false, false, false, false, false, false, false, false, false, false, false] (by kernel_rfl) rfl rfl trivial (fun hHeld => ?_); refine with_tabW windrowref25_spell.tab3 windrowref25_spell.bits3 (fun HT_ HW_ => ?_)
      generalize w.drew = w8 at HB hHeld ⊢
      refine pure_ (i := 0) (N := some 10) (v := ?_) (a' := ?_) #[true, false, false, false, false, false, false, false, false, false, false] rfl rfl (any_of HT_.out (by kernel_rfl)) (fun _ _ _ h => h) (Or.inl ⟨by rfl, ?_⟩) ?_ ?_
      rotate_left
      · intro w'
        go_simp
        with_reducible rfl
      rotate_left
      · simp only [Act.put, List.setIfInBounds_toArray, List.set_cons_zero, List.set_cons_succ, i64_w, i32_w]
        rfl
      refine pure_ (i := 1) (N := some 11) (v := ?_) (a' := ?_) #[true, true, false, false, false, false, false, false, false, false, false] rfl rfl (any_of HT_.out (by kernel_rfl)) (fun _ _ _ h => h) (Or.inl ⟨by rfl, ?_⟩) ?_ ?_
      rotate_left
      · intro w'
        go_simp
        with_reducible rfl
      rotate_left
      · simp only [Act.put, List.setIfInBounds_toArray, List.set_cons_zero, List.set_cons_succ, i64_w, i32_w]
        rfl
      refine pure_ (i := 3) (N := some 13) (v := ?_) (a' := ?_) #[true, true, false, true, false, false, false, false, false, false, false] rfl rfl (any_of HT_.out (by kernel_rfl)) (fun _ _ _ h => h) (Or.inl ⟨by rfl, ?_⟩) ?_ ?_
      rotate_left
      · intro w'
        go_simp
        with_reducible rfl
      rotate_left
      · simp only [Act.put, List.setIfInBounds_toArray, List.set_cons_zero, List.set_cons_succ, i64_w, i32_w]
        rfl
      refine pure_ (i := 4) (N := some 14) (v := ?_) (a' := ?_) #[true, true, false, true, true, false, false, false, false, false, false] rfl rfl (any_of HT_.out (by kernel_rfl)) (fun _ _ _ h => h) (Or.inl ⟨by rfl, ?_⟩) ?_ ?_
      rotate_left
      · intro w'
        go_simp
        with_reducible rfl
      rotate_left
      · simp only [Act.put, List.setIfInBounds_toArray, List.set_cons_zero, List.set_cons_succ, i64_w, i32_w]
        rfl
      refine pure_ (i := 5) (N := some 15) (v := ?_) (a' := ?_) #[true, true, false, true, true, true, false, false, false, false, false] rfl rfl (any_of HT_.out (by kernel_rfl)) (fun _ _ _ h => h) (Or.inl ⟨by rfl, ?_⟩) ?_ ?_
      rotate_left
      · intro w'
        go_simp
        with_reducible rfl
      rotate_left
      · simp only [Act.put, List.setIfInBounds_toArray, List.set_cons_zero, List.set_cons_succ, i64_w, i32_w]
        rfl
      refine pure_ (i := 6) (N := some 16) (v := ?_) (a' := ?_) #[true, true, false, true, true, true, true, false, false, false, false] rfl rfl (any_of HT_.out (by kernel_rfl)) (fun _ _ _ h => h) (Or.inl ⟨by rfl, ?_⟩) ?_ ?_
      rotate_left
      · intro w'
        go_simp
        with_reducible rfl
      rotate_left
      · simp only [Act.put, List.setIfInBounds_toArray, List.set_cons_zero, List.set_cons_succ, i64_w, i32_w]
        rfl
      refine join_ (σ := Value) 2 #[true, true, true, true, true, true, true, true, true, false, false] (fun s_ => [(12, .string t149), (17, s_), (18, .string (strOfNums y150))]) (fun s_ w' => (Kd.R (Kd.int .u8) 5 w' w.heap.size (fun _ => True) s_ y150) ∧ (Below w.heap.size w w')) ?_ ?_
      rotate_left
      · intro hCont
        refine two_ (i := 2) (j := 7) (Ni := some 12) (Nj := some 17) #[true, true, true, true, true, true, true, false, false, false, false] #[true, true, false, true, true, true, true, true, false, false, false] rfl rfl rfl rfl (two_of HT_.out (by kernel_rfl)) (by decide) (by decide) (fun K hK => ?_) (fun K hK => ?_)
        · skip
          refine goes_ Tryd.func22 (by kernel_rfl) rfl #[.int .u64 (IntKind.u64.wrap (Int.tdiv a0 10))] (by rfl) rfl rfl (by (try simp only [List.map_toArray, List.map_cons, List.map_nil]); first | done | rfl | (simp only [List.length_drop, List.length_take]; rfl)) ?_
          with_reducible refine (ih k (by omega) (IntKind.u64.wrap (Int.tdiv a0 10)) t149 _ A6.out).mono ?_
          rintro e w9 ⟨rfl, hb⟩
          refine ⟨_, rfl, ?_⟩
          have n0_ := Aside0.mk (below_step (by repeat (first | (with_reducible first | exact HB.out | apply below_alloc | apply pw_below_drewN | apply below_drew1) | exact HB.out)) hb)
          clear HB
          have HB := n0_
          clear n0_
          (try clear hb)
          (try clear hb2)
          (try clear hk)
          (try clear hi)
          refine hK.out _ _ trivial (fun hHeld => ?_)
          clear hK K
          refine norm_ (a' := ?_) ?_ ?_
          rotate_left
          · show Act.put _ (some 12) _ = _
            simp only [Act.put, List.setIfInBounds_toArray, List.set_cons_zero, List.set_cons_succ, i64_w, i32_w]
            rfl
          refine one_ (i := 7) (N := some 17) #[true, true, true, true, true, true, true, true, false, false, false] rfl rfl (one_of HT_.out (by kernel_rfl)) (by decide) (fun K hK => ?_)
          refine Kd.R_lit_step (Kd.int .u8) _ 5 ?hg (N := 17) ?hd (xs := ([(IntKind.u64.wrap (48 + (Int.tmod a0 10))) % 256] : List Int)) (inner := [.int .u8 ((IntKind.u64.wrap (48 + (Int.tmod a0 10))) % 256)]) (ok := fun _ => True) (okp := fun _ => True) ?hr ?hp (fun _ hk => hk) trivial (Below.refl _ _) (Nat.le_refl _) (by simp) ?_; (case hd => rfl); (case hg => rfl); (case hr => first | (go_simp; done) | (go_simp; rfl)); (case hp => exact (Reps.one (show Kd.M (Kd.int .u8) _ _ _ ((IntKind.u64.wrap (48 + (Int.tmod a0 10))) % 256) [.int .u8 ((IntKind.u64.wrap (48 + (Int.tmod a0 10))) % 256)] from rfl) (Reps.none _ _)))
          intro v151 w10 ho11 hb hg_ hnew_
          clear hg_ hnew_
          (first | rw [← Ny150.out] at ho11 | (simp only [Int.reduceToNat] at ho11; rw [← Ny150.out] at ho11))
          have n0_ := Aside0.mk (Kd.R_lower ho11 (below_size (by repeat (first | (with_reducible first | exact HB.out | apply below_alloc | apply pw_below_drewN | apply below_drew1) | exact HB.out))))
          have n1_ := Aside0.mk (below_step (by repeat (first | (with_reducible first | exact HB.out | apply below_alloc | apply pw_below_drewN | apply below_drew1) | exact HB.out)) hb)
          clear HB
          have HO152 := n0_
          have HB := n1_
          clear n0_ n1_
          clear hb ho11
          refine hK.out _ _ trivial (fun hHeld => ?_)
          clear hK K
          refine norm_ (a' := ?_) ?_ ?_
          rotate_left
          · show Act.put _ (some 17) _ = _
            simp only [Act.put, List.setIfInBounds_toArray, List.set_cons_zero, List.set_cons_succ, i64_w, i32_w]
            rfl
          refine one_ (i := 8) (N := some 18) #[true, true, true, true, true, true, true, true, true, false, false] rfl rfl (one_of HT_.out (by kernel_rfl)) (by decide) (fun K hK => ?_)
          have hcv12 := own_string (P := Tryd.prog) Tryd.underlying61 Tryd.underlying5 Tryd.underlying9 (Kd.own_of_R HO152.out)
          refine value_ (w1 := ?_) (v := ?_) (by rfl) rfl ?_ ?_
          rotate_left 2
          · go_simp
            constructor
            · rfl
            · rfl
          clear hcv12
          refine hK.out _ _ trivial (fun hHeld => ?_)
          clear hK K
          refine norm_ (a' := ?_) ?_ ?_
          rotate_left
          · show Act.put _ (some 18) _ = _
            simp only [Act.put, List.setIfInBounds_toArray, List.set_cons_zero, List.set_cons_succ, i64_w, i32_w]
            rfl
          exact norm_ (by simp only [putAll, Act.put, List.setIfInBounds_toArray, List.set_cons_zero, List.set_cons_succ]) (hCont (v151) _ ⟨(by (with_reducible repeat (first | apply Kd.R_alloc | apply Kd.R_drewN | apply Kd.R_drew)); exact HO152.out), (by repeat (first | (with_reducible first | exact HB.out | apply below_alloc | apply pw_below_drewN | apply below_drew1) | exact HB.out))⟩)
        · skip
          refine Kd.R_lit_step (Kd.int .u8) _ 5 ?hg (N := 17) ?hd (xs := ([(IntKind.u64.wrap (48 + (Int.tmod a0 10))) % 256] : List Int)) (inner := [.int .u8 ((IntKind.u64.wrap (48 + (Int.tmod a0 10))) % 256)]) (ok := fun _ => True) (okp := fun _ => True) ?hr ?hp (fun _ hk => hk) trivial (Below.refl _ _) (Nat.le_refl _) (by simp) ?_; (case hd => rfl); (case hg => rfl); (case hr => first | (go_simp; done) | (go_simp; rfl)); (case hp => exact (Reps.one (show Kd.M (Kd.int .u8) _ _ _ ((IntKind.u64.wrap (48 + (Int.tmod a0 10))) % 256) [.int .u8 ((IntKind.u64.wrap (48 + (Int.tmod a0 10))) % 256)] from rfl) (Reps.none _ _)))
          intro v151 w9 ho10 hb hg_ hnew_
          clear hg_ hnew_
          (first | rw [← Ny150.out] at ho10 | (simp only [Int.reduceToNat] at ho10; rw [← Ny150.out] at ho10))
          have n0_ := Aside0.mk (Kd.R_lower ho10 (below_size (by repeat (first | (with_reducible first | exact HB.out | apply below_alloc | apply pw_below_drewN | apply below_drew1) | exact HB.out))))
          have n1_ := Aside0.mk (below_step (by repeat (first | (with_reducible first | exact HB.out | apply below_alloc | apply pw_below_drewN | apply below_drew1) | exact HB.out)) hb)
          clear HB
          have HO152 := n0_
          have HB := n1_
          clear n0_ n1_
          clear hb ho10
          refine hK.out _ _ trivial (fun hHeld => ?_)
          clear hK K
          refine norm_ (a' := ?_) ?_ ?_
          rotate_left
          · show Act.put _ (some 17) _ = _
            simp only [Act.put, List.setIfInBounds_toArray, List.set_cons_zero, List.set_cons_succ, i64_w, i32_w]
            rfl
          refine two_ (i := 2) (j := 8) (Ni := some 12) (Nj := some 18) #[true, true, true, true, true, true, true, true, false, false, false] #[true, true, false, true, true, true, true, true, true, false, false] rfl rfl rfl rfl (two_of HT_.out (by kernel_rfl)) (by decide) (by decide) (fun K hK => ?_) (fun K hK => ?_)
          · skip
            refine goes_ Tryd.func22 (by kernel_rfl) rfl #[.int .u64 (IntKind.u64.wrap (Int.tdiv a0 10))] (by rfl) rfl rfl (by (try simp only [List.map_toArray, List.map_cons, List.map_nil]); first | done | rfl | (simp only [List.length_drop, List.length_take]; rfl)) ?_
            with_reducible refine (ih k (by omega) (IntKind.u64.wrap (Int.tdiv a0 10)) t149 _ A6.out).mono ?_
            rintro e w11 ⟨rfl, hb⟩
            refine ⟨_, rfl, ?_⟩
            have n0_ := Aside0.mk (Kd.R_below (by (with_reducible repeat (first | apply Kd.R_alloc | apply Kd.R_drewN | apply Kd.R_drew)); exact HO152.out) hb)
            have n1_ := Aside0.mk (below_step (by repeat (first | (with_reducible first | exact HB.out | apply below_alloc | apply pw_below_drewN | apply below_drew1) | exact HB.out)) hb)
            clear HO152
            clear HB
            have HO152 := n0_
            have HB := n1_
            clear n0_ n1_
            (try clear hb)
            (try clear hb2)
            (try clear hk)
            (try clear hi)
            refine hK.out _ _ trivial (fun hHeld => ?_)
            clear hK K
            refine norm_ (a' := ?_) ?_ ?_
            rotate_left
            · show Act.put _ (some 12) _ = _
              simp only [Act.put, List.setIfInBounds_toArray, List.set_cons_zero, List.set_cons_succ, i64_w, i32_w]
              rfl
            refine one_ (i := 8) (N := some 18) #[true, true, true, true, true, true, true, true, true, false, false] rfl rfl (one_of HT_.out (by kernel_rfl)) (by decide) (fun K hK => ?_)
            have hcv12 := own_string (P := Tryd.prog) Tryd.underlying61 Tryd.underlying5 Tryd.underlying9 (Kd.own_of_R HO152.out)
            refine value_ (w1 := ?_) (v := ?_) (by rfl) rfl ?_ ?_
            rotate_left 2
            · go_simp
              constructor
              · rfl
              · rfl
            clear hcv12
            refine hK.out _ _ trivial (fun hHeld => ?_)
            clear hK K
            refine norm_ (a' := ?_) ?_ ?_
            rotate_left
            · show Act.put _ (some 18) _ = _
              simp only [Act.put, List.setIfInBounds_toArray, List.set_cons_zero, List.set_cons_succ, i64_w, i32_w]
              rfl
            exact norm_ (by simp only [putAll, Act.put, List.setIfInBounds_toArray, List.set_cons_zero, List.set_cons_succ]) (hCont (v151) _ ⟨(by (with_reducible repeat (first | apply Kd.R_alloc | apply Kd.R_drewN | apply Kd.R_drew)); exact HO152.out), (by repeat (first | (with_reducible first | exact HB.out | apply below_alloc | apply pw_below_drewN | apply below_drew1) | exact HB.out))⟩)
          · skip
            have hcv11 := own_string (P := Tryd.prog) Tryd.underlying61 Tryd.underlying5 Tryd.underlying9 (Kd.own_of_R HO152.out)
            refine value_ (w1 := ?_) (v := ?_) (by rfl) rfl ?_ ?_
            rotate_left 2
            · go_simp
              constructor
              · rfl
              · rfl
            clear hcv11
            refine hK.out _ _ trivial (fun hHeld => ?_)
            clear hK K
            refine norm_ (a' := ?_) ?_ ?_
            rotate_left
            · show Act.put _ (some 18) _ = _
              simp only [Act.put, List.setIfInBounds_toArray, List.set_cons_zero, List.set_cons_succ, i64_w, i32_w]
              rfl
            refine one_ (i := 2) (N := some 12) #[true, true, true, true, true, true, true, true, true, false, false] rfl rfl (one_of HT_.out (by kernel_rfl)) (by decide) (fun K hK => ?_)
            refine goes_ Tryd.func22 (by kernel_rfl) rfl #[.int .u64 (IntKind.u64.wrap (Int.tdiv a0 10))] (by rfl) rfl rfl (by (try simp only [List.map_toArray, List.map_cons, List.map_nil]); first | done | rfl | (simp only [List.length_drop, List.length_take]; rfl)) ?_
            with_reducible refine (ih k (by omega) (IntKind.u64.wrap (Int.tdiv a0 10)) t149 _ A6.out).mono ?_
            rintro e w12 ⟨rfl, hb⟩
            refine ⟨_, rfl, ?_⟩
            have n0_ := Aside0.mk (Kd.R_below (by (with_reducible repeat (first | apply Kd.R_alloc | apply Kd.R_drewN | apply Kd.R_drew)); exact HO152.out) hb)
            have n1_ := Aside0.mk (below_step (by repeat (first | (with_reducible first | exact HB.out | apply below_alloc | apply pw_below_drewN | apply below_drew1) | exact HB.out)) hb)
            clear HO152
            clear HB
            have HO152 := n0_
            have HB := n1_
            clear n0_ n1_
            (try clear hb)
            (try clear hb2)
            (try clear hk)
            (try clear hi)
            refine hK.out _ _ trivial (fun hHeld => ?_)
            clear hK K
            refine norm_ (a' := ?_) ?_ ?_
            rotate_left
            · show Act.put _ (some 12) _ = _
              simp only [Act.put, List.setIfInBounds_toArray, List.set_cons_zero, List.set_cons_succ, i64_w, i32_w]
              rfl
            exact norm_ (by simp only [putAll, Act.put, List.setIfInBounds_toArray, List.set_cons_zero, List.set_cons_succ]) (hCont (v151) _ ⟨(by (with_reducible repeat (first | apply Kd.R_alloc | apply Kd.R_drewN | apply Kd.R_drew)); exact HO152.out), (by repeat (first | (with_reducible first | exact HB.out | apply below_alloc | apply pw_below_drewN | apply below_drew1) | exact HB.out))⟩)
      rintro v151 w13 ⟨h0_, h1_⟩
      have n0_ : Aside0 (Kd.R (Kd.int .u8) 5 w13 w.heap.size (fun _ => True) v151 y150) := ⟨h0_⟩
      have n1_ : Aside0 (Below w.heap.size w w13) := ⟨h1_⟩
      clear HB
      clear h0_ h1_
      have HO152 := n0_
      have HB := n1_
      clear n0_ n1_
      have hHeld := trivial
      refine norm_ (a' := ?_) ?_ ?_
      rotate_left
      · simp only [putAll, Act.put, List.setIfInBounds_toArray, List.set_cons_zero, List.set_cons_succ]
        rfl
      refine pure_ (i := 9) (N := some 19) (v := ?_) (a' := ?_) #[true, true, true, true, true, true, true, true, true, true, false] rfl rfl (any_of HT_.out (by kernel_rfl)) (fun _ _ _ h => h) (Or.inl ⟨by rfl, ?_⟩) ?_ ?_
      rotate_left
      · intro w'
        go_simp
        with_reducible rfl
      rotate_left
      · simp only [Act.put, List.setIfInBounds_toArray, List.set_cons_zero, List.set_cons_succ, i64_w, i32_w]
        rfl
      refine pure_ (i := 10) (N := some 2) (v := ?_) (a' := ?_) #[true, true, true, true, true, true, true, true, true, true, true] rfl rfl (any_of HT_.out (by kernel_rfl)) (fun _ _ _ h => h) (Or.inl ⟨by rfl, ?_⟩) ?_ ?_
      rotate_left
      · intro w'
        go_simp
        with_reducible rfl
      rotate_left
      · simp only [Act.put, List.setIfInBounds_toArray, List.set_cons_zero, List.set_cons_succ, i64_w, i32_w]
        rfl
      refine done_ (done_of HT_.out (by kernel_rfl)) ?_
      try go_wp2
      go_ret
      exact ⟨by first | rfl | (simp [errW_none, errW_some] <;> rfl) | (simp [*, errW_none, errW_some] <;> rfl), by repeat (first | (with_reducible first | exact HB.out | apply below_alloc | apply pw_below_drewN | apply below_drew1) | exact HB.out)⟩
    · rw [if_neg c7] at H
      exact absurd H (by simp)

/-! ### windrowref25_name: function 23 -/
def windrowref25_name.f (a0 : Int) (a1 : Bool) : Option (ByteArray × ByteArray) := if a1 = true then (if a0 = 7 then (some ((⟨#[115, 121, 110, 99]⟩ : ByteArray), (⟨#[105]⟩ : ByteArray))) else (some ((⟨#[]⟩ : ByteArray), (⟨#[]⟩ : ByteArray)))) else (if a0 = 1 then (some ((⟨#[102, 111, 114, 109, 97, 116]⟩ : ByteArray), (⟨#[]⟩ : ByteArray))) else (if a0 = 2 then (some ((⟨#[109, 111, 117, 110, 116]⟩ : ByteArray), (⟨#[]⟩ : ByteArray))) else (if a0 = 3 then (some ((⟨#[98, 101, 103, 105, 110]⟩ : ByteArray), (⟨#[]⟩ : ByteArray))) else (if a0 = 4 then (some ((⟨#[114, 101, 97, 100]⟩ : ByteArray), (⟨#[105, 98]⟩ : ByteArray))) else (if a0 = 5 then (some ((⟨#[119, 114, 105, 116, 101]⟩ : ByteArray), (⟨#[105, 98, 100]⟩ : ByteArray))) else (if a0 = 6 then (some ((⟨#[116, 114, 105, 109]⟩ : ByteArray), (⟨#[105, 98]⟩ : ByteArray))) else (if a0 = 7 then (some ((⟨#[99, 111, 109, 109, 105, 116]⟩ : ByteArray), (⟨#[105]⟩ : ByteArray))) else (if a0 = 8 then (some ((⟨#[97, 98, 111, 114, 116]⟩ : ByteArray), (⟨#[105]⟩ : ByteArray))) else (if a0 = 9 then (some ((⟨#[102, 108, 117, 115, 104]⟩ : ByteArray), (⟨#[]⟩ : ByteArray))) else (if a0 = 10 then (some ((⟨#[99, 104, 101, 99, 107, 112, 111, 105, 110, 116]⟩ : ByteArray), (⟨#[]⟩ : ByteArray))) else (if a0 = 11 then (some ((⟨#[99, 108, 101, 97, 110]⟩ : ByteArray), (⟨#[112]⟩ : ByteArray))) else (if a0 = 12 then (some ((⟨#[115, 116, 97, 116]⟩ : ByteArray), (⟨#[]⟩ : ByteArray))) else (some ((⟨#[]⟩ : ByteArray), (⟨#[]⟩ : ByteArray)))))))))))))))
set_option maxHeartbeats 8000000 in
set_option maxRecDepth 100000 in
theorem windrowref25_name.calls (a0 : Int) (a1 : Bool) (r1 : ByteArray) (r2 : ByteArray) (w : World) (h : windrowref25_name.f a0 a1 = some (r1, r2)) :
    Calls Tryd.prog 23 #[.int .i64 a0, .bool a1] w fun e w' => e = .returned (.tuple #[.string r1, .string r2]) ∧ Drawn0 w w' := by
  have H : (if a1 = true then (if a0 = 7 then (some ((⟨#[115, 121, 110, 99]⟩ : ByteArray), (⟨#[105]⟩ : ByteArray))) else (some ((⟨#[]⟩ : ByteArray), (⟨#[]⟩ : ByteArray)))) else (if a0 = 1 then (some ((⟨#[102, 111, 114, 109, 97, 116]⟩ : ByteArray), (⟨#[]⟩ : ByteArray))) else (if a0 = 2 then (some ((⟨#[109, 111, 117, 110, 116]⟩ : ByteArray), (⟨#[]⟩ : ByteArray))) else (if a0 = 3 then (some ((⟨#[98, 101, 103, 105, 110]⟩ : ByteArray), (⟨#[]⟩ : ByteArray))) else (if a0 = 4 then (some ((⟨#[114, 101, 97, 100]⟩ : ByteArray), (⟨#[105, 98]⟩ : ByteArray))) else (if a0 = 5 then (some ((⟨#[119, 114, 105, 116, 101]⟩ : ByteArray), (⟨#[105, 98, 100]⟩ : ByteArray))) else (if a0 = 6 then (some ((⟨#[116, 114, 105, 109]⟩ : ByteArray), (⟨#[105, 98]⟩ : ByteArray))) else (if a0 = 7 then (some ((⟨#[99, 111, 109, 109, 105, 116]⟩ : ByteArray), (⟨#[105]⟩ : ByteArray))) else (if a0 = 8 then (some ((⟨#[97, 98, 111, 114, 116]⟩ : ByteArray), (⟨#[105]⟩ : ByteArray))) else (if a0 = 9 then (some ((⟨#[102, 108, 117, 115, 104]⟩ : ByteArray), (⟨#[]⟩ : ByteArray))) else (if a0 = 10 then (some ((⟨#[99, 104, 101, 99, 107, 112, 111, 105, 110, 116]⟩ : ByteArray), (⟨#[]⟩ : ByteArray))) else (if a0 = 11 then (some ((⟨#[99, 108, 101, 97, 110]⟩ : ByteArray), (⟨#[112]⟩ : ByteArray))) else (if a0 = 12 then (some ((⟨#[115, 116, 97, 116]⟩ : ByteArray), (⟨#[]⟩ : ByteArray))) else (some ((⟨#[]⟩ : ByteArray), (⟨#[]⟩ : ByteArray)))))))))))))))) = some (r1, r2) := h
  clear h
  by_cases c3 : a1 = true
  · subst c3
    have H1 : (if a0 = 7 then (some ((⟨#[115, 121, 110, 99]⟩ : ByteArray), (⟨#[105]⟩ : ByteArray))) else (some ((⟨#[]⟩ : ByteArray), (⟨#[]⟩ : ByteArray)))) = some (r1, r2) := by rw [if_pos rfl] at H; exact H
    clear H
    have H := H1
    clear H1
    by_cases c4 : a0 = 7
    · rw [if_pos c4] at H
      have c4b0 : (a0 == 7) = true := beq_iff_eq.mpr c4
      have c4b1 : (a0 != 7) = false := bne_eq_false_iff_eq.mpr c4
      clear c4
      simp only [Option.some.injEq, Prod.mk.injEq] at H
      obtain ⟨rfl, rfl⟩ := H
      go_enter Tryd.func23, Tryd.ntmps23
      go_wp2
      go_ret2
      exact ⟨by first | rfl | (simp; done) | (simp [*]; done), by repeat (first | exact Drawn0.refl _ | apply Drawn0.step)⟩
    · rw [if_neg c4] at H
      have c4b0 : (a0 == 7) = false := beq_eq_false_iff_ne.mpr c4
      have c4b1 : (a0 != 7) = true := bne_iff_ne.mpr c4
      simp only [Option.some.injEq, Prod.mk.injEq] at H
      obtain ⟨rfl, rfl⟩ := H
      go_enter Tryd.func23, Tryd.ntmps23
      go_wp2
      go_ret2
      exact ⟨by first | rfl | (simp; done) | (simp [*]; done), by repeat (first | exact Drawn0.refl _ | apply Drawn0.step)⟩
  · replace c3 := Bool.eq_false_iff.mpr c3
    subst c3
    have H1 : (if a0 = 1 then (some ((⟨#[102, 111, 114, 109, 97, 116]⟩ : ByteArray), (⟨#[]⟩ : ByteArray))) else (if a0 = 2 then (some ((⟨#[109, 111, 117, 110, 116]⟩ : ByteArray), (⟨#[]⟩ : ByteArray))) else (if a0 = 3 then (some ((⟨#[98, 101, 103, 105, 110]⟩ : ByteArray), (⟨#[]⟩ : ByteArray))) else (if a0 = 4 then (some ((⟨#[114, 101, 97, 100]⟩ : ByteArray), (⟨#[105, 98]⟩ : ByteArray))) else (if a0 = 5 then (some ((⟨#[119, 114, 105, 116, 101]⟩ : ByteArray), (⟨#[105, 98, 100]⟩ : ByteArray))) else (if a0 = 6 then (some ((⟨#[116, 114, 105, 109]⟩ : ByteArray), (⟨#[105, 98]⟩ : ByteArray))) else (if a0 = 7 then (some ((⟨#[99, 111, 109, 109, 105, 116]⟩ : ByteArray), (⟨#[105]⟩ : ByteArray))) else (if a0 = 8 then (some ((⟨#[97, 98, 111, 114, 116]⟩ : ByteArray), (⟨#[105]⟩ : ByteArray))) else (if a0 = 9 then (some ((⟨#[102, 108, 117, 115, 104]⟩ : ByteArray), (⟨#[]⟩ : ByteArray))) else (if a0 = 10 then (some ((⟨#[99, 104, 101, 99, 107, 112, 111, 105, 110, 116]⟩ : ByteArray), (⟨#[]⟩ : ByteArray))) else (if a0 = 11 then (some ((⟨#[99, 108, 101, 97, 110]⟩ : ByteArray), (⟨#[112]⟩ : ByteArray))) else (if a0 = 12 then (some ((⟨#[115, 116, 97, 116]⟩ : ByteArray), (⟨#[]⟩ : ByteArray))) else (some ((⟨#[]⟩ : ByteArray), (⟨#[]⟩ : ByteArray))))))))))))))) = some (r1, r2) := by rw [if_neg (show ¬ (false = true) by decide)] at H; exact H
    clear H
    have H := H1
    clear H1
    by_cases c5 : a0 = 1
    · rw [if_pos c5] at H
      have c5b0 : (a0 == 1) = true := beq_iff_eq.mpr c5
      have c5b1 : (a0 != 1) = false := bne_eq_false_iff_eq.mpr c5
      clear c5
      simp only [Option.some.injEq, Prod.mk.injEq] at H
      obtain ⟨rfl, rfl⟩ := H
      go_enter Tryd.func23, Tryd.ntmps23
      go_wp2
      go_ret2
      exact ⟨by first | rfl | (simp; done) | (simp [*]; done), by repeat (first | exact Drawn0.refl _ | apply Drawn0.step)⟩
    · rw [if_neg c5] at H
      have c5b0 : (a0 == 1) = false := beq_eq_false_iff_ne.mpr c5
      have c5b1 : (a0 != 1) = true := bne_iff_ne.mpr c5
      by_cases c6 : a0 = 2
      · rw [if_pos c6] at H
        have c6b0 : (a0 == 2) = true := beq_iff_eq.mpr c6
        have c6b1 : (a0 != 2) = false := bne_eq_false_iff_eq.mpr c6
        clear c6
        simp only [Option.some.injEq, Prod.mk.injEq] at H
        obtain ⟨rfl, rfl⟩ := H
        go_enter Tryd.func23, Tryd.ntmps23
        go_wp2
        go_ret2
        exact ⟨by first | rfl | (simp; done) | (simp [*]; done), by repeat (first | exact Drawn0.refl _ | apply Drawn0.step)⟩
      · rw [if_neg c6] at H
        have c6b0 : (a0 == 2) = false := beq_eq_false_iff_ne.mpr c6
        have c6b1 : (a0 != 2) = true := bne_iff_ne.mpr c6
        by_cases c7 : a0 = 3
        · rw [if_pos c7] at H
          have c7b0 : (a0 == 3) = true := beq_iff_eq.mpr c7
          have c7b1 : (a0 != 3) = false := bne_eq_false_iff_eq.mpr c7
          clear c7
          simp only [Option.some.injEq, Prod.mk.injEq] at H
          obtain ⟨rfl, rfl⟩ := H
          go_enter Tryd.func23, Tryd.ntmps23
          go_wp2
          go_ret2
          exact ⟨by first | rfl | (simp; done) | (simp [*]; done), by repeat (first | exact Drawn0.refl _ | apply Drawn0.step)⟩
        · rw [if_neg c7] at H
          have c7b0 : (a0 == 3) = false := beq_eq_false_iff_ne.mpr c7
          have c7b1 : (a0 != 3) = true := bne_iff_ne.mpr c7
          by_cases c8 : a0 = 4
          · rw [if_pos c8] at H
            have c8b0 : (a0 == 4) = true := beq_iff_eq.mpr c8
            have c8b1 : (a0 != 4) = false := bne_eq_false_iff_eq.mpr c8
            clear c8
            simp only [Option.some.injEq, Prod.mk.injEq] at H
            obtain ⟨rfl, rfl⟩ := H
            go_enter Tryd.func23, Tryd.ntmps23
            go_wp2
            go_ret2
            exact ⟨by first | rfl | (simp; done) | (simp [*]; done), by repeat (first | exact Drawn0.refl _ | apply Drawn0.step)⟩
          · rw [if_neg c8] at H
            have c8b0 : (a0 == 4) = false := beq_eq_false_iff_ne.mpr c8
            have c8b1 : (a0 != 4) = true := bne_iff_ne.mpr c8
            by_cases c9 : a0 = 5
            · rw [if_pos c9] at H
              have c9b0 : (a0 == 5) = true := beq_iff_eq.mpr c9
              have c9b1 : (a0 != 5) = false := bne_eq_false_iff_eq.mpr c9
              clear c9
              simp only [Option.some.injEq, Prod.mk.injEq] at H
              obtain ⟨rfl, rfl⟩ := H
              go_enter Tryd.func23, Tryd.ntmps23
              go_wp2
              go_ret2
              exact ⟨by first | rfl | (simp; done) | (simp [*]; done), by repeat (first | exact Drawn0.refl _ | apply Drawn0.step)⟩
            · rw [if_neg c9] at H
              have c9b0 : (a0 == 5) = false := beq_eq_false_iff_ne.mpr c9
              have c9b1 : (a0 != 5) = true := bne_iff_ne.mpr c9
              by_cases c10 : a0 = 6
              · rw [if_pos c10] at H
                have c10b0 : (a0 == 6) = true := beq_iff_eq.mpr c10
                have c10b1 : (a0 != 6) = false := bne_eq_false_iff_eq.mpr c10
                clear c10
                simp only [Option.some.injEq, Prod.mk.injEq] at H
                obtain ⟨rfl, rfl⟩ := H
                go_enter Tryd.func23, Tryd.ntmps23
                go_wp2
                go_ret2
                exact ⟨by first | rfl | (simp; done) | (simp [*]; done), by repeat (first | exact Drawn0.refl _ | apply Drawn0.step)⟩
              · rw [if_neg c10] at H
                have c10b0 : (a0 == 6) = false := beq_eq_false_iff_ne.mpr c10
                have c10b1 : (a0 != 6) = true := bne_iff_ne.mpr c10
                by_cases c11 : a0 = 7
                · rw [if_pos c11] at H
                  have c11b0 : (a0 == 7) = true := beq_iff_eq.mpr c11
                  have c11b1 : (a0 != 7) = false := bne_eq_false_iff_eq.mpr c11
                  clear c11
                  simp only [Option.some.injEq, Prod.mk.injEq] at H
                  obtain ⟨rfl, rfl⟩ := H
                  go_enter Tryd.func23, Tryd.ntmps23
                  go_wp2
                  go_ret2
                  exact ⟨by first | rfl | (simp; done) | (simp [*]; done), by repeat (first | exact Drawn0.refl _ | apply Drawn0.step)⟩
                · rw [if_neg c11] at H
                  have c11b0 : (a0 == 7) = false := beq_eq_false_iff_ne.mpr c11
                  have c11b1 : (a0 != 7) = true := bne_iff_ne.mpr c11
                  by_cases c12 : a0 = 8
                  · rw [if_pos c12] at H
                    have c12b0 : (a0 == 8) = true := beq_iff_eq.mpr c12
                    have c12b1 : (a0 != 8) = false := bne_eq_false_iff_eq.mpr c12
                    clear c12
                    simp only [Option.some.injEq, Prod.mk.injEq] at H
                    obtain ⟨rfl, rfl⟩ := H
                    go_enter Tryd.func23, Tryd.ntmps23
                    go_wp2
                    go_ret2
                    exact ⟨by first | rfl | (simp; done) | (simp [*]; done), by repeat (first | exact Drawn0.refl _ | apply Drawn0.step)⟩
                  · rw [if_neg c12] at H
                    have c12b0 : (a0 == 8) = false := beq_eq_false_iff_ne.mpr c12
                    have c12b1 : (a0 != 8) = true := bne_iff_ne.mpr c12
                    by_cases c13 : a0 = 9
                    · rw [if_pos c13] at H
                      have c13b0 : (a0 == 9) = true := beq_iff_eq.mpr c13
                      have c13b1 : (a0 != 9) = false := bne_eq_false_iff_eq.mpr c13
                      clear c13
                      simp only [Option.some.injEq, Prod.mk.injEq] at H
                      obtain ⟨rfl, rfl⟩ := H
                      go_enter Tryd.func23, Tryd.ntmps23
                      go_wp2
                      go_ret2
                      exact ⟨by first | rfl | (simp; done) | (simp [*]; done), by repeat (first | exact Drawn0.refl _ | apply Drawn0.step)⟩
                    · rw [if_neg c13] at H
                      have c13b0 : (a0 == 9) = false := beq_eq_false_iff_ne.mpr c13
                      have c13b1 : (a0 != 9) = true := bne_iff_ne.mpr c13
                      by_cases c14 : a0 = 10
                      · rw [if_pos c14] at H
                        have c14b0 : (a0 == 10) = true := beq_iff_eq.mpr c14
                        have c14b1 : (a0 != 10) = false := bne_eq_false_iff_eq.mpr c14
                        clear c14
                        simp only [Option.some.injEq, Prod.mk.injEq] at H
                        obtain ⟨rfl, rfl⟩ := H
                        go_enter Tryd.func23, Tryd.ntmps23
                        go_wp2
                        go_ret2
                        exact ⟨by first | rfl | (simp; done) | (simp [*]; done), by repeat (first | exact Drawn0.refl _ | apply Drawn0.step)⟩
                      · rw [if_neg c14] at H
                        have c14b0 : (a0 == 10) = false := beq_eq_false_iff_ne.mpr c14
                        have c14b1 : (a0 != 10) = true := bne_iff_ne.mpr c14
                        by_cases c15 : a0 = 11
                        · rw [if_pos c15] at H
                          have c15b0 : (a0 == 11) = true := beq_iff_eq.mpr c15
                          have c15b1 : (a0 != 11) = false := bne_eq_false_iff_eq.mpr c15
                          clear c15
                          simp only [Option.some.injEq, Prod.mk.injEq] at H
                          obtain ⟨rfl, rfl⟩ := H
                          go_enter Tryd.func23, Tryd.ntmps23
                          go_wp2
                          go_ret2
                          exact ⟨by first | rfl | (simp; done) | (simp [*]; done), by repeat (first | exact Drawn0.refl _ | apply Drawn0.step)⟩
                        · rw [if_neg c15] at H
                          have c15b0 : (a0 == 11) = false := beq_eq_false_iff_ne.mpr c15
                          have c15b1 : (a0 != 11) = true := bne_iff_ne.mpr c15
                          by_cases c16 : a0 = 12
                          · rw [if_pos c16] at H
                            have c16b0 : (a0 == 12) = true := beq_iff_eq.mpr c16
                            have c16b1 : (a0 != 12) = false := bne_eq_false_iff_eq.mpr c16
                            clear c16
                            simp only [Option.some.injEq, Prod.mk.injEq] at H
                            obtain ⟨rfl, rfl⟩ := H
                            go_enter Tryd.func23, Tryd.ntmps23
                            go_wp2
                            go_ret2
                            exact ⟨by first | rfl | (simp; done) | (simp [*]; done), by repeat (first | exact Drawn0.refl _ | apply Drawn0.step)⟩
                          · rw [if_neg c16] at H
                            have c16b0 : (a0 == 12) = false := beq_eq_false_iff_ne.mpr c16
                            have c16b1 : (a0 != 12) = true := bne_iff_ne.mpr c16
                            simp only [Option.some.injEq, Prod.mk.injEq] at H
                            obtain ⟨rfl, rfl⟩ := H
                            go_enter Tryd.func23, Tryd.ntmps23
                            go_wp2
                            go_ret2
                            exact ⟨by first | rfl | (simp; done) | (simp [*]; done), by repeat (first | exact Drawn0.refl _ | apply Drawn0.step)⟩

-- NOT PRINTED: function 24 (windrowref25_hex)

-- NOT PRINTED: function 16 (windrowref25_Line)

-- NOT PRINTED: function 12 (windrowref25_Print)

-- NOT PRINTED: function 15 (windrowref25_Few)

-- NOT PRINTED: function 18 (text_Print)

-- NOT PRINTED: function 6 (windrowlaw25_TextPrints)

end Go.Proofs.YtagpldkgkchfcaaDoor.PTextPrints
