/- PackOrders: the law. -/
import Derived.Test.YtfmcplkijjndlaaPackSp
import Derived.Test.YtfmcplkijjndlaaPackP
import Derived.Test.YtfmcplkijjndlaaWPackOrders
import Derived.Test.YtfmcplkijjndlaaFloWalk
set_option linter.unusedVariables false
set_option linter.unusedSimpArgs false
namespace Go.Proofs.Ytfmcplkijjndlaa
open Go

theorem bytesLess_cons (x y : UInt8) (a b : List UInt8) : Op.bytesLess (x :: a) (y :: b) = (decide (x.toNat < y.toNat) || (decide (x.toNat = y.toNat) && Op.bytesLess a b)) := by
  rw [Op.bytesLess]
  by_cases h1 : x.toNat < y.toNat
  · have : x < y := h1
    simp [h1, this]
  · have h1' : ¬ x < y := h1
    by_cases h2 : x.toNat = y.toNat
    · have : x = y := UInt8.toNat_inj.1 h2
      subst this
      simp
    · have h2' : ¬ x = y := fun h => h2 (by rw [h])
      simp [h1, h1', h2, h2']
theorem ofNat_mod (n : Nat) : (UInt8.ofNat n).toNat = n % 256 := by rw [UInt8.toNat_ofNat']
theorem lex_step {a b c d k m : Nat} (h : k < m ↔ a < b ∨ (a = b ∧ c < d)) : decide (k < m) = (decide (a < b) || (decide (a = b) && decide (c < d))) := by
  rw [Bool.eq_iff_iff]
  simpa using h
theorem place_less {k m : Nat} (hk : k < 18446744073709551616) (hm : m < 18446744073709551616) : Op.bytesLess (placeB k) (placeB m) = decide (k < m) := by
  have e7 := lex_step (a := k / 72057594037927936 % 256) (b := m / 72057594037927936 % 256) (c := k % 72057594037927936) (d := m % 72057594037927936) (k := k) (m := m) (by omega)
  have e6 := lex_step (a := k / 281474976710656 % 256) (b := m / 281474976710656 % 256) (c := k % 281474976710656) (d := m % 281474976710656) (k := k % 72057594037927936) (m := m % 72057594037927936) (by omega)
  have e5 := lex_step (a := k / 1099511627776 % 256) (b := m / 1099511627776 % 256) (c := k % 1099511627776) (d := m % 1099511627776) (k := k % 281474976710656) (m := m % 281474976710656) (by omega)
  have e4 := lex_step (a := k / 4294967296 % 256) (b := m / 4294967296 % 256) (c := k % 4294967296) (d := m % 4294967296) (k := k % 1099511627776) (m := m % 1099511627776) (by omega)
  have e3 := lex_step (a := k / 16777216 % 256) (b := m / 16777216 % 256) (c := k % 16777216) (d := m % 16777216) (k := k % 4294967296) (m := m % 4294967296) (by omega)
  have e2 := lex_step (a := k / 65536 % 256) (b := m / 65536 % 256) (c := k % 65536) (d := m % 65536) (k := k % 16777216) (m := m % 16777216) (by omega)
  have e1 := lex_step (a := k / 256 % 256) (b := m / 256 % 256) (c := k % 256) (d := m % 256) (k := k % 65536) (m := m % 65536) (by omega)
  unfold placeB
  simp only [bytesLess_cons, ofNat_mod]
  have e : Op.bytesLess [] [] = false := rfl
  rw [e, e7, e6, e5, e4, e3, e2, e1]
  simp only [Bool.and_false, Bool.or_false]
theorem place_inj {k m : Nat} (hk : k < 18446744073709551616) (hm : m < 18446744073709551616) : (placeB k = placeB m) = (k = m) := by
  apply propext
  refine ⟨fun h => ?_, fun h => by rw [h]⟩
  have h1 := placeM_placeB [] hk
  have h2 := placeM_placeB [] hm
  rw [h] at h1
  rw [h1] at h2
  simpa using h2
def qf (a : Nat) : PartP := ⟨102, 0, 0, a, [], false⟩
theorem bd_qf {a : Nat} {w : World} : pBuild P 60 [(0, Value.int .u8 102), (3, fl a)] w = some (.agg (partC (qf a)).toArray, w) := by rw [bf60 (by simp)]; rfl
theorem bs_qf {a : Nat} {w : World} : pBuildSlice P 37 1 [(0, .agg (partC (qf a)).toArray)] w = some (sl (sz w) 0 1 1, nw w (flat partC [qf a]) 60) := by
  rw [bsl37 (by omega) (by simp [partC])]
  congr 3
theorem enc_qf (a : Nat) : encAll [qf a] = placeB (key a) := by simp [encAll, qf, encP]

theorem packOrders_law {w : World} {a b : Nat} (ha : a < 2 * H63) (hb : b < 2 * H63) :
    Ret P 17 #[fl a, fl b] w fun x w' => x = .bool true ∧ Fr [] w w' := by
  refine F17ok ?_
  unfold F17
  refine speaks02.call ?_
  rintro _ w1 ⟨rfl, f1⟩
  try simp (maxDischargeDepth := 8) [↓bindV_some, ↓bindU_some, ↓condE_true, ↓condE_false, ↓pickE_true, ↓pickE_false, ↓pickE_or, ↓pickE_and, ↓grdE_true, ↓grdE_false, ↓grdE_tf, ↓grdE_ft, ↓grdE_undef, ↓nilE_pt, ↓thenK_normal, ↓thenK_exit, ↓thenK_ret, ↓thenK_goto, ↓thenK_panic, ↓blockK_exit, ↓blockK_normal, ↓blockK_ret, ↓blockK_goto, ↓blockK_panic, ↓loopK_normal, ↓loopK_exit, ↓loopK_ret, ↓loopK_goto, ↓loopK_panic, ↓topK_ret, ↓topK_normal, ↓topK_panic, ↓resVs_nil, ↓resVs_tmp, ↓resVs_cell, tup_one, tup_nil, tup_two, put_get, argE_get, ↓takeE_def, ↓heldE_nil, ↓heldE_cons, qNil_pt, qPick_bool, qGrd_bool, qGrd_undef, ↓letK_def, pBox_eq, pBin_add, pBin_sub, pBin_mul, pBin_eql, pBin_neq, pBin_lss, pBin_leq, pBin_gtr, pBin_geq, pUn_not, pUn_neg, eqB, neB, eqS, neS, pExtract0, pExtract1, pExtract2, max_int, min_int, sz_nw, sz_wr, sz_drew, mm_nw, fz_nw, mm_drew, fz_drew, fz_wr, sz_mkS, mm_mkS, fz_mkS, Fr.mkS, mm_wr_same, mm_wr_ne, wr_wr, bs_oneT, splice_full, gt_zero, gt_succ, gt_set, gt_bs, byte_eq0, byte_eq1, byte_n0, byte_n1, Fr.refl, Fr.nw, Fr.wr, Fr.drew, bd_qf, bs_qf, -bf60, -bsl37]
  have okq : ∀ a, a < 2 * H63 → ∀ p ∈ [qf a], okP p := by
    intro a ha p hp
    rw [List.mem_singleton] at hp
    subst hp
    exact ⟨by simp [qf, H63], ⟨by simp [qf], by simp [qf]⟩, ha⟩
  have f2 : Fr [] w1 (nw w1 (flat partC [qf a]) 60) := (Fr.refl [] w1).nw _ _
  refine (write_spec (L := [qf a]) ⟨rd_new w1 (flat partC [qf a]) 60 (n := 1) (by unfold maxLen; omega), okq a ha⟩ (by rw [enc_qf]; simp [placeB])).call ?_
  rintro x w2 ⟨hx, f3⟩
  rw [enc_qf] at hx
  have hx2 : pConv P 40 9 x w2 = some (strB (placeB (key a)), w2) := conv_str sliceE40 intK5 und9 (own_rd hx)
  try simp (maxDischargeDepth := 8) [↓bindV_some, ↓bindU_some, ↓condE_true, ↓condE_false, ↓pickE_true, ↓pickE_false, ↓pickE_or, ↓pickE_and, ↓grdE_true, ↓grdE_false, ↓grdE_tf, ↓grdE_ft, ↓grdE_undef, ↓nilE_pt, ↓thenK_normal, ↓thenK_exit, ↓thenK_ret, ↓thenK_goto, ↓thenK_panic, ↓blockK_exit, ↓blockK_normal, ↓blockK_ret, ↓blockK_goto, ↓blockK_panic, ↓loopK_normal, ↓loopK_exit, ↓loopK_ret, ↓loopK_goto, ↓loopK_panic, ↓topK_ret, ↓topK_normal, ↓topK_panic, ↓resVs_nil, ↓resVs_tmp, ↓resVs_cell, tup_one, tup_nil, tup_two, put_get, argE_get, ↓takeE_def, ↓heldE_nil, ↓heldE_cons, qNil_pt, qPick_bool, qGrd_bool, qGrd_undef, ↓letK_def, pBox_eq, pBin_add, pBin_sub, pBin_mul, pBin_eql, pBin_neq, pBin_lss, pBin_leq, pBin_gtr, pBin_geq, pUn_not, pUn_neg, eqB, neB, eqS, neS, pExtract0, pExtract1, pExtract2, max_int, min_int, sz_nw, sz_wr, sz_drew, mm_nw, fz_nw, mm_drew, fz_drew, fz_wr, sz_mkS, mm_mkS, fz_mkS, Fr.mkS, mm_wr_same, mm_wr_ne, wr_wr, bs_oneT, splice_full, gt_zero, gt_succ, gt_set, gt_bs, byte_eq0, byte_eq1, byte_n0, byte_n1, Fr.refl, Fr.nw, Fr.wr, Fr.drew, hx2, bd_qf, bs_qf, -bf60, -bsl37]
  have f4 : Fr [] w2 (nw w2 (flat partC [qf b]) 60) := (Fr.refl [] w2).nw _ _
  refine (write_spec (L := [qf b]) ⟨rd_new w2 (flat partC [qf b]) 60 (n := 1) (by unfold maxLen; omega), okq b hb⟩ (by rw [enc_qf]; simp [placeB])).call ?_
  rintro y w3 ⟨hy, f5⟩
  rw [enc_qf] at hy
  have hy3 : pConv P 40 9 y w3 = some (strB (placeB (key b)), w3) := conv_str sliceE40 intK5 und9 (own_rd hy)
  have l8 : ∀ k w, pBuiltin P .len #[9] 3 [strB (placeB k)] w = some (i64 8, w) := fun k w => by rw [len_strB und9]; rfl
  have ka := key_lt ha
  have kb := key_lt hb
  rw [H63x2] at ka kb
  have hlt : ∀ w, pBin P .lss 9 false (strB (placeB (key a))) (strB (placeB (key b))) w = some (.bool (decide (key a < key b)), w) := fun w => by rw [lt_strB, place_less ka kb]
  have heq : ∀ w, pBin P .eql 9 false (strB (placeB (key a))) (strB (placeB (key b))) w = some (.bool (decide (key a = key b)), w) := fun w => by rw [eq_strB]; simp only [place_inj ka kb]
  generalize hA : strB (placeB (key a)) = A at *
  generalize hB : strB (placeB (key b)) = B at *
  have lA : ∀ w, pBuiltin P .len #[9] 3 [A] w = some (i64 8, w) := fun w => by rw [← hA]; exact l8 _ w
  have lB : ∀ w, pBuiltin P .len #[9] 3 [B] w = some (i64 8, w) := fun w => by rw [← hB]; exact l8 _ w
  try simp (maxDischargeDepth := 8) [↓bindV_some, ↓bindU_some, ↓condE_true, ↓condE_false, ↓pickE_true, ↓pickE_false, ↓pickE_or, ↓pickE_and, ↓grdE_true, ↓grdE_false, ↓grdE_tf, ↓grdE_ft, ↓grdE_undef, ↓nilE_pt, ↓thenK_normal, ↓thenK_exit, ↓thenK_ret, ↓thenK_goto, ↓thenK_panic, ↓blockK_exit, ↓blockK_normal, ↓blockK_ret, ↓blockK_goto, ↓blockK_panic, ↓loopK_normal, ↓loopK_exit, ↓loopK_ret, ↓loopK_goto, ↓loopK_panic, ↓topK_ret, ↓topK_normal, ↓topK_panic, ↓resVs_nil, ↓resVs_tmp, ↓resVs_cell, tup_one, tup_nil, tup_two, put_get, argE_get, ↓takeE_def, ↓heldE_nil, ↓heldE_cons, qNil_pt, qPick_bool, qGrd_bool, qGrd_undef, ↓letK_def, pBox_eq, pBin_add, pBin_sub, pBin_mul, pBin_eql, pBin_neq, pBin_lss, pBin_leq, pBin_gtr, pBin_geq, pUn_not, pUn_neg, eqB, neB, eqS, neS, pExtract0, pExtract1, pExtract2, max_int, min_int, sz_nw, sz_wr, sz_drew, mm_nw, fz_nw, mm_drew, fz_drew, fz_wr, sz_mkS, mm_mkS, fz_mkS, Fr.mkS, mm_wr_same, mm_wr_ne, wr_wr, bs_oneT, splice_full, gt_zero, gt_succ, gt_set, gt_bs, byte_eq0, byte_eq1, byte_n0, byte_n1, Fr.refl, Fr.nw, Fr.wr, Fr.drew, hy3, lA, lB, hlt]
  refine (less_spec ha hb).call ?_
  rintro _ w4 ⟨rfl, f6⟩
  try simp (maxDischargeDepth := 8) [↓bindV_some, ↓bindU_some, ↓condE_true, ↓condE_false, ↓pickE_true, ↓pickE_false, ↓pickE_or, ↓pickE_and, ↓grdE_true, ↓grdE_false, ↓grdE_tf, ↓grdE_ft, ↓grdE_undef, ↓nilE_pt, ↓thenK_normal, ↓thenK_exit, ↓thenK_ret, ↓thenK_goto, ↓thenK_panic, ↓blockK_exit, ↓blockK_normal, ↓blockK_ret, ↓blockK_goto, ↓blockK_panic, ↓loopK_normal, ↓loopK_exit, ↓loopK_ret, ↓loopK_goto, ↓loopK_panic, ↓topK_ret, ↓topK_normal, ↓topK_panic, ↓resVs_nil, ↓resVs_tmp, ↓resVs_cell, tup_one, tup_nil, tup_two, put_get, argE_get, ↓takeE_def, ↓heldE_nil, ↓heldE_cons, qNil_pt, qPick_bool, qGrd_bool, qGrd_undef, ↓letK_def, pBox_eq, pBin_add, pBin_sub, pBin_mul, pBin_eql, pBin_neq, pBin_lss, pBin_leq, pBin_gtr, pBin_geq, pUn_not, pUn_neg, eqB, neB, eqS, neS, pExtract0, pExtract1, pExtract2, max_int, min_int, sz_nw, sz_wr, sz_drew, mm_nw, fz_nw, mm_drew, fz_drew, fz_wr, sz_mkS, mm_mkS, fz_mkS, Fr.mkS, mm_wr_same, mm_wr_ne, wr_wr, bs_oneT, splice_full, gt_zero, gt_succ, gt_set, gt_bs, byte_eq0, byte_eq1, byte_n0, byte_n1, Fr.refl, Fr.nw, Fr.wr, Fr.drew, heq]
  refine (same_spec ha hb).call ?_
  rintro _ w5 ⟨rfl, f7⟩
  try simp (maxDischargeDepth := 8) [↓bindV_some, ↓bindU_some, ↓condE_true, ↓condE_false, ↓pickE_true, ↓pickE_false, ↓pickE_or, ↓pickE_and, ↓grdE_true, ↓grdE_false, ↓grdE_tf, ↓grdE_ft, ↓grdE_undef, ↓nilE_pt, ↓thenK_normal, ↓thenK_exit, ↓thenK_ret, ↓thenK_goto, ↓thenK_panic, ↓blockK_exit, ↓blockK_normal, ↓blockK_ret, ↓blockK_goto, ↓blockK_panic, ↓loopK_normal, ↓loopK_exit, ↓loopK_ret, ↓loopK_goto, ↓loopK_panic, ↓topK_ret, ↓topK_normal, ↓topK_panic, ↓resVs_nil, ↓resVs_tmp, ↓resVs_cell, tup_one, tup_nil, tup_two, put_get, argE_get, ↓takeE_def, ↓heldE_nil, ↓heldE_cons, qNil_pt, qPick_bool, qGrd_bool, qGrd_undef, ↓letK_def, pBox_eq, pBin_add, pBin_sub, pBin_mul, pBin_eql, pBin_neq, pBin_lss, pBin_leq, pBin_gtr, pBin_geq, pUn_not, pUn_neg, eqB, neB, eqS, neS, pExtract0, pExtract1, pExtract2, max_int, min_int, sz_nw, sz_wr, sz_drew, mm_nw, fz_nw, mm_drew, fz_drew, fz_wr, sz_mkS, mm_mkS, fz_mkS, Fr.mkS, mm_wr_same, mm_wr_ne, wr_wr, bs_oneT, splice_full, gt_zero, gt_succ, gt_set, gt_bs, byte_eq0, byte_eq1, byte_n0, byte_n1, Fr.refl, Fr.nw, Fr.wr, Fr.drew]
  exact (((((f1.trans0 f2).trans0 f3).trans0 f4).trans0 f5).trans0 f6).trans0 f7
end Go.Proofs.Ytfmcplkijjndlaa
