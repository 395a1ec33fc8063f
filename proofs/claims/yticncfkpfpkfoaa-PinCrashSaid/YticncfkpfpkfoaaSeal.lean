/- What the functions of package seal, and of its document's answer, compute. -/
import Derived.Test.YticncfkpfpkfoaaTypes
import Derived.Test.YticncfkpfpkfoaaWSeal
set_option linter.unusedVariables false
set_option linter.unusedSimpArgs false
namespace Go.Proofs.Yticncfkpfpkfoaa
open Go

abbrev zeros : List UInt8 := zb 64
def sealOf (l : List UInt8) : List UInt8 := 1 :: UInt8.ofNat l.length :: (l ++ List.replicate (61 - l.length) 0 ++ [1])
theorem sealOf_length {l : List UInt8} (h : l.length ≤ 61) : (sealOf l).length = 64 := by simp [sealOf]; omega
theorem u8_one : Value.int IntKind.u8 1 = bv 1 := rfl
theorem u8_len {l : List UInt8} (h : l.length ≤ 61) : Value.int IntKind.u8 (IntKind.u8.wrap (l.length : Int)) = bv (UInt8.ofNat l.length) := by
  simp only [bv, IntKind.wrap, IntKind.bits, IntKind.signed]
  simp
theorem gb_sealOf {l : List UInt8} (h : l.length ≤ 61) (i : Nat) : gb (sealOf l) i = if i = 0 then 1 else if i = 1 then UInt8.ofNat l.length else if i < 2 + l.length then gb l (i - 2) else if i = 63 then 1 else 0 := by
  unfold gb sealOf
  simp only [List.getD_eq_getElem?_getD, List.getElem?_append, List.length_append, List.getElem?_cons, List.getElem?_replicate, List.length_replicate, List.length_cons, List.length_nil]
  grind
theorem sealOf_eq {l : List UInt8} (h : l.length ≤ 61) :
    splice (bs ((((zb 64).set 0 1).set 1 (UInt8.ofNat l.length)).set 63 1)) 2 (bs l) = bs (sealOf l) := by
  simp only [splice, bs_take, bs_drop, ← bs_append, bs_length]
  congr 1
  apply List.ext_getElem?
  intro i
  simp only [sealOf, zb, List.getElem?_append, List.length_append, List.length_take, List.length_set, List.length_replicate, List.getElem?_take, List.getElem?_drop, List.getElem?_set, List.getElem?_cons, List.getElem?_replicate]
  grind

theorem seal_spec {w : World} {a0 : Value} {l : List UInt8} (h : RdV w a0 l.length (bs l)) :
    Ret P 21 #[a0] w fun v w' => v = .tuple #[sec (if l.length ≤ 61 then sealOf l else zeros), i64 (if l.length ≤ 61 then 0 else 3)] ∧ Fr [] w w' := by
  refine F21ok ?_
  unfold F21
  obtain ⟨a, c, rfl⟩ := sl_of h
  by_cases hl : l.length ≤ 61
  · have hb : decide ((61 : Int) < (l.length : Int)) = false := by simp; omega
    simp (maxDischargeDepth := 8) [↓bindV_some, ↓bindU_some, ↓condE_true, ↓condE_false, ↓pickE_true, ↓pickE_false, ↓pickE_or, ↓pickE_and, ↓grdE_true, ↓grdE_false, ↓grdE_tf, ↓grdE_ft, ↓grdE_undef, ↓nilE_pt, ↓thenK_normal, ↓thenK_exit, ↓thenK_ret, ↓thenK_goto, ↓thenK_panic, ↓blockK_exit, ↓blockK_normal, ↓blockK_ret, ↓blockK_goto, ↓blockK_panic, ↓loopK_normal, ↓loopK_exit, ↓loopK_ret, ↓loopK_goto, ↓loopK_panic, ↓topK_ret, ↓topK_normal, ↓topK_panic, ↓resVs_nil, ↓resVs_tmp, ↓resVs_cell, tup_one, tup_nil, tup_two, put_get, argE_get, ↓takeE_def, ↓heldE_nil, ↓heldE_cons, qNil_pt, qPick_bool, qGrd_bool, qGrd_undef, ↓letK_def, pBox_eq, pBin_add, pBin_sub, pBin_mul, pBin_eql, pBin_neq, pBin_lss, pBin_leq, pBin_gtr, pBin_geq, pUn_not, pUn_neg, eqB, neB, eqS, neS, pExtract0, pExtract1, pExtract2, max_int, min_int, hb, sz_nw, sz_wr, sz_drew, mm_nw, fz_nw, mm_drew, fz_drew, fz_wr, sz_mkS, mm_mkS, fz_mkS, Fr.mkS, mm_wr_same, mm_wr_ne, wr_wr, bs_oneT, splice_full, gt_zero, gt_succ, gt_set, gt_bs, byte_eq0, byte_eq1, byte_n0, byte_n1, Fr.refl, Fr.nw, Fr.wr, Fr.drew, u8_one, u8_len hl, bs_set]
    have hfr : Fr [] w (wr (nw (nw w (bs (zb 64)) 25) (bs (zb 64)) 25) (sz w + 1) (bs ((((zb 64).set 0 1).set 1 (UInt8.ofNat l.length)).set 63 1))) :=
      (((Fr.refl [] w).nw _ _).nw _ _).wr (.inr (by omega)) _
    rw [copy_bytes (cs := bs l) (m := l.length) sliceE22 tyOk5 cellsOf5 (h.fr0 hfr) (by simp) bs_one (by simp [sz_nw, sz_wr, sz_drew, mm_nw, fz_nw, mm_drew, fz_drew, fz_wr, sz_mkS, mm_mkS, fz_mkS, Fr.mkS, mm_wr_same, mm_wr_ne, wr_wr, bs_oneT, splice_full, gt_zero, gt_succ, gt_set, gt_bs, byte_eq0, byte_eq1, byte_n0, byte_n1, Fr.refl, Fr.nw, Fr.wr, Fr.drew]) (by simp [sz_nw, sz_wr, sz_drew, mm_nw, fz_nw, mm_drew, fz_drew, fz_wr, sz_mkS, mm_mkS, fz_mkS, Fr.mkS, mm_wr_same, mm_wr_ne, wr_wr, bs_oneT, splice_full, gt_zero, gt_succ, gt_set, gt_bs, byte_eq0, byte_eq1, byte_n0, byte_n1, Fr.refl, Fr.nw, Fr.wr, Fr.drew])]
    have hmin : min l.length 62 = l.length := by omega
    simp (maxDischargeDepth := 8) [↓bindV_some, ↓bindU_some, ↓condE_true, ↓condE_false, ↓pickE_true, ↓pickE_false, ↓pickE_or, ↓pickE_and, ↓grdE_true, ↓grdE_false, ↓grdE_tf, ↓grdE_ft, ↓grdE_undef, ↓nilE_pt, ↓thenK_normal, ↓thenK_exit, ↓thenK_ret, ↓thenK_goto, ↓thenK_panic, ↓blockK_exit, ↓blockK_normal, ↓blockK_ret, ↓blockK_goto, ↓blockK_panic, ↓loopK_normal, ↓loopK_exit, ↓loopK_ret, ↓loopK_goto, ↓loopK_panic, ↓topK_ret, ↓topK_normal, ↓topK_panic, ↓resVs_nil, ↓resVs_tmp, ↓resVs_cell, tup_one, tup_nil, tup_two, put_get, argE_get, ↓takeE_def, ↓heldE_nil, ↓heldE_cons, qNil_pt, qPick_bool, qGrd_bool, qGrd_undef, ↓letK_def, pBox_eq, pBin_add, pBin_sub, pBin_mul, pBin_eql, pBin_neq, pBin_lss, pBin_leq, pBin_gtr, pBin_geq, pUn_not, pUn_neg, eqB, neB, eqS, neS, pExtract0, pExtract1, pExtract2, max_int, min_int, sz_nw, sz_wr, sz_drew, mm_nw, fz_nw, mm_drew, fz_drew, fz_wr, sz_mkS, mm_mkS, fz_mkS, Fr.mkS, mm_wr_same, mm_wr_ne, wr_wr, bs_oneT, splice_full, gt_zero, gt_succ, gt_set, gt_bs, byte_eq0, byte_eq1, byte_n0, byte_n1, Fr.refl, Fr.nw, Fr.wr, Fr.drew, hmin]
    rw [show List.take l.length (bs l) = bs l by rw [List.take_of_length_le (by simp)], sealOf_eq hl]
    simp (maxDischargeDepth := 8) [↓bindV_some, ↓bindU_some, ↓condE_true, ↓condE_false, ↓pickE_true, ↓pickE_false, ↓pickE_or, ↓pickE_and, ↓grdE_true, ↓grdE_false, ↓grdE_tf, ↓grdE_ft, ↓grdE_undef, ↓nilE_pt, ↓thenK_normal, ↓thenK_exit, ↓thenK_ret, ↓thenK_goto, ↓thenK_panic, ↓blockK_exit, ↓blockK_normal, ↓blockK_ret, ↓blockK_goto, ↓blockK_panic, ↓loopK_normal, ↓loopK_exit, ↓loopK_ret, ↓loopK_goto, ↓loopK_panic, ↓topK_ret, ↓topK_normal, ↓topK_panic, ↓resVs_nil, ↓resVs_tmp, ↓resVs_cell, tup_one, tup_nil, tup_two, put_get, argE_get, ↓takeE_def, ↓heldE_nil, ↓heldE_cons, qNil_pt, qPick_bool, qGrd_bool, qGrd_undef, ↓letK_def, pBox_eq, pBin_add, pBin_sub, pBin_mul, pBin_eql, pBin_neq, pBin_lss, pBin_leq, pBin_gtr, pBin_geq, pUn_not, pUn_neg, eqB, neB, eqS, neS, pExtract0, pExtract1, pExtract2, max_int, min_int, sz_nw, sz_wr, sz_drew, mm_nw, fz_nw, mm_drew, fz_drew, fz_wr, sz_mkS, mm_mkS, fz_mkS, Fr.mkS, mm_wr_same, mm_wr_ne, wr_wr, bs_oneT, splice_full, gt_zero, gt_succ, gt_set, gt_bs, byte_eq0, byte_eq1, byte_n0, byte_n1, Fr.refl, Fr.nw, Fr.wr, Fr.drew, hl, List.take_of_length_le, sealOf_length hl]
  · have hb : decide ((61 : Int) < (l.length : Int)) = true := by simp; omega
    simp (maxDischargeDepth := 8) [↓bindV_some, ↓bindU_some, ↓condE_true, ↓condE_false, ↓pickE_true, ↓pickE_false, ↓pickE_or, ↓pickE_and, ↓grdE_true, ↓grdE_false, ↓grdE_tf, ↓grdE_ft, ↓grdE_undef, ↓nilE_pt, ↓thenK_normal, ↓thenK_exit, ↓thenK_ret, ↓thenK_goto, ↓thenK_panic, ↓blockK_exit, ↓blockK_normal, ↓blockK_ret, ↓blockK_goto, ↓blockK_panic, ↓loopK_normal, ↓loopK_exit, ↓loopK_ret, ↓loopK_goto, ↓loopK_panic, ↓topK_ret, ↓topK_normal, ↓topK_panic, ↓resVs_nil, ↓resVs_tmp, ↓resVs_cell, tup_one, tup_nil, tup_two, put_get, argE_get, ↓takeE_def, ↓heldE_nil, ↓heldE_cons, qNil_pt, qPick_bool, qGrd_bool, qGrd_undef, ↓letK_def, pBox_eq, pBin_add, pBin_sub, pBin_mul, pBin_eql, pBin_neq, pBin_lss, pBin_leq, pBin_gtr, pBin_geq, pUn_not, pUn_neg, eqB, neB, eqS, neS, pExtract0, pExtract1, pExtract2, max_int, min_int, hb, sz_nw, sz_wr, sz_drew, mm_nw, fz_nw, mm_drew, fz_drew, fz_wr, sz_mkS, mm_mkS, fz_mkS, Fr.mkS, mm_wr_same, mm_wr_ne, wr_wr, bs_oneT, splice_full, gt_zero, gt_succ, gt_set, gt_bs, byte_eq0, byte_eq1, byte_n0, byte_n1, Fr.refl, Fr.nw, Fr.wr, Fr.drew, hl, List.take_of_length_le]

theorem blank_spec {w : World} {s : List UInt8} (hs : s.length = 64) :
    Ret P 22 #[sec s] w fun v w' => v = .bool (decide (s = zeros)) ∧ Fr [] w w' := by
  refine F22ok ?_
  unfold F22
  simp (maxDischargeDepth := 8) [↓bindV_some, ↓bindU_some, ↓condE_true, ↓condE_false, ↓pickE_true, ↓pickE_false, ↓pickE_or, ↓pickE_and, ↓grdE_true, ↓grdE_false, ↓grdE_tf, ↓grdE_ft, ↓grdE_undef, ↓nilE_pt, ↓thenK_normal, ↓thenK_exit, ↓thenK_ret, ↓thenK_goto, ↓thenK_panic, ↓blockK_exit, ↓blockK_normal, ↓blockK_ret, ↓blockK_goto, ↓blockK_panic, ↓loopK_normal, ↓loopK_exit, ↓loopK_ret, ↓loopK_goto, ↓loopK_panic, ↓topK_ret, ↓topK_normal, ↓topK_panic, ↓resVs_nil, ↓resVs_tmp, ↓resVs_cell, tup_one, tup_nil, tup_two, put_get, argE_get, ↓takeE_def, ↓heldE_nil, ↓heldE_cons, qNil_pt, qPick_bool, qGrd_bool, qGrd_undef, ↓letK_def, pBox_eq, pBin_add, pBin_sub, pBin_mul, pBin_eql, pBin_neq, pBin_lss, pBin_leq, pBin_gtr, pBin_geq, pUn_not, pUn_neg, eqB, neB, eqS, neS, pExtract0, pExtract1, pExtract2, max_int, min_int, sz_nw, sz_wr, sz_drew, mm_nw, fz_nw, mm_drew, fz_drew, fz_wr, sz_mkS, mm_mkS, fz_mkS, Fr.mkS, mm_wr_same, mm_wr_ne, wr_wr, bs_oneT, splice_full, gt_zero, gt_succ, gt_set, gt_bs, byte_eq0, byte_eq1, byte_n0, byte_n1, Fr.refl, Fr.nw, Fr.wr, Fr.drew, hs, List.take_of_length_le]

/-- Is it a whole sector? -/
def pay (s : List UInt8) : List UInt8 := (s.drop 2).take (gb s 1).toNat
def isWhole (s : List UInt8) : Prop := gb s 0 = 1 ∧ gb s 63 = 1 ∧ (gb s 1).toNat ≤ 61 ∧ ∀ i, 2 + (gb s 1).toNat ≤ i → i < 63 → gb s i = 0
noncomputable instance (s : List UInt8) : Decidable (isWhole s) := Classical.propDecidable _
theorem pay_length {s : List UInt8} (hs : s.length = 64) (h : (gb s 1).toNat ≤ 61) : (pay s).length = (gb s 1).toNat := by
  simp [pay]; omega

theorem open_spec {w : World} {s : List UInt8} (hs : s.length = 64) :
    Ret P 23 #[sec s] w fun v w' => Fr [] w w' ∧ ∃ x, v = .tuple #[x, .bool (decide (isWhole s))] ∧
      (isWhole s → RdV w' x (pay s).length (bs (pay s))) ∧ (¬ isWhole s → x = .slice none 0 0) := by
  refine F23ok ?_
  unfold F23
  generalize hn : gb s 1 = n
  by_cases c0 : gb s 0 = 1
  · by_cases c63 : gb s 63 = 1
    · by_cases c1 : n.toNat ≤ 61
      · have c1' : decide ((61 : Int) < (n.toNat : Int)) = false := by simp; omega
        have hw2 : IntKind.i64.wrap (2 + (n.toNat : Int)) = 2 + n.toNat := wrap64 (by omega) (by omega)
        simp (maxDischargeDepth := 8) [↓bindV_some, ↓bindU_some, ↓condE_true, ↓condE_false, ↓pickE_true, ↓pickE_false, ↓pickE_or, ↓pickE_and, ↓grdE_true, ↓grdE_false, ↓grdE_tf, ↓grdE_ft, ↓grdE_undef, ↓nilE_pt, ↓thenK_normal, ↓thenK_exit, ↓thenK_ret, ↓thenK_goto, ↓thenK_panic, ↓blockK_exit, ↓blockK_normal, ↓blockK_ret, ↓blockK_goto, ↓blockK_panic, ↓loopK_normal, ↓loopK_exit, ↓loopK_ret, ↓loopK_goto, ↓loopK_panic, ↓topK_ret, ↓topK_normal, ↓topK_panic, ↓resVs_nil, ↓resVs_tmp, ↓resVs_cell, tup_one, tup_nil, tup_two, put_get, argE_get, ↓takeE_def, ↓heldE_nil, ↓heldE_cons, qNil_pt, qPick_bool, qGrd_bool, qGrd_undef, ↓letK_def, pBox_eq, pBin_add, pBin_sub, pBin_mul, pBin_eql, pBin_neq, pBin_lss, pBin_leq, pBin_gtr, pBin_geq, pUn_not, pUn_neg, eqB, neB, eqS, neS, pExtract0, pExtract1, pExtract2, max_int, min_int, sz_nw, sz_wr, sz_drew, mm_nw, fz_nw, mm_drew, fz_drew, fz_wr, sz_mkS, mm_mkS, fz_mkS, Fr.mkS, mm_wr_same, mm_wr_ne, wr_wr, bs_oneT, splice_full, gt_zero, gt_succ, gt_set, gt_bs, byte_eq0, byte_eq1, byte_n0, byte_n1, Fr.refl, Fr.nw, Fr.wr, Fr.drew, hs, hn, c0, c63, c1', hw2]
        rw [slB25 (by omega) (by omega) (by omega)]
        have ht : (2 + (n.toNat : Int)).toNat = 2 + n.toNat := by omega
        have h64 : ¬ (64 = 2 + n.toNat) := by omega
        simp (maxDischargeDepth := 8) [↓bindV_some, ↓bindU_some, ↓condE_true, ↓condE_false, ↓pickE_true, ↓pickE_false, ↓pickE_or, ↓pickE_and, ↓grdE_true, ↓grdE_false, ↓grdE_tf, ↓grdE_ft, ↓grdE_undef, ↓nilE_pt, ↓thenK_normal, ↓thenK_exit, ↓thenK_ret, ↓thenK_goto, ↓thenK_panic, ↓blockK_exit, ↓blockK_normal, ↓blockK_ret, ↓blockK_goto, ↓blockK_panic, ↓loopK_normal, ↓loopK_exit, ↓loopK_ret, ↓loopK_goto, ↓loopK_panic, ↓topK_ret, ↓topK_normal, ↓topK_panic, ↓resVs_nil, ↓resVs_tmp, ↓resVs_cell, tup_one, tup_nil, tup_two, put_get, argE_get, ↓takeE_def, ↓heldE_nil, ↓heldE_cons, qNil_pt, qPick_bool, qGrd_bool, qGrd_undef, ↓letK_def, pBox_eq, pBin_add, pBin_sub, pBin_mul, pBin_eql, pBin_neq, pBin_lss, pBin_leq, pBin_gtr, pBin_geq, pUn_not, pUn_neg, eqB, neB, eqS, neS, pExtract0, pExtract1, pExtract2, max_int, min_int, sz_nw, sz_wr, sz_drew, mm_nw, fz_nw, mm_drew, fz_drew, fz_wr, sz_mkS, mm_mkS, fz_mkS, Fr.mkS, mm_wr_same, mm_wr_ne, wr_wr, bs_oneT, splice_full, gt_zero, gt_succ, gt_set, gt_bs, byte_eq0, byte_eq1, byte_n0, byte_n1, Fr.refl, Fr.nw, Fr.wr, Fr.drew, hs, hn, ht, h64]
        refine loopE_of (fun m e w' => w' = nw w (bs s) 25 ∧ ∃ j : Nat, m = 61 - n.toNat - j ∧ j ≤ 61 - n.toNat ∧ (∀ i, 2 + n.toNat ≤ i → i < 2 + n.toNat + j → gb s i = 0) ∧ e 26 = i64 j ∧
          e 25 = i64 ((61 - n.toNat : Nat) : Int) ∧ e 24 = sl (sz w) (2 + n.toNat) (61 - n.toNat) (62 - n.toNat) ∧ e 1 = pt (sz w) 0 ∧ e 4 = i64 n.toNat) (61 - n.toNat) ?_ ?_
        · refine ⟨rfl, 0, by omega, by omega, fun i h1 h2 => by omega, ?_⟩
          simp [put_get]
          refine ⟨?_, ?_, ?_⟩ <;> omega
        · rintro m e w' ⟨rfl, j, rfl, hj, hz, h26, h25, h24, h1, h4⟩
          unfold F23B0
          by_cases hjn : j < 61 - n.toNat
          · have hlt : 2 + n.toNat + j < 64 := by omega
            have hwj : IntKind.i64.wrap ((j : Int) + 1) = ((j + 1 : Nat) : Int) := wrap64 (by omega) (by omega)
            by_cases hzj : gb s (2 + n.toNat + j) = 0
            · simp (maxDischargeDepth := 8) [↓bindV_some, ↓bindU_some, ↓condE_true, ↓condE_false, ↓pickE_true, ↓pickE_false, ↓pickE_or, ↓pickE_and, ↓grdE_true, ↓grdE_false, ↓grdE_tf, ↓grdE_ft, ↓grdE_undef, ↓nilE_pt, ↓thenK_normal, ↓thenK_exit, ↓thenK_ret, ↓thenK_goto, ↓thenK_panic, ↓blockK_exit, ↓blockK_normal, ↓blockK_ret, ↓blockK_goto, ↓blockK_panic, ↓loopK_normal, ↓loopK_exit, ↓loopK_ret, ↓loopK_goto, ↓loopK_panic, ↓topK_ret, ↓topK_normal, ↓topK_panic, ↓resVs_nil, ↓resVs_tmp, ↓resVs_cell, tup_one, tup_nil, tup_two, put_get, argE_get, ↓takeE_def, ↓heldE_nil, ↓heldE_cons, qNil_pt, qPick_bool, qGrd_bool, qGrd_undef, ↓letK_def, pBox_eq, pBin_add, pBin_sub, pBin_mul, pBin_eql, pBin_neq, pBin_lss, pBin_leq, pBin_gtr, pBin_geq, pUn_not, pUn_neg, eqB, neB, eqS, neS, pExtract0, pExtract1, pExtract2, max_int, min_int, sz_nw, sz_wr, sz_drew, mm_nw, fz_nw, mm_drew, fz_drew, fz_wr, sz_mkS, mm_mkS, fz_mkS, Fr.mkS, mm_wr_same, mm_wr_ne, wr_wr, bs_oneT, splice_full, gt_zero, gt_succ, gt_set, gt_bs, byte_eq0, byte_eq1, byte_n0, byte_n1, Fr.refl, Fr.nw, Fr.wr, Fr.drew, h26, h25, h24, hjn, hs, hlt, hzj, hwj, -Int.natCast_add]
              refine ⟨61 - n.toNat - (j + 1), by omega, j + 1, rfl, by omega, fun i h1 h2 => ?_, rfl, h1, h4⟩
              by_cases hij : i = 2 + n.toNat + j
              · rw [hij]; exact hzj
              · exact hz i h1 (by omega)
            · have hnw : ¬ isWhole s := fun h => hzj (h.2.2.2 _ (by rw [hn]; omega) (by omega))
              simp (maxDischargeDepth := 8) [↓bindV_some, ↓bindU_some, ↓condE_true, ↓condE_false, ↓pickE_true, ↓pickE_false, ↓pickE_or, ↓pickE_and, ↓grdE_true, ↓grdE_false, ↓grdE_tf, ↓grdE_ft, ↓grdE_undef, ↓nilE_pt, ↓thenK_normal, ↓thenK_exit, ↓thenK_ret, ↓thenK_goto, ↓thenK_panic, ↓blockK_exit, ↓blockK_normal, ↓blockK_ret, ↓blockK_goto, ↓blockK_panic, ↓loopK_normal, ↓loopK_exit, ↓loopK_ret, ↓loopK_goto, ↓loopK_panic, ↓topK_ret, ↓topK_normal, ↓topK_panic, ↓resVs_nil, ↓resVs_tmp, ↓resVs_cell, tup_one, tup_nil, tup_two, put_get, argE_get, ↓takeE_def, ↓heldE_nil, ↓heldE_cons, qNil_pt, qPick_bool, qGrd_bool, qGrd_undef, ↓letK_def, pBox_eq, pBin_add, pBin_sub, pBin_mul, pBin_eql, pBin_neq, pBin_lss, pBin_leq, pBin_gtr, pBin_geq, pUn_not, pUn_neg, eqB, neB, eqS, neS, pExtract0, pExtract1, pExtract2, max_int, min_int, sz_nw, sz_wr, sz_drew, mm_nw, fz_nw, mm_drew, fz_drew, fz_wr, sz_mkS, mm_mkS, fz_mkS, Fr.mkS, mm_wr_same, mm_wr_ne, wr_wr, bs_oneT, splice_full, gt_zero, gt_succ, gt_set, gt_bs, byte_eq0, byte_eq1, byte_n0, byte_n1, Fr.refl, Fr.nw, Fr.wr, Fr.drew, h26, h25, h24, hjn, hs, hlt, hzj, hnw]
          · have hw : isWhole s := ⟨c0, c63, hn ▸ c1, fun i h1 h2 => hz i (by rw [hn] at h1; exact h1) (by omega)⟩
            simp (maxDischargeDepth := 8) [↓bindV_some, ↓bindU_some, ↓condE_true, ↓condE_false, ↓pickE_true, ↓pickE_false, ↓pickE_or, ↓pickE_and, ↓grdE_true, ↓grdE_false, ↓grdE_tf, ↓grdE_ft, ↓grdE_undef, ↓nilE_pt, ↓thenK_normal, ↓thenK_exit, ↓thenK_ret, ↓thenK_goto, ↓thenK_panic, ↓blockK_exit, ↓blockK_normal, ↓blockK_ret, ↓blockK_goto, ↓blockK_panic, ↓loopK_normal, ↓loopK_exit, ↓loopK_ret, ↓loopK_goto, ↓loopK_panic, ↓topK_ret, ↓topK_normal, ↓topK_panic, ↓resVs_nil, ↓resVs_tmp, ↓resVs_cell, tup_one, tup_nil, tup_two, put_get, argE_get, ↓takeE_def, ↓heldE_nil, ↓heldE_cons, qNil_pt, qPick_bool, qGrd_bool, qGrd_undef, ↓letK_def, pBox_eq, pBin_add, pBin_sub, pBin_mul, pBin_eql, pBin_neq, pBin_lss, pBin_leq, pBin_gtr, pBin_geq, pUn_not, pUn_neg, eqB, neB, eqS, neS, pExtract0, pExtract1, pExtract2, max_int, min_int, sz_nw, sz_wr, sz_drew, mm_nw, fz_nw, mm_drew, fz_drew, fz_wr, sz_mkS, mm_mkS, fz_mkS, Fr.mkS, mm_wr_same, mm_wr_ne, wr_wr, bs_oneT, splice_full, gt_zero, gt_succ, gt_set, gt_bs, byte_eq0, byte_eq1, byte_n0, byte_n1, Fr.refl, Fr.nw, Fr.wr, Fr.drew, h26, h25, h24, h1, h4, hjn, hs, hw2]
            rw [slB25 (by omega) (by omega) (by omega)]
            have hpl := pay_length hs (hn ▸ c1)
            have hrd : RdV (nw (nw w (bs s) 25) [] 5) (sl (sz w) 2 n.toNat 62) n.toNat (bs (pay s)) := by
              refine .inr ⟨sz w, 2, 62, rfl, by omega, by simp [maxLen], by rw [sz_nw, sz_nw]; omega, ?_, ?_⟩
              · simp [sz_nw, sz_wr, sz_drew, mm_nw, fz_nw, mm_drew, fz_drew, fz_wr, sz_mkS, mm_mkS, fz_mkS, Fr.mkS, mm_wr_same, mm_wr_ne, wr_wr, bs_oneT, splice_full, gt_zero, gt_succ, gt_set, gt_bs, byte_eq0, byte_eq1, byte_n0, byte_n1, Fr.refl, Fr.nw, Fr.wr, Fr.drew, hs, hpl, hn]; omega
              · simp [sz_nw, sz_wr, sz_drew, mm_nw, fz_nw, mm_drew, fz_drew, fz_wr, sz_mkS, mm_mkS, fz_mkS, Fr.mkS, mm_wr_same, mm_wr_ne, wr_wr, bs_oneT, splice_full, gt_zero, gt_succ, gt_set, gt_bs, byte_eq0, byte_eq1, byte_n0, byte_n1, Fr.refl, Fr.nw, Fr.wr, Fr.drew, hpl, hn]; rw [bs_drop, bs_take, pay, hn]
            have hown : (nw (nw w (bs s) 25) [] 5).ownsRow (sz w) 5 1 (sl (sz w + 1) 0 0 0) 0 [] := by
              have := own_made (w := nw w (bs s) 25) (base := sz w) (e := 5) (size := 1) (by simp [sz_nw, sz_wr, sz_drew, mm_nw, fz_nw, mm_drew, fz_drew, fz_wr, sz_mkS, mm_mkS, fz_mkS, Fr.mkS, mm_wr_same, mm_wr_ne, wr_wr, bs_oneT, splice_full, gt_zero, gt_succ, gt_set, gt_bs, byte_eq0, byte_eq1, byte_n0, byte_n1, Fr.refl, Fr.nw, Fr.wr, Fr.drew])
              simpa [sz_nw, sz_wr, sz_drew, mm_nw, fz_nw, mm_drew, fz_drew, fz_wr, sz_mkS, mm_mkS, fz_mkS, Fr.mkS, mm_wr_same, mm_wr_ne, wr_wr, bs_oneT, splice_full, gt_zero, gt_succ, gt_set, gt_bs, byte_eq0, byte_eq1, byte_n0, byte_n1, Fr.refl, Fr.nw, Fr.wr, Fr.drew] using this
            obtain ⟨v', w', hr, ho, hg, _⟩ := append_own (P := P) (ty := 22) (sz w) sliceE22 hasZero5 cellsOf5 (by rw [zeroL5]; rfl) (by omega) hown (by simp [sz_nw, sz_wr, sz_drew, mm_nw, fz_nw, mm_drew, fz_drew, fz_wr, sz_mkS, mm_mkS, fz_mkS, Fr.mkS, mm_wr_same, mm_wr_ne, wr_wr, bs_oneT, splice_full, gt_zero, gt_succ, gt_set, gt_bs, byte_eq0, byte_eq1, byte_n0, byte_n1, Fr.refl, Fr.nw, Fr.wr, Fr.drew]; omega) hrd (by rw [bs_length, hpl, hn]; omega) bs_one (by simp [maxLen]; omega) (by simp; omega)
            have h2 : (2 + (n.toNat : Int)).toNat - (2 : Int).toNat = n.toNat := by omega
            simp only [h2, ↓bindV_some]
            have h3 : (if 64 = (2:Int).toNat then 0 else 0 + (2:Int).toNat * 1) = 2 := rfl
            have h4 : 64 - (2:Int).toNat = 62 := rfl
            rw [h3, h4]
            simp (maxDischargeDepth := 8) [↓bindV_some, ↓bindU_some, ↓condE_true, ↓condE_false, ↓pickE_true, ↓pickE_false, ↓pickE_or, ↓pickE_and, ↓grdE_true, ↓grdE_false, ↓grdE_tf, ↓grdE_ft, ↓grdE_undef, ↓nilE_pt, ↓thenK_normal, ↓thenK_exit, ↓thenK_ret, ↓thenK_goto, ↓thenK_panic, ↓blockK_exit, ↓blockK_normal, ↓blockK_ret, ↓blockK_goto, ↓blockK_panic, ↓loopK_normal, ↓loopK_exit, ↓loopK_ret, ↓loopK_goto, ↓loopK_panic, ↓topK_ret, ↓topK_normal, ↓topK_panic, ↓resVs_nil, ↓resVs_tmp, ↓resVs_cell, tup_one, tup_nil, tup_two, put_get, argE_get, ↓takeE_def, ↓heldE_nil, ↓heldE_cons, qNil_pt, qPick_bool, qGrd_bool, qGrd_undef, ↓letK_def, pBox_eq, pBin_add, pBin_sub, pBin_mul, pBin_eql, pBin_neq, pBin_lss, pBin_leq, pBin_gtr, pBin_geq, pUn_not, pUn_neg, eqB, neB, eqS, neS, pExtract0, pExtract1, pExtract2, max_int, min_int, sz_nw, sz_wr, sz_drew, mm_nw, fz_nw, mm_drew, fz_drew, fz_wr, sz_mkS, mm_mkS, fz_mkS, Fr.mkS, mm_wr_same, mm_wr_ne, wr_wr, bs_oneT, splice_full, gt_zero, gt_succ, gt_set, gt_bs, byte_eq0, byte_eq1, byte_n0, byte_n1, Fr.refl, Fr.nw, Fr.wr, Fr.drew, hr, hw, hn]
            refine ⟨Fr.of_grown' hg (fun k hk => (own_lt hown k hk).1) (by simp [sz_nw, sz_wr, sz_drew, mm_nw, fz_nw, mm_drew, fz_drew, fz_wr, sz_mkS, mm_mkS, fz_mkS, Fr.mkS, mm_wr_same, mm_wr_ne, wr_wr, bs_oneT, splice_full, gt_zero, gt_succ, gt_set, gt_bs, byte_eq0, byte_eq1, byte_n0, byte_n1, Fr.refl, Fr.nw, Fr.wr, Fr.drew]) (Nat.le_refl _), ?_⟩
            have := own_rd ho
            rw [hpl, hn]
            simpa using this
      · have c1' : decide ((61 : Int) < (n.toNat : Int)) = true := by simp; omega
        have hnw : ¬ isWhole s := fun h => c1 (hn ▸ h.2.2.1)
        simp (maxDischargeDepth := 8) [↓bindV_some, ↓bindU_some, ↓condE_true, ↓condE_false, ↓pickE_true, ↓pickE_false, ↓pickE_or, ↓pickE_and, ↓grdE_true, ↓grdE_false, ↓grdE_tf, ↓grdE_ft, ↓grdE_undef, ↓nilE_pt, ↓thenK_normal, ↓thenK_exit, ↓thenK_ret, ↓thenK_goto, ↓thenK_panic, ↓blockK_exit, ↓blockK_normal, ↓blockK_ret, ↓blockK_goto, ↓blockK_panic, ↓loopK_normal, ↓loopK_exit, ↓loopK_ret, ↓loopK_goto, ↓loopK_panic, ↓topK_ret, ↓topK_normal, ↓topK_panic, ↓resVs_nil, ↓resVs_tmp, ↓resVs_cell, tup_one, tup_nil, tup_two, put_get, argE_get, ↓takeE_def, ↓heldE_nil, ↓heldE_cons, qNil_pt, qPick_bool, qGrd_bool, qGrd_undef, ↓letK_def, pBox_eq, pBin_add, pBin_sub, pBin_mul, pBin_eql, pBin_neq, pBin_lss, pBin_leq, pBin_gtr, pBin_geq, pUn_not, pUn_neg, eqB, neB, eqS, neS, pExtract0, pExtract1, pExtract2, max_int, min_int, sz_nw, sz_wr, sz_drew, mm_nw, fz_nw, mm_drew, fz_drew, fz_wr, sz_mkS, mm_mkS, fz_mkS, Fr.mkS, mm_wr_same, mm_wr_ne, wr_wr, bs_oneT, splice_full, gt_zero, gt_succ, gt_set, gt_bs, byte_eq0, byte_eq1, byte_n0, byte_n1, Fr.refl, Fr.nw, Fr.wr, Fr.drew, hs, hn, c0, c63, c1', hnw]
    · have hnw : ¬ isWhole s := fun h => c63 h.2.1
      simp (maxDischargeDepth := 8) [↓bindV_some, ↓bindU_some, ↓condE_true, ↓condE_false, ↓pickE_true, ↓pickE_false, ↓pickE_or, ↓pickE_and, ↓grdE_true, ↓grdE_false, ↓grdE_tf, ↓grdE_ft, ↓grdE_undef, ↓nilE_pt, ↓thenK_normal, ↓thenK_exit, ↓thenK_ret, ↓thenK_goto, ↓thenK_panic, ↓blockK_exit, ↓blockK_normal, ↓blockK_ret, ↓blockK_goto, ↓blockK_panic, ↓loopK_normal, ↓loopK_exit, ↓loopK_ret, ↓loopK_goto, ↓loopK_panic, ↓topK_ret, ↓topK_normal, ↓topK_panic, ↓resVs_nil, ↓resVs_tmp, ↓resVs_cell, tup_one, tup_nil, tup_two, put_get, argE_get, ↓takeE_def, ↓heldE_nil, ↓heldE_cons, qNil_pt, qPick_bool, qGrd_bool, qGrd_undef, ↓letK_def, pBox_eq, pBin_add, pBin_sub, pBin_mul, pBin_eql, pBin_neq, pBin_lss, pBin_leq, pBin_gtr, pBin_geq, pUn_not, pUn_neg, eqB, neB, eqS, neS, pExtract0, pExtract1, pExtract2, max_int, min_int, sz_nw, sz_wr, sz_drew, mm_nw, fz_nw, mm_drew, fz_drew, fz_wr, sz_mkS, mm_mkS, fz_mkS, Fr.mkS, mm_wr_same, mm_wr_ne, wr_wr, bs_oneT, splice_full, gt_zero, gt_succ, gt_set, gt_bs, byte_eq0, byte_eq1, byte_n0, byte_n1, Fr.refl, Fr.nw, Fr.wr, Fr.drew, hs, hn, c0, c63, hnw]
  · have hnw : ¬ isWhole s := fun h => c0 h.1
    simp (maxDischargeDepth := 8) [↓bindV_some, ↓bindU_some, ↓condE_true, ↓condE_false, ↓pickE_true, ↓pickE_false, ↓pickE_or, ↓pickE_and, ↓grdE_true, ↓grdE_false, ↓grdE_tf, ↓grdE_ft, ↓grdE_undef, ↓nilE_pt, ↓thenK_normal, ↓thenK_exit, ↓thenK_ret, ↓thenK_goto, ↓thenK_panic, ↓blockK_exit, ↓blockK_normal, ↓blockK_ret, ↓blockK_goto, ↓blockK_panic, ↓loopK_normal, ↓loopK_exit, ↓loopK_ret, ↓loopK_goto, ↓loopK_panic, ↓topK_ret, ↓topK_normal, ↓topK_panic, ↓resVs_nil, ↓resVs_tmp, ↓resVs_cell, tup_one, tup_nil, tup_two, put_get, argE_get, ↓takeE_def, ↓heldE_nil, ↓heldE_cons, qNil_pt, qPick_bool, qGrd_bool, qGrd_undef, ↓letK_def, pBox_eq, pBin_add, pBin_sub, pBin_mul, pBin_eql, pBin_neq, pBin_lss, pBin_leq, pBin_gtr, pBin_geq, pUn_not, pUn_neg, eqB, neB, eqS, neS, pExtract0, pExtract1, pExtract2, max_int, min_int, sz_nw, sz_wr, sz_drew, mm_nw, fz_nw, mm_drew, fz_drew, fz_wr, sz_mkS, mm_mkS, fz_mkS, Fr.mkS, mm_wr_same, mm_wr_ne, wr_wr, bs_oneT, splice_full, gt_zero, gt_succ, gt_set, gt_bs, byte_eq0, byte_eq1, byte_n0, byte_n1, Fr.refl, Fr.nw, Fr.wr, Fr.drew, hs, hn, c0, hnw]

theorem rd_at {w : World} {a : Option Addr} {n c : Nat} {l : List UInt8} (h : RdV w (.slice a n c) n (bs l)) (hl : l.length = n) {j : Nat} (hj : j < n) :
    ∃ b o, a = some ⟨b, o, none⟩ ∧ b < sz w ∧ o + j < (mm w b).length ∧ gt (mm w b) (o + j) = bv (gb l j) := by
  rcases h with ⟨_, _, _, h0, _⟩ | ⟨b, o, c', h, h1, h2, h3, h4, h5⟩
  · omega
  · simp only [Value.slice.injEq] at h
    obtain ⟨rfl, _, rfl⟩ := h
    have hr : RdV w (sl b o n c) n (bs l) := .inr ⟨b, o, c, rfl, h1, h2, h3, h4, h5⟩
    have := hr.cell (j := j) (by simp; omega)
    refine ⟨b, o, rfl, h3, this.1, ?_⟩
    have hg := gt_bs (a := l) (n := j) (by omega)
    unfold gt at hg ⊢
    rw [this.2, hg]

theorem refSeal_spec {w : World} {a0 : Value} {l : List UInt8} (h : RdV w a0 l.length (bs l)) (hl : l.length ≤ 61) :
    Ret P 24 #[a0] w fun v w' => v = sec (sealOf l) ∧ Fr [] w w' := by
  refine F24ok ?_
  unfold F24
  obtain ⟨a, c, rfl⟩ := sl_of h
  simp (maxDischargeDepth := 8) [↓bindV_some, ↓bindU_some, ↓condE_true, ↓condE_false, ↓pickE_true, ↓pickE_false, ↓pickE_or, ↓pickE_and, ↓grdE_true, ↓grdE_false, ↓grdE_tf, ↓grdE_ft, ↓grdE_undef, ↓nilE_pt, ↓thenK_normal, ↓thenK_exit, ↓thenK_ret, ↓thenK_goto, ↓thenK_panic, ↓blockK_exit, ↓blockK_normal, ↓blockK_ret, ↓blockK_goto, ↓blockK_panic, ↓loopK_normal, ↓loopK_exit, ↓loopK_ret, ↓loopK_goto, ↓loopK_panic, ↓topK_ret, ↓topK_normal, ↓topK_panic, ↓resVs_nil, ↓resVs_tmp, ↓resVs_cell, tup_one, tup_nil, tup_two, put_get, argE_get, ↓takeE_def, ↓heldE_nil, ↓heldE_cons, qNil_pt, qPick_bool, qGrd_bool, qGrd_undef, ↓letK_def, pBox_eq, pBin_add, pBin_sub, pBin_mul, pBin_eql, pBin_neq, pBin_lss, pBin_leq, pBin_gtr, pBin_geq, pUn_not, pUn_neg, eqB, neB, eqS, neS, pExtract0, pExtract1, pExtract2, max_int, min_int, sz_nw, sz_wr, sz_drew, mm_nw, fz_nw, mm_drew, fz_drew, fz_wr, sz_mkS, mm_mkS, fz_mkS, Fr.mkS, mm_wr_same, mm_wr_ne, wr_wr, bs_oneT, splice_full, gt_zero, gt_succ, gt_set, gt_bs, byte_eq0, byte_eq1, byte_n0, byte_n1, Fr.refl, Fr.nw, Fr.wr, Fr.drew, u8_one, u8_len hl, bs_set]
  refine loopE_of (fun m e w' => ∃ (j : Nat) (S : List UInt8), w' = wr (nw (nw w (bs (zb 64)) 25) (bs (zb 64)) 25) (sz w + 1) (bs S) ∧ S.length = 64 ∧ m = l.length - j ∧ j ≤ l.length ∧
      (∀ i, gb S i = if i = 0 then 1 else if i = 1 then UInt8.ofNat l.length else if i < 2 + j then gb l (i - 2) else 0) ∧
      e 4 = i64 j ∧ e 0 = .slice a l.length c ∧ e 3 = pt (sz w + 1) 0 ∧ e 2 = pt (sz w) 0) l.length ?_ ?_
  · refine ⟨0, ((zb 64).set 0 1).set 1 (UInt8.ofNat l.length), rfl, by simp, by omega, by omega, fun i => ?_, ?_⟩
    · rw [gb_set (by simp), gb_set (by simp), gb_zb]
      by_cases h0 : i = 0
      · simp [h0]
      · by_cases h1 : i = 1
        · simp [h1]
        · have : ¬ i < 2 := by omega
          simp [h0, h1, this]
    · simp [put_get, argE_get]
  · rintro m e w' ⟨j, S, rfl, hS, rfl, hj, hgb, h4, h0, h3, h2⟩
    unfold F24B0
    by_cases hjl : j < l.length
    · obtain ⟨b, o, rfl, hb, hin, hgt⟩ := rd_at h rfl hjl
      have hw1 : IntKind.i64.wrap (2 + (j : Int)) = ((2 + j : Nat) : Int) := wrap64 (by omega) (by omega)
      have hw2 : IntKind.i64.wrap ((j : Int) + 1) = ((j + 1 : Nat) : Int) := wrap64 (by omega) (by omega)
      have h64 : 2 + j < 64 := by omega
      have hi64 : ((2 + j : Nat) : Int) < 64 := by omega
      simp (maxDischargeDepth := 8) [↓bindV_some, ↓bindU_some, ↓condE_true, ↓condE_false, ↓pickE_true, ↓pickE_false, ↓pickE_or, ↓pickE_and, ↓grdE_true, ↓grdE_false, ↓grdE_tf, ↓grdE_ft, ↓grdE_undef, ↓nilE_pt, ↓thenK_normal, ↓thenK_exit, ↓thenK_ret, ↓thenK_goto, ↓thenK_panic, ↓blockK_exit, ↓blockK_normal, ↓blockK_ret, ↓blockK_goto, ↓blockK_panic, ↓loopK_normal, ↓loopK_exit, ↓loopK_ret, ↓loopK_goto, ↓loopK_panic, ↓topK_ret, ↓topK_normal, ↓topK_panic, ↓resVs_nil, ↓resVs_tmp, ↓resVs_cell, tup_one, tup_nil, tup_two, put_get, argE_get, ↓takeE_def, ↓heldE_nil, ↓heldE_cons, qNil_pt, qPick_bool, qGrd_bool, qGrd_undef, ↓letK_def, pBox_eq, pBin_add, pBin_sub, pBin_mul, pBin_eql, pBin_neq, pBin_lss, pBin_leq, pBin_gtr, pBin_geq, pUn_not, pUn_neg, eqB, neB, eqS, neS, pExtract0, pExtract1, pExtract2, max_int, min_int, sz_nw, sz_wr, sz_drew, mm_nw, fz_nw, mm_drew, fz_drew, fz_wr, sz_mkS, mm_mkS, fz_mkS, Fr.mkS, mm_wr_same, mm_wr_ne, wr_wr, bs_oneT, splice_full, gt_zero, gt_succ, gt_set, gt_bs, byte_eq0, byte_eq1, byte_n0, byte_n1, Fr.refl, Fr.nw, Fr.wr, Fr.drew, h4, h0, h3, h2, hjl, hw1, hw2, hS, hb, hin, hgt, h64, hi64, ne_lt hb, ne_lt_add hb, bs_set, -Int.natCast_add]
      refine ⟨l.length - (j + 1), by omega, j + 1, S.set (2 + j) (gb l j), rfl, by simp [hS], rfl, by omega, fun i => ?_, rfl⟩
      · rw [gb_set (by omega), hgb]
        by_cases hi : i = 2 + j
        · subst hi
          have e1 : ¬ 2 + j = 0 := by omega
          have e2 : ¬ 2 + j = 1 := by omega
          have e3 : 2 + j < 2 + (j + 1) := by omega
          have e4 : 2 + j - 2 = j := by omega
          simp [e1, e2, e3, e4]
        · rw [if_neg hi]
          by_cases i0 : i = 0
          · simp [i0]
          · by_cases i1 : i = 1
            · simp [i1]
            · have : (i < 2 + j) ↔ (i < 2 + (j + 1)) := by omega
              simp [i0, i1, this]
    · have hjl' : j = l.length := by omega
      have hfin : S.set 63 1 = sealOf l := by
        refine gb_ext (by rw [List.length_set, hS, sealOf_length hl]) fun i hi => ?_
        rw [gb_set (by omega), gb_sealOf hl, hgb, hjl']
        rw [List.length_set, hS] at hi
        grind
      simp (maxDischargeDepth := 8) [↓bindV_some, ↓bindU_some, ↓condE_true, ↓condE_false, ↓pickE_true, ↓pickE_false, ↓pickE_or, ↓pickE_and, ↓grdE_true, ↓grdE_false, ↓grdE_tf, ↓grdE_ft, ↓grdE_undef, ↓nilE_pt, ↓thenK_normal, ↓thenK_exit, ↓thenK_ret, ↓thenK_goto, ↓thenK_panic, ↓blockK_exit, ↓blockK_normal, ↓blockK_ret, ↓blockK_goto, ↓blockK_panic, ↓loopK_normal, ↓loopK_exit, ↓loopK_ret, ↓loopK_goto, ↓loopK_panic, ↓topK_ret, ↓topK_normal, ↓topK_panic, ↓resVs_nil, ↓resVs_tmp, ↓resVs_cell, tup_one, tup_nil, tup_two, put_get, argE_get, ↓takeE_def, ↓heldE_nil, ↓heldE_cons, qNil_pt, qPick_bool, qGrd_bool, qGrd_undef, ↓letK_def, pBox_eq, pBin_add, pBin_sub, pBin_mul, pBin_eql, pBin_neq, pBin_lss, pBin_leq, pBin_gtr, pBin_geq, pUn_not, pUn_neg, eqB, neB, eqS, neS, pExtract0, pExtract1, pExtract2, max_int, min_int, sz_nw, sz_wr, sz_drew, mm_nw, fz_nw, mm_drew, fz_drew, fz_wr, sz_mkS, mm_mkS, fz_mkS, Fr.mkS, mm_wr_same, mm_wr_ne, wr_wr, bs_oneT, splice_full, gt_zero, gt_succ, gt_set, gt_bs, byte_eq0, byte_eq1, byte_n0, byte_n1, Fr.refl, Fr.nw, Fr.wr, Fr.drew, h4, h0, h3, h2, hjl, hS, u8_one, bs_set, hfin, List.take_of_length_le, sealOf_length hl]

theorem refOpen_spec {w : World} {s : List UInt8} (hs : s.length = 64) :
    Ret P 25 #[sec s] w fun v w' => Fr [] w w' ∧ ∃ x, v = .tuple #[x, .bool (decide (isWhole s))] ∧
      (isWhole s → RdV w' x (pay s).length (bs (pay s))) ∧ (¬ isWhole s → x = .slice none 0 0) := by
  refine F25ok ?_
  unfold F25
  generalize hn : gb s 1 = n
  by_cases c1 : n.toNat ≤ 61
  · have c1' : ¬ (61 < n.toNat) := by omega
    have c1'' : ¬ ((61 : Int) < (n.toNat : Int)) := by omega
    simp (maxDischargeDepth := 8) [↓bindV_some, ↓bindU_some, ↓condE_true, ↓condE_false, ↓pickE_true, ↓pickE_false, ↓pickE_or, ↓pickE_and, ↓grdE_true, ↓grdE_false, ↓grdE_tf, ↓grdE_ft, ↓grdE_undef, ↓nilE_pt, ↓thenK_normal, ↓thenK_exit, ↓thenK_ret, ↓thenK_goto, ↓thenK_panic, ↓blockK_exit, ↓blockK_normal, ↓blockK_ret, ↓blockK_goto, ↓blockK_panic, ↓loopK_normal, ↓loopK_exit, ↓loopK_ret, ↓loopK_goto, ↓loopK_panic, ↓topK_ret, ↓topK_normal, ↓topK_panic, ↓resVs_nil, ↓resVs_tmp, ↓resVs_cell, tup_one, tup_nil, tup_two, put_get, argE_get, ↓takeE_def, ↓heldE_nil, ↓heldE_cons, qNil_pt, qPick_bool, qGrd_bool, qGrd_undef, ↓letK_def, pBox_eq, pBin_add, pBin_sub, pBin_mul, pBin_eql, pBin_neq, pBin_lss, pBin_leq, pBin_gtr, pBin_geq, pUn_not, pUn_neg, eqB, neB, eqS, neS, pExtract0, pExtract1, pExtract2, max_int, min_int, sz_nw, sz_wr, sz_drew, mm_nw, fz_nw, mm_drew, fz_drew, fz_wr, sz_mkS, mm_mkS, fz_mkS, Fr.mkS, mm_wr_same, mm_wr_ne, wr_wr, bs_oneT, splice_full, gt_zero, gt_succ, gt_set, gt_bs, byte_eq0, byte_eq1, byte_n0, byte_n1, Fr.refl, Fr.nw, Fr.wr, Fr.drew, hs, hn, c1', c1'']
    refine loopE_of (fun m e w' => ∃ (j : Nat) (v : Value), m = n.toNat - j ∧ j ≤ n.toNat ∧ Fr [] w w' ∧ sz w < sz w' ∧ mm w' (sz w) = bs s ∧ fz w' (sz w) = false ∧
      w'.ownsRow (sz w + 1) 5 1 v j (bs ((s.drop 2).take j)) ∧ e 6 = i64 j ∧ e 4 = i64 n.toNat ∧ e 5 = v ∧ e 1 = pt (sz w) 0) n.toNat ?_ ?_
    · refine ⟨0, sl (sz w + 1) 0 0 0, by omega, by omega, ?_, ?_, ?_, ?_, ?_, ?_⟩
      · exact ((Fr.refl [] w).nw _ _).nw _ _
      · rw [sz_nw, sz_nw]; omega
      · simp [sz_nw, sz_wr, sz_drew, mm_nw, fz_nw, mm_drew, fz_drew, fz_wr, sz_mkS, mm_mkS, fz_mkS, Fr.mkS, mm_wr_same, mm_wr_ne, wr_wr, bs_oneT, splice_full, gt_zero, gt_succ, gt_set, gt_bs, byte_eq0, byte_eq1, byte_n0, byte_n1, Fr.refl, Fr.nw, Fr.wr, Fr.drew]
      · simp [sz_nw, sz_wr, sz_drew, mm_nw, fz_nw, mm_drew, fz_drew, fz_wr, sz_mkS, mm_mkS, fz_mkS, Fr.mkS, mm_wr_same, mm_wr_ne, wr_wr, bs_oneT, splice_full, gt_zero, gt_succ, gt_set, gt_bs, byte_eq0, byte_eq1, byte_n0, byte_n1, Fr.refl, Fr.nw, Fr.wr, Fr.drew]
      · have := own_made (w := nw w (bs s) 25) (base := sz w + 1) (e := 5) (size := 1) (by simp [sz_nw, sz_wr, sz_drew, mm_nw, fz_nw, mm_drew, fz_drew, fz_wr, sz_mkS, mm_mkS, fz_mkS, Fr.mkS, mm_wr_same, mm_wr_ne, wr_wr, bs_oneT, splice_full, gt_zero, gt_succ, gt_set, gt_bs, byte_eq0, byte_eq1, byte_n0, byte_n1, Fr.refl, Fr.nw, Fr.wr, Fr.drew])
        simpa [sz_nw, sz_wr, sz_drew, mm_nw, fz_nw, mm_drew, fz_drew, fz_wr, sz_mkS, mm_mkS, fz_mkS, Fr.mkS, mm_wr_same, mm_wr_ne, wr_wr, bs_oneT, splice_full, gt_zero, gt_succ, gt_set, gt_bs, byte_eq0, byte_eq1, byte_n0, byte_n1, Fr.refl, Fr.nw, Fr.wr, Fr.drew, bs] using this
      · simp [put_get, argE_get]
    · rintro m e w' ⟨j, v, rfl, hj, hfr, hsz, hmm, hfz, hown, h6, h4, h5, h1⟩
      unfold F25B0
      by_cases hjn : j < n.toNat
      · have hw1 : IntKind.i64.wrap (2 + (j : Int)) = ((2 + j : Nat) : Int) := wrap64 (by omega) (by omega)
        have hw2 : IntKind.i64.wrap ((j : Int) + 1) = ((j + 1 : Nat) : Int) := wrap64 (by omega) (by omega)
        have h64 : 2 + j < 64 := by omega
        have hi64 : ((2 + j : Nat) : Int) < 64 := by omega
        have ht : ((2 + j : Nat) : Int).toNat = 2 + j := by omega
        simp (maxDischargeDepth := 8) [↓bindV_some, ↓bindU_some, ↓condE_true, ↓condE_false, ↓pickE_true, ↓pickE_false, ↓pickE_or, ↓pickE_and, ↓grdE_true, ↓grdE_false, ↓grdE_tf, ↓grdE_ft, ↓grdE_undef, ↓nilE_pt, ↓thenK_normal, ↓thenK_exit, ↓thenK_ret, ↓thenK_goto, ↓thenK_panic, ↓blockK_exit, ↓blockK_normal, ↓blockK_ret, ↓blockK_goto, ↓blockK_panic, ↓loopK_normal, ↓loopK_exit, ↓loopK_ret, ↓loopK_goto, ↓loopK_panic, ↓topK_ret, ↓topK_normal, ↓topK_panic, ↓resVs_nil, ↓resVs_tmp, ↓resVs_cell, tup_one, tup_nil, tup_two, put_get, argE_get, ↓takeE_def, ↓heldE_nil, ↓heldE_cons, qNil_pt, qPick_bool, qGrd_bool, qGrd_undef, ↓letK_def, pBox_eq, pBin_add, pBin_sub, pBin_mul, pBin_eql, pBin_neq, pBin_lss, pBin_leq, pBin_gtr, pBin_geq, pUn_not, pUn_neg, eqB, neB, eqS, neS, pExtract0, pExtract1, pExtract2, max_int, min_int, sz_nw, sz_wr, sz_drew, mm_nw, fz_nw, mm_drew, fz_drew, fz_wr, sz_mkS, mm_mkS, fz_mkS, Fr.mkS, mm_wr_same, mm_wr_ne, wr_wr, bs_oneT, splice_full, gt_zero, gt_succ, gt_set, gt_bs, byte_eq0, byte_eq1, byte_n0, byte_n1, Fr.refl, Fr.nw, Fr.wr, Fr.drew, h6, h4, h5, h1, hjn, hw1, hw2, hmm, hs, h64, hi64, ht, splice, -Int.natCast_add]
        have hown' := own_fr hown ((Fr.refl [] w').nw [Value.int IntKind.u8 ((gb s (2 + j)).toNat : Int)] 5) (by simp)
        have hbase : sz w + 1 ≤ sz (nw w' [Value.int IntKind.u8 ((gb s (2 + j)).toNat : Int)] 5) := by rw [sz_nw]; omega
        obtain ⟨v', w'', hr, ho, hg, _⟩ := append_own (P := P) (ty := 22) (sz w + 1) sliceE22 hasZero5 cellsOf5 (by rw [zeroL5]; rfl) (by omega) hown' hbase
          (rd_new w' [Value.int IntKind.u8 ((gb s (2 + j)).toNat : Int)] 5 (n := 1) (by simp [maxLen])) (by simp) (by simp) (by simp [maxLen]; omega) (by simp; omega)
        simp only [hr, ↓bindV_some]
        have hfr2 : Fr [] (nw w' [Value.int IntKind.u8 ((gb s (2 + j)).toNat : Int)] 5) w'' ∨ True := .inr trivial
        have hlt0 : sz w < sz (nw w' [Value.int IntKind.u8 ((gb s (2 + j)).toNat : Int)] 5) := by rw [sz_nw]; omega
        have hne : sz w ∉ v.ownBlock.toList := by
          cases hv : v.ownBlock with
          | none => simp
          | some k => have := (own_lt hown k hv).1; simp; omega
        have hgf := Fr.of_grown hg
        refine ⟨n.toNat - (j + 1), by omega, j + 1, rfl, by omega, ?_, ?_, ?_, ?_, ?_, rfl⟩
        · exact Fr.of_grown' hg (fun k hk => (own_lt hown k hk).1) (hfr.nw _ _) (by omega)
        · exact hgf.lt hlt0
        · rw [hgf.mm hlt0 hne, mm_nw, if_neg (by omega), hmm]
        · rw [hgf.fz hlt0 hne, fz_nw, if_neg (by omega), hfz]
        · have e1 : (s.drop 2).take (j + 1) = (s.drop 2).take j ++ [gb s (2 + j)] := by
            have hls : 2 + j < s.length := by omega
            rw [List.take_add_one, List.getElem?_drop, List.getElem?_eq_getElem hls]
            have : gb s (2 + j) = s[2 + j] := by
              unfold gb
              rw [List.getD_eq_getElem?_getD, List.getElem?_eq_getElem hls]
              rfl
            rw [this]
            rfl
          rw [e1, bs_append]
          exact ho
      · have : j = n.toNat := by omega
        subst this
        simp (maxDischargeDepth := 8) [↓bindV_some, ↓bindU_some, ↓condE_true, ↓condE_false, ↓pickE_true, ↓pickE_false, ↓pickE_or, ↓pickE_and, ↓grdE_true, ↓grdE_false, ↓grdE_tf, ↓grdE_ft, ↓grdE_undef, ↓nilE_pt, ↓thenK_normal, ↓thenK_exit, ↓thenK_ret, ↓thenK_goto, ↓thenK_panic, ↓blockK_exit, ↓blockK_normal, ↓blockK_ret, ↓blockK_goto, ↓blockK_panic, ↓loopK_normal, ↓loopK_exit, ↓loopK_ret, ↓loopK_goto, ↓loopK_panic, ↓topK_ret, ↓topK_normal, ↓topK_panic, ↓resVs_nil, ↓resVs_tmp, ↓resVs_cell, tup_one, tup_nil, tup_two, put_get, argE_get, ↓takeE_def, ↓heldE_nil, ↓heldE_cons, qNil_pt, qPick_bool, qGrd_bool, qGrd_undef, ↓letK_def, pBox_eq, pBin_add, pBin_sub, pBin_mul, pBin_eql, pBin_neq, pBin_lss, pBin_leq, pBin_gtr, pBin_geq, pUn_not, pUn_neg, eqB, neB, eqS, neS, pExtract0, pExtract1, pExtract2, max_int, min_int, sz_nw, sz_wr, sz_drew, mm_nw, fz_nw, mm_drew, fz_drew, fz_wr, sz_mkS, mm_mkS, fz_mkS, Fr.mkS, mm_wr_same, mm_wr_ne, wr_wr, bs_oneT, splice_full, gt_zero, gt_succ, gt_set, gt_bs, byte_eq0, byte_eq1, byte_n0, byte_n1, Fr.refl, Fr.nw, Fr.wr, Fr.drew, h6, h4, h5, h1, hmm, hs, -Int.natCast_add]
        have hpl := pay_length hs (hn ▸ c1)
        have hpe : (s.drop 2).take n.toNat = pay s := by rw [pay, hn]
        rw [hpe] at hown
        have hrd : RdV (drew w') v (pay s).length (bs (pay s)) := by rw [hpl, hn]; exact rd_drew (own_rd hown)
        refine (refSeal_spec hrd (by rw [hpl, hn]; exact c1)).call ?_
        rintro _ w2 ⟨rfl, hf2⟩
        have hsd : sz w < sz (drew w') := hsz
        have hm2 : mm w2 (sz w) = bs s := by rw [hf2.mm hsd (by simp), mm_drew, hmm]
        have ht : List.take 64 (bs s) = bs s := List.take_of_length_le (by simp [hs])
        have hsl : (sealOf (pay s)).length = 64 := sealOf_length (by rw [hpl, hn]; exact c1)
        have hiff : sealOf (pay s) = s ↔ isWhole s := by
          have hp61 : (pay s).length ≤ 61 := by rw [hpl, hn]; exact c1
          have hpg : ∀ i, i < n.toNat → gb (pay s) i = gb s (i + 2) := fun i hi => by
            rw [← hpe]
            simp only [gb, List.getD_eq_getElem?_getD, List.getElem?_take, List.getElem?_drop, if_pos hi]
            rw [Nat.add_comm]
          have hnn : UInt8.ofNat n.toNat = n := by simp
          constructor
          · intro h
            have hg : ∀ i, gb (sealOf (pay s)) i = gb s i := fun i => by rw [h]
            refine ⟨?_, ?_, by rw [hn]; exact c1, fun i h1 h2 => ?_⟩
            · rw [← hg, gb_sealOf hp61]; rfl
            · rw [← hg, gb_sealOf hp61]
              simp [hpl, hn]
              omega
            · rw [← hg, gb_sealOf hp61]
              rw [hn] at h1
              have a1 : ¬ i = 0 := by omega
              have a2 : ¬ i = 1 := by omega
              have a3 : ¬ i < 2 + (pay s).length := by rw [hpl, hn]; omega
              have a4 : ¬ i = 63 := by omega
              simp [a1, a2, a3, a4]
          · rintro ⟨h0, h63, _, hz⟩
            refine gb_ext (by rw [hsl, hs]) fun i hi => ?_
            rw [hsl] at hi
            rw [gb_sealOf hp61, hpl, hn, hnn]
            rw [hn] at hz
            by_cases a1 : i = 0
            · simp [a1, h0]
            · by_cases a2 : i = 1
              · simp [a2, hn]
              · by_cases a3 : i < 2 + n.toNat
                · simp only [a1, a2, a3, if_true, if_false]
                  rw [hpg _ (by omega)]
                  congr 1
                  omega
                · by_cases a4 : i = 63
                  · simp [a4, h63]; omega
                  · simp only [a1, a2, a3, a4, if_false]
                    exact (hz i (by omega) (by omega)).symm
        have hfin : Fr [] w w2 := (hfr.drew).trans0 hf2
        by_cases hw : isWhole s
        · have hse := hiff.2 hw
          simp (maxDischargeDepth := 8) [↓bindV_some, ↓bindU_some, ↓condE_true, ↓condE_false, ↓pickE_true, ↓pickE_false, ↓pickE_or, ↓pickE_and, ↓grdE_true, ↓grdE_false, ↓grdE_tf, ↓grdE_ft, ↓grdE_undef, ↓nilE_pt, ↓thenK_normal, ↓thenK_exit, ↓thenK_ret, ↓thenK_goto, ↓thenK_panic, ↓blockK_exit, ↓blockK_normal, ↓blockK_ret, ↓blockK_goto, ↓blockK_panic, ↓loopK_normal, ↓loopK_exit, ↓loopK_ret, ↓loopK_goto, ↓loopK_panic, ↓topK_ret, ↓topK_normal, ↓topK_panic, ↓resVs_nil, ↓resVs_tmp, ↓resVs_cell, tup_one, tup_nil, tup_two, put_get, argE_get, ↓takeE_def, ↓heldE_nil, ↓heldE_cons, qNil_pt, qPick_bool, qGrd_bool, qGrd_undef, ↓letK_def, pBox_eq, pBin_add, pBin_sub, pBin_mul, pBin_eql, pBin_neq, pBin_lss, pBin_leq, pBin_gtr, pBin_geq, pUn_not, pUn_neg, eqB, neB, eqS, neS, pExtract0, pExtract1, pExtract2, max_int, min_int, sz_nw, sz_wr, sz_drew, mm_nw, fz_nw, mm_drew, fz_drew, fz_wr, sz_mkS, mm_mkS, fz_mkS, Fr.mkS, mm_wr_same, mm_wr_ne, wr_wr, bs_oneT, splice_full, gt_zero, gt_succ, gt_set, gt_bs, byte_eq0, byte_eq1, byte_n0, byte_n1, Fr.refl, Fr.nw, Fr.wr, Fr.drew, hm2, hs, ht, hse, h5, hw, hfin]
          exact hrd.fr0 hf2
        · have hse : ¬ sealOf (pay s) = s := fun h => hw (hiff.1 h)
          simp (maxDischargeDepth := 8) [↓bindV_some, ↓bindU_some, ↓condE_true, ↓condE_false, ↓pickE_true, ↓pickE_false, ↓pickE_or, ↓pickE_and, ↓grdE_true, ↓grdE_false, ↓grdE_tf, ↓grdE_ft, ↓grdE_undef, ↓nilE_pt, ↓thenK_normal, ↓thenK_exit, ↓thenK_ret, ↓thenK_goto, ↓thenK_panic, ↓blockK_exit, ↓blockK_normal, ↓blockK_ret, ↓blockK_goto, ↓blockK_panic, ↓loopK_normal, ↓loopK_exit, ↓loopK_ret, ↓loopK_goto, ↓loopK_panic, ↓topK_ret, ↓topK_normal, ↓topK_panic, ↓resVs_nil, ↓resVs_tmp, ↓resVs_cell, tup_one, tup_nil, tup_two, put_get, argE_get, ↓takeE_def, ↓heldE_nil, ↓heldE_cons, qNil_pt, qPick_bool, qGrd_bool, qGrd_undef, ↓letK_def, pBox_eq, pBin_add, pBin_sub, pBin_mul, pBin_eql, pBin_neq, pBin_lss, pBin_leq, pBin_gtr, pBin_geq, pUn_not, pUn_neg, eqB, neB, eqS, neS, pExtract0, pExtract1, pExtract2, max_int, min_int, sz_nw, sz_wr, sz_drew, mm_nw, fz_nw, mm_drew, fz_drew, fz_wr, sz_mkS, mm_mkS, fz_mkS, Fr.mkS, mm_wr_same, mm_wr_ne, wr_wr, bs_oneT, splice_full, gt_zero, gt_succ, gt_set, gt_bs, byte_eq0, byte_eq1, byte_n0, byte_n1, Fr.refl, Fr.nw, Fr.wr, Fr.drew, hm2, hs, ht, hsl, hse, h5, hw, hfin]
  · have hnw : ¬ isWhole s := fun h => c1 (hn ▸ h.2.2.1)
    have c1' : 61 < n.toNat := by omega
    have c1'' : (61 : Int) < (n.toNat : Int) := by omega
    simp (maxDischargeDepth := 8) [↓bindV_some, ↓bindU_some, ↓condE_true, ↓condE_false, ↓pickE_true, ↓pickE_false, ↓pickE_or, ↓pickE_and, ↓grdE_true, ↓grdE_false, ↓grdE_tf, ↓grdE_ft, ↓grdE_undef, ↓nilE_pt, ↓thenK_normal, ↓thenK_exit, ↓thenK_ret, ↓thenK_goto, ↓thenK_panic, ↓blockK_exit, ↓blockK_normal, ↓blockK_ret, ↓blockK_goto, ↓blockK_panic, ↓loopK_normal, ↓loopK_exit, ↓loopK_ret, ↓loopK_goto, ↓loopK_panic, ↓topK_ret, ↓topK_normal, ↓topK_panic, ↓resVs_nil, ↓resVs_tmp, ↓resVs_cell, tup_one, tup_nil, tup_two, put_get, argE_get, ↓takeE_def, ↓heldE_nil, ↓heldE_cons, qNil_pt, qPick_bool, qGrd_bool, qGrd_undef, ↓letK_def, pBox_eq, pBin_add, pBin_sub, pBin_mul, pBin_eql, pBin_neq, pBin_lss, pBin_leq, pBin_gtr, pBin_geq, pUn_not, pUn_neg, eqB, neB, eqS, neS, pExtract0, pExtract1, pExtract2, max_int, min_int, sz_nw, sz_wr, sz_drew, mm_nw, fz_nw, mm_drew, fz_drew, fz_wr, sz_mkS, mm_mkS, fz_mkS, Fr.mkS, mm_wr_same, mm_wr_ne, wr_wr, bs_oneT, splice_full, gt_zero, gt_succ, gt_set, gt_bs, byte_eq0, byte_eq1, byte_n0, byte_n1, Fr.refl, Fr.nw, Fr.wr, Fr.drew, hs, hn, c1', c1'', hnw]
end Go.Proofs.Yticncfkpfpkfoaa
