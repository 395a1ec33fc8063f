/- What the statements' 'speaks' says is so. -/
import Derived.Test.YtfmcplkijjndlaaPackS
import Derived.Test.YtfmcplkijjndlaaPackWr
set_option linter.unusedVariables false
set_option linter.unusedSimpArgs false
namespace Go.Proofs.Ytfmcplkijjndlaa
open Go

theorem okF44 : okF P (P.fieldsOf 44).toList [42, 3] 0 = true := by kernel_rfl
theorem und44f : P.underlying 44 = some (.struct (P.fieldsOf 44).toList.toArray) := by kernel_rfl
theorem stood44 : P.stoodInHeld 44 = false := by kernel_rfl
theorem eqFault {lit : Bool} {w : World} {a b c d : Int} : pBin P .eql 44 lit (.agg #[i64 a, i64 b]) (.agg #[i64 c, i64 d]) w = some (.bool (decide (a = c) && decide (b = d)), w) := by
  have hc : cellsEq P [42, 3] [i64 a, i64 b] [i64 c, i64 d] [decide (a = c), decide (b = d)] := by
    refine ⟨.inl ⟨.i64, _, _, und42, rfl, rfl, ?_⟩, .inl ⟨.i64, _, _, und3, rfl, rfl, ?_⟩, trivial⟩
    · rw [Bool.eq_iff_iff]; simp only [decide_eq_true_eq, beq_iff_eq]
    · rw [Bool.eq_iff_iff]; simp only [decide_eq_true_eq, beq_iff_eq]
  have hr := pEq_struct (P := P) (t := 44) (lit := lit) (w := w) (xs := #[i64 a, i64 b]) (ys := #[i64 c, i64 d]) und44f stood44 eqg44 (fieldsEq_of _ _ 0 _ _ _ okF44 hc)
  rw [hr]
  simp
def q1 : PartP := ⟨117, 300, 0, 0, [], false⟩
def q2 : PartP := ⟨105, 0, -2, 0, [], false⟩
def q3 : PartP := ⟨115, 0, 0, 0, [97, 98], false⟩
def q4 : PartP := ⟨98, 0, 0, 0, [], true⟩
def qL : List PartP := [q1, q2, q3, q4]
theorem enc_qL : encAll qL = [172, 2, 3, 2, 97, 98, 1] := by
  have e1 : encP q1 = [172, 2] := by
    show digits 300 = _
    rw [digits_ge (by omega), digits_lt (by omega)]; rfl
  have e2 : encP q2 = [3] := by
    show digits 3 = _
    rw [digits_lt (by omega)]; rfl
  have e3 : encP q3 = [2, 97, 98] := by
    show digits 2 ++ _ = _
    rw [digits_lt (by omega)]; rfl
  have e4 : encP q4 = [1] := rfl
  simp [qL, encAll, e1, e2, e3, e4]
theorem read_qL : readM [172, 2, 3, 2, 97, 98, 1] [117, 105, 115, 98] 5 = (qL, 0, 0) := by kernel_rfl
theorem read_bad : readM [128, 0] [117] 5 = ([], 4, 2) := by kernel_rfl
theorem bd_q1 {w : World} : pBuild P 60 [(0, Value.int .u8 117), (1, Value.int .u64 300)] w = some (.agg (partC q1).toArray, w) := by rw [bf60 (by simp)]; rfl
theorem bd_q2 {w : World} : pBuild P 60 [(0, Value.int .u8 105), (2, Value.int .i64 (-2))] w = some (.agg (partC q2).toArray, w) := by rw [bf60 (by simp)]; rfl
theorem bd_q3 {w : World} : pBuild P 60 [(0, Value.int .u8 115), (4, .string { data := #[97, 98] })] w = some (.agg (partC q3).toArray, w) := by rw [bf60 (by simp)]; rfl
theorem bd_q4 {w : World} : pBuild P 60 [(0, Value.int .u8 98), (5, .bool true)] w = some (.agg (partC q4).toArray, w) := by rw [bf60 (by simp)]; rfl
theorem bs_qL {w : World} : pBuildSlice P 37 4 [(0, .agg (partC q1).toArray), (1, .agg (partC q2).toArray), (2, .agg (partC q3).toArray), (3, .agg (partC q4).toArray)] w = some (sl (sz w) 0 4 4, nw w (flat partC qL) 60) := by
  rw [bsl37 (by omega) (by simp [partC])]
  congr 3
theorem wF0 {w : World} : IsW (nw w [.slice none 0 0] 58) (sz w) [] [sz w] :=
  ⟨.slice none 0 0, by simp [sz_nw, sz_wr, sz_drew, mm_nw, fz_nw, mm_drew, fz_drew, fz_wr, sz_mkS, mm_mkS, fz_mkS, Fr.mkS, mm_wr_same, mm_wr_ne, wr_wr, bs_oneT, splice_full, gt_zero, gt_succ, gt_set, gt_bs, byte_eq0, byte_eq1, byte_n0, byte_n1, Fr.refl, Fr.nw, Fr.wr, Fr.drew], by simp [sz_nw, sz_wr, sz_drew, mm_nw, fz_nw, mm_drew, fz_drew, fz_wr, sz_mkS, mm_mkS, fz_mkS, Fr.mkS, mm_wr_same, mm_wr_ne, wr_wr, bs_oneT, splice_full, gt_zero, gt_succ, gt_set, gt_bs, byte_eq0, byte_eq1, byte_n0, byte_n1, Fr.refl, Fr.nw, Fr.wr, Fr.drew], World.ownsRow_nil _ _ _ _, by simp [Value.ownBlock], by simp, by simp [sz_nw, sz_wr, sz_drew, mm_nw, fz_nw, mm_drew, fz_drew, fz_wr, sz_mkS, mm_mkS, fz_mkS, Fr.mkS, mm_wr_same, mm_wr_ne, wr_wr, bs_oneT, splice_full, gt_zero, gt_succ, gt_set, gt_bs, byte_eq0, byte_eq1, byte_n0, byte_n1, Fr.refl, Fr.nw, Fr.wr, Fr.drew]⟩
theorem speaks02 {w : World} : Ret P 39 #[] w fun v w' => v = .bool true ∧ Fr [] w w' := by
  refine F39ok ?_
  unfold F39
  have hok : ∀ p ∈ qL, okP p := by
    intro p hp
    simp only [qL, List.mem_cons, List.not_mem_nil, or_false] at hp
    rcases hp with rfl | rfl | rfl | rfl <;> exact ⟨by decide, ⟨by decide, by decide⟩, by decide⟩
  have hb2 : ∀ w, pBuildSlice P 40 2 [(0, Value.int .u8 128), (1, Value.int .u8 0)] w = some (sl (sz w) 0 2 2, nw w (bs [128, 0]) 5) := fun w => by rw [bsl40 (by omega) (by simp)]; rfl
  try simp (maxDischargeDepth := 8) [↓bindV_some, ↓bindU_some, ↓condE_true, ↓condE_false, ↓pickE_true, ↓pickE_false, ↓pickE_or, ↓pickE_and, ↓grdE_true, ↓grdE_false, ↓grdE_tf, ↓grdE_ft, ↓grdE_undef, ↓nilE_pt, ↓thenK_normal, ↓thenK_exit, ↓thenK_ret, ↓thenK_goto, ↓thenK_panic, ↓blockK_exit, ↓blockK_normal, ↓blockK_ret, ↓blockK_goto, ↓blockK_panic, ↓loopK_normal, ↓loopK_exit, ↓loopK_ret, ↓loopK_goto, ↓loopK_panic, ↓topK_ret, ↓topK_normal, ↓topK_panic, ↓resVs_nil, ↓resVs_tmp, ↓resVs_cell, tup_one, tup_nil, tup_two, put_get, argE_get, ↓takeE_def, ↓heldE_nil, ↓heldE_cons, qNil_pt, qPick_bool, qGrd_bool, qGrd_undef, ↓letK_def, pBox_eq, pBin_add, pBin_sub, pBin_mul, pBin_eql, pBin_neq, pBin_lss, pBin_leq, pBin_gtr, pBin_geq, pUn_not, pUn_neg, eqB, neB, eqS, neS, pExtract0, pExtract1, pExtract2, max_int, min_int, sz_nw, sz_wr, sz_drew, mm_nw, fz_nw, mm_drew, fz_drew, fz_wr, sz_mkS, mm_mkS, fz_mkS, Fr.mkS, mm_wr_same, mm_wr_ne, wr_wr, bs_oneT, splice_full, gt_zero, gt_succ, gt_set, gt_bs, byte_eq0, byte_eq1, byte_n0, byte_n1, Fr.refl, Fr.nw, Fr.wr, Fr.drew, bd_q1, bd_q2, bd_q3, bd_q4, bs_qL, hb2, -bsl40, -bsl37, -bf60]
  have f0 : Fr [] w (nw w (flat partC qL) 60) := (Fr.refl [] w).nw _ _
  have hp0 : IsParts (nw w (flat partC qL) 60) (sl (sz w) 0 4 4) qL := ⟨rd_new w (flat partC qL) 60 (n := 4) (by unfold maxLen; omega), hok⟩
  refine (write_spec hp0 (by rw [enc_qL]; decide)).call ?_
  rintro x w1 ⟨hx, f1⟩
  rw [enc_qL] at hx
  have hrx := own_rd hx
  have g1 := f0.trans0 f1
  refine (packRead_spec (K := [117, 105, 115, 98]) (most := 5) (B := [172, 2, 3, 2, 97, 98, 1]) hrx (by omega) (by decide)).call ?_
  rw [read_qL]
  rintro _ w2 ⟨ov, rfl, hov, _, f2⟩
  have g2 := g1.trans0 f2
  have hsp2 : ∀ (a b : Int) (l : List Value), l.length = 2 → splice l 0 [i64 a, i64 b] = [i64 a, i64 b] := fun a b l hl => splice_full (by rw [hl]; rfl)
  obtain ⟨W, hW⟩ : ∃ W, W = nw (wr (nw w2 [i64 0, i64 0] 44) (sz w2) [i64 0, i64 0]) (bs [128, 0]) 5 := ⟨_, rfl⟩
  have fW : Fr [] w2 W := by rw [hW]; exact (((Fr.refl [] w2).nw _ _).wr (.inr (Nat.le_refl _)) _).nw _ _
  have hW0 : mm W (sz w2) = [i64 0, i64 0] := by rw [hW]; simp [sz_nw, sz_wr, sz_drew, mm_nw, fz_nw, mm_drew, fz_drew, fz_wr, sz_mkS, mm_mkS, fz_mkS, Fr.mkS, mm_wr_same, mm_wr_ne, wr_wr, bs_oneT, splice_full, gt_zero, gt_succ, gt_set, gt_bs, byte_eq0, byte_eq1, byte_n0, byte_n1, Fr.refl, Fr.nw, Fr.wr, Fr.drew]
  have hsW : sz W = sz w2 + 1 + 1 := by rw [hW]; simp [sz_nw, sz_wr, sz_drew, mm_nw, fz_nw, mm_drew, fz_drew, fz_wr, sz_mkS, mm_mkS, fz_mkS, Fr.mkS, mm_wr_same, mm_wr_ne, wr_wr, bs_oneT, splice_full, gt_zero, gt_succ, gt_set, gt_bs, byte_eq0, byte_eq1, byte_n0, byte_n1, Fr.refl, Fr.nw, Fr.wr, Fr.drew]
  have hrW : RdV W (sl (sz w2 + 1) 0 2 2) 2 (bs [128, 0]) := by
    rw [hW]
    have := rd_new (wr (nw w2 [i64 0, i64 0] 44) (sz w2) [i64 0, i64 0]) (bs [128, 0]) 5 (n := 2) (by unfold maxLen; omega)
    rwa [sz_wr, sz_nw] at this
  try simp (maxDischargeDepth := 8) [↓bindV_some, ↓bindU_some, ↓condE_true, ↓condE_false, ↓pickE_true, ↓pickE_false, ↓pickE_or, ↓pickE_and, ↓grdE_true, ↓grdE_false, ↓grdE_tf, ↓grdE_ft, ↓grdE_undef, ↓nilE_pt, ↓thenK_normal, ↓thenK_exit, ↓thenK_ret, ↓thenK_goto, ↓thenK_panic, ↓blockK_exit, ↓blockK_normal, ↓blockK_ret, ↓blockK_goto, ↓blockK_panic, ↓loopK_normal, ↓loopK_exit, ↓loopK_ret, ↓loopK_goto, ↓loopK_panic, ↓topK_ret, ↓topK_normal, ↓topK_panic, ↓resVs_nil, ↓resVs_tmp, ↓resVs_cell, tup_one, tup_nil, tup_two, put_get, argE_get, ↓takeE_def, ↓heldE_nil, ↓heldE_cons, qNil_pt, qPick_bool, qGrd_bool, qGrd_undef, ↓letK_def, pBox_eq, pBin_add, pBin_sub, pBin_mul, pBin_eql, pBin_neq, pBin_lss, pBin_leq, pBin_gtr, pBin_geq, pUn_not, pUn_neg, eqB, neB, eqS, neS, pExtract0, pExtract1, pExtract2, max_int, min_int, sz_nw, sz_wr, sz_drew, mm_nw, fz_nw, mm_drew, fz_drew, fz_wr, sz_mkS, mm_mkS, fz_mkS, Fr.mkS, mm_wr_same, mm_wr_ne, wr_wr, bs_oneT, splice_full, gt_zero, gt_succ, gt_set, gt_bs, byte_eq0, byte_eq1, byte_n0, byte_n1, Fr.refl, Fr.nw, Fr.wr, Fr.drew, hsp2, hb2, ← hW, -bsl40]
  refine (packRead_spec (K := [117]) (most := 5) (B := [128, 0]) hrW (by omega) (by decide)).call ?_
  rw [read_bad]
  rintro _ w3 ⟨ov2, rfl, _, _, f3⟩
  have g3 := (g2.trans0 fW).trans0 f3
  have h3 : mm w3 (sz w2) = [i64 0, i64 0] := by rw [f3.mm (by omega) (by simp), hW0]
  have s3 : sz w2 < sz w3 := f3.lt (by omega)
  obtain ⟨X, hX⟩ : ∃ X, X = wr (nw w3 [i64 0, i64 0] 44) (sz w3) [i64 4, i64 2] := ⟨_, rfl⟩
  have fX : Fr [] w3 X := by rw [hX]; exact ((Fr.refl [] w3).nw _ _).wr (.inr (Nat.le_refl _)) _
  have hX0 : mm X (sz w3) = [i64 4, i64 2] := by rw [hX]; simp [sz_nw, sz_wr, sz_drew, mm_nw, fz_nw, mm_drew, fz_drew, fz_wr, sz_mkS, mm_mkS, fz_mkS, Fr.mkS, mm_wr_same, mm_wr_ne, wr_wr, bs_oneT, splice_full, gt_zero, gt_succ, gt_set, gt_bs, byte_eq0, byte_eq1, byte_n0, byte_n1, Fr.refl, Fr.nw, Fr.wr, Fr.drew]
  have hsX : sz X = sz w3 + 1 := by rw [hX]; simp [sz_nw, sz_wr, sz_drew, mm_nw, fz_nw, mm_drew, fz_drew, fz_wr, sz_mkS, mm_mkS, fz_mkS, Fr.mkS, mm_wr_same, mm_wr_ne, wr_wr, bs_oneT, splice_full, gt_zero, gt_succ, gt_set, gt_bs, byte_eq0, byte_eq1, byte_n0, byte_n1, Fr.refl, Fr.nw, Fr.wr, Fr.drew]
  try simp (maxDischargeDepth := 8) [↓bindV_some, ↓bindU_some, ↓condE_true, ↓condE_false, ↓pickE_true, ↓pickE_false, ↓pickE_or, ↓pickE_and, ↓grdE_true, ↓grdE_false, ↓grdE_tf, ↓grdE_ft, ↓grdE_undef, ↓nilE_pt, ↓thenK_normal, ↓thenK_exit, ↓thenK_ret, ↓thenK_goto, ↓thenK_panic, ↓blockK_exit, ↓blockK_normal, ↓blockK_ret, ↓blockK_goto, ↓blockK_panic, ↓loopK_normal, ↓loopK_exit, ↓loopK_ret, ↓loopK_goto, ↓loopK_panic, ↓topK_ret, ↓topK_normal, ↓topK_panic, ↓resVs_nil, ↓resVs_tmp, ↓resVs_cell, tup_one, tup_nil, tup_two, put_get, argE_get, ↓takeE_def, ↓heldE_nil, ↓heldE_cons, qNil_pt, qPick_bool, qGrd_bool, qGrd_undef, ↓letK_def, pBox_eq, pBin_add, pBin_sub, pBin_mul, pBin_eql, pBin_neq, pBin_lss, pBin_leq, pBin_gtr, pBin_geq, pUn_not, pUn_neg, eqB, neB, eqS, neS, pExtract0, pExtract1, pExtract2, max_int, min_int, sz_nw, sz_wr, sz_drew, mm_nw, fz_nw, mm_drew, fz_drew, fz_wr, sz_mkS, mm_mkS, fz_mkS, Fr.mkS, mm_wr_same, mm_wr_ne, wr_wr, bs_oneT, splice_full, gt_zero, gt_succ, gt_set, gt_bs, byte_eq0, byte_eq1, byte_n0, byte_n1, Fr.refl, Fr.nw, Fr.wr, Fr.drew, hsp2, ← hX, hsX]
  have fY : Fr [] X (nw X [.slice none 0 0] 58) := (Fr.refl [] X).nw _ _
  have hY := wF0 (w := X)
  rw [hsX] at hY
  refine (wF_spec hY (a := 0) (by decide) (by decide)).call ?_
  rintro _ w4 ⟨rfl, F4, hm4⟩
  have f4 : Fr [] X w4 := fY.trans hm4.fr (fun k hk => .inr (by simp at hk; omega))
  have hk0 : [] ++ placeB (key 0) = [128, 0, 0, 0, 0, 0, 0, 0] := by decide
  rw [hk0] at hm4
  have g4 := (g3.trans0 fX).trans0 f4
  have m4a : mm w4 (sz w2) = [i64 0, i64 0] := by rw [f4.mm (by rw [hsX]; omega) (by simp), fX.mm s3 (by simp), h3]
  have m4b : mm w4 (sz w3) = [i64 4, i64 2] := by rw [f4.mm (by rw [hsX]; omega) (by simp), hX0]
  have hcx : pConv P 40 9 x w4 = some (strB [172, 2, 3, 2, 97, 98, 1], w4) := conv_str sliceE40 intK5 und9 (hrx.fr0 ((((f2.trans0 fW).trans0 f3).trans0 fX).trans0 f4))
  have hovr : RdV w4 ov qL.length (flat partC qL) := (own_rd hov).fr0 (((fW.trans0 f3).trans0 fX).trans0 f4)
  obtain ⟨b1, o1, c1, e1, _⟩ := flat_at hovr (partC_len qL) (by omega) (j := 0) (x := q1) rfl
  have e1' : ov = sl b1 o1 4 c1 := e1
  subst e1'
  obtain ⟨_, i1, t1⟩ := flat_at2 hovr (partC_len qL) (by omega) (j := 0) (x := q1) rfl
  obtain ⟨_, i2, t2⟩ := flat_at2 hovr (partC_len qL) (by omega) (j := 1) (x := q2) rfl
  obtain ⟨_, i3, t3⟩ := flat_at2 hovr (partC_len qL) (by omega) (j := 2) (x := q3) rfl
  obtain ⟨_, i4, t4⟩ := flat_at2 hovr (partC_len qL) (by omega) (j := 3) (x := q4) rfl
  have u1 : gt (mm w4 b1) (o1 + 1) = u64 300 := cell_of t1 (i := 1) (by omega)
  have u2 : gt (mm w4 b1) (o1 + 6 + 2) = i64 (-2) := cell_of t2 (i := 2) (by omega)
  have u3 : gt (mm w4 b1) (o1 + 12 + 4) = strB [97, 98] := cell_of t3 (i := 4) (by omega)
  have u4 : gt (mm w4 b1) (o1 + 18 + 5) = .bool true := cell_of t4 (i := 5) (by omega)
  obtain ⟨N, hN⟩ : ∃ N, N = (mm w4 b1).length := ⟨_, rfl⟩
  have l1 : o1 + 1 < N := by omega
  have l2 : o1 + 6 + 2 < N := by omega
  have l3 : o1 + 12 + 4 < N := by omega
  have l4 : o1 + 18 + 5 < N := by omega
  have ha0 : ∀ w, pIndexAddr P 37 (sl b1 o1 4 c1) (Value.int .i64 0) w = some (pt b1 o1, w) := fun w => ia37 (by omega) (by omega)
  have ha1 : ∀ w, pIndexAddr P 37 (sl b1 o1 4 c1) (Value.int .i64 1) w = some (pt b1 (o1 + 6), w) := fun w => ia37 (by omega) (by omega)
  have ha2 : ∀ w, pIndexAddr P 37 (sl b1 o1 4 c1) (Value.int .i64 2) w = some (pt b1 (o1 + 12), w) := fun w => ia37 (by omega) (by omega)
  have ha3 : ∀ w, pIndexAddr P 37 (sl b1 o1 4 c1) (Value.int .i64 3) w = some (pt b1 (o1 + 18), w) := fun w => ia37 (by omega) (by omega)
  have r1 : pLoad P 25 (pt b1 (o1 + 1)) w4 = some (u64 300, w4) := by rw [ld25 (by rw [← hN]; exact l1), u1]
  have r2 : pLoad P 2 (pt b1 (o1 + 6 + 2)) w4 = some (i64 (-2), w4) := by rw [ld2 (by rw [← hN]; exact l2), u2]
  have r3 : pLoad P 9 (pt b1 (o1 + 12 + 4)) w4 = some (strB [97, 98], w4) := by rw [ld9 (by rw [← hN]; exact l3), u3]
  have r4 : pLoad P 4 (pt b1 (o1 + 18 + 5)) w4 = some (.bool true, w4) := by rw [ld4 (by rw [← hN]; exact l4), u4]
  have s1 : ∀ w, pBin P .eql 9 true (strB [172, 2, 3, 2, 97, 98, 1]) (Value.string { data := #[172, 2, 3, 2, 97, 98, 1] }) w = some (.bool true, w) := fun w => eq_strB (l := [172, 2, 3, 2, 97, 98, 1]) (m := [172, 2, 3, 2, 97, 98, 1])
  have s2 : ∀ w, pBin P .eql 9 true (strB [97, 98]) (Value.string { data := #[97, 98] }) w = some (.bool true, w) := fun w => eq_strB (l := [97, 98]) (m := [97, 98])
  have b42 : ∀ w, pBuild P 44 [(0, Value.int .i64 4), (1, Value.int .i64 2)] w = some (.agg #[i64 4, i64 2], w) := fun w => by rw [bf44 (by simp)]; rfl
  have hlo : pBuiltin P .len #[37] 3 [sl b1 o1 4 c1] w4 = some (i64 4, w4) := len37
  have hfe : ∀ (a b c d : Int) w, pBin P .eql 44 false (.agg #[i64 a, i64 b]) (.agg #[i64 c, i64 d]) w = some (.bool (decide (a = c) && decide (b = d)), w) := fun a b c d w => eqFault
  try simp (maxDischargeDepth := 8) [↓bindV_some, ↓bindU_some, ↓condE_true, ↓condE_false, ↓pickE_true, ↓pickE_false, ↓pickE_or, ↓pickE_and, ↓grdE_true, ↓grdE_false, ↓grdE_tf, ↓grdE_ft, ↓grdE_undef, ↓nilE_pt, ↓thenK_normal, ↓thenK_exit, ↓thenK_ret, ↓thenK_goto, ↓thenK_panic, ↓blockK_exit, ↓blockK_normal, ↓blockK_ret, ↓blockK_goto, ↓blockK_panic, ↓loopK_normal, ↓loopK_exit, ↓loopK_ret, ↓loopK_goto, ↓loopK_panic, ↓topK_ret, ↓topK_normal, ↓topK_panic, ↓resVs_nil, ↓resVs_tmp, ↓resVs_cell, tup_one, tup_nil, tup_two, put_get, argE_get, ↓takeE_def, ↓heldE_nil, ↓heldE_cons, qNil_pt, qPick_bool, qGrd_bool, qGrd_undef, ↓letK_def, pBox_eq, pBin_add, pBin_sub, pBin_mul, pBin_eql, pBin_neq, pBin_lss, pBin_leq, pBin_gtr, pBin_geq, pUn_not, pUn_neg, eqB, neB, eqS, neS, pExtract0, pExtract1, pExtract2, max_int, min_int, sz_nw, sz_wr, sz_drew, mm_nw, fz_nw, mm_drew, fz_drew, fz_wr, sz_mkS, mm_mkS, fz_mkS, Fr.mkS, mm_wr_same, mm_wr_ne, wr_wr, bs_oneT, splice_full, gt_zero, gt_succ, gt_set, gt_bs, byte_eq0, byte_eq1, byte_n0, byte_n1, Fr.refl, Fr.nw, Fr.wr, Fr.drew, hcx, s1, m4a, m4b, hfe, hlo, ha0, ha1, ha2, ha3, r1, r2, r3, r4, s2, b42]
  refine (wLen_spec hm4.is).call ?_
  rintro _ w5 ⟨rfl, f5⟩
  try simp (maxDischargeDepth := 8) [↓bindV_some, ↓bindU_some, ↓condE_true, ↓condE_false, ↓pickE_true, ↓pickE_false, ↓pickE_or, ↓pickE_and, ↓grdE_true, ↓grdE_false, ↓grdE_tf, ↓grdE_ft, ↓grdE_undef, ↓nilE_pt, ↓thenK_normal, ↓thenK_exit, ↓thenK_ret, ↓thenK_goto, ↓thenK_panic, ↓blockK_exit, ↓blockK_normal, ↓blockK_ret, ↓blockK_goto, ↓blockK_panic, ↓loopK_normal, ↓loopK_exit, ↓loopK_ret, ↓loopK_goto, ↓loopK_panic, ↓topK_ret, ↓topK_normal, ↓topK_panic, ↓resVs_nil, ↓resVs_tmp, ↓resVs_cell, tup_one, tup_nil, tup_two, put_get, argE_get, ↓takeE_def, ↓heldE_nil, ↓heldE_cons, qNil_pt, qPick_bool, qGrd_bool, qGrd_undef, ↓letK_def, pBox_eq, pBin_add, pBin_sub, pBin_mul, pBin_eql, pBin_neq, pBin_lss, pBin_leq, pBin_gtr, pBin_geq, pUn_not, pUn_neg, eqB, neB, eqS, neS, pExtract0, pExtract1, pExtract2, max_int, min_int, sz_nw, sz_wr, sz_drew, mm_nw, fz_nw, mm_drew, fz_drew, fz_wr, sz_mkS, mm_mkS, fz_mkS, Fr.mkS, mm_wr_same, mm_wr_ne, wr_wr, bs_oneT, splice_full, gt_zero, gt_succ, gt_set, gt_bs, byte_eq0, byte_eq1, byte_n0, byte_n1, Fr.refl, Fr.nw, Fr.wr, Fr.drew]
  refine (wBytes_spec (hm4.is.fr0 f5) (by decide)).call ?_
  rintro y w6 ⟨hy, f6⟩
  obtain ⟨yb, yo, yc, hyv, hy1, hy2⟩ := rd_cell (own_rd hy) (i := 0) (by decide)
  have hyv' : y = sl yb yo 8 yc := hyv
  subst hyv'
  have hi0 : ∀ w, pIndexAddr P 40 (sl yb yo 8 yc) (Value.int .i64 0) w = some (pt yb (yo + 0), w) := fun w => ia40 (by omega) (by omega)
  have hl0 : pLoad P 5 (pt yb (yo + 0)) w6 = some (bv 128, w6) := by rw [ld5 hy1, hy2]; rfl
  rw [Nat.add_zero] at hl0
  try simp (maxDischargeDepth := 8) [↓bindV_some, ↓bindU_some, ↓condE_true, ↓condE_false, ↓pickE_true, ↓pickE_false, ↓pickE_or, ↓pickE_and, ↓grdE_true, ↓grdE_false, ↓grdE_tf, ↓grdE_ft, ↓grdE_undef, ↓nilE_pt, ↓thenK_normal, ↓thenK_exit, ↓thenK_ret, ↓thenK_goto, ↓thenK_panic, ↓blockK_exit, ↓blockK_normal, ↓blockK_ret, ↓blockK_goto, ↓blockK_panic, ↓loopK_normal, ↓loopK_exit, ↓loopK_ret, ↓loopK_goto, ↓loopK_panic, ↓topK_ret, ↓topK_normal, ↓topK_panic, ↓resVs_nil, ↓resVs_tmp, ↓resVs_cell, tup_one, tup_nil, tup_two, put_get, argE_get, ↓takeE_def, ↓heldE_nil, ↓heldE_cons, qNil_pt, qPick_bool, qGrd_bool, qGrd_undef, ↓letK_def, pBox_eq, pBin_add, pBin_sub, pBin_mul, pBin_eql, pBin_neq, pBin_lss, pBin_leq, pBin_gtr, pBin_geq, pUn_not, pUn_neg, eqB, neB, eqS, neS, pExtract0, pExtract1, pExtract2, max_int, min_int, sz_nw, sz_wr, sz_drew, mm_nw, fz_nw, mm_drew, fz_drew, fz_wr, sz_mkS, mm_mkS, fz_mkS, Fr.mkS, mm_wr_same, mm_wr_ne, wr_wr, bs_oneT, splice_full, gt_zero, gt_succ, gt_set, gt_bs, byte_eq0, byte_eq1, byte_n0, byte_n1, Fr.refl, Fr.nw, Fr.wr, Fr.drew, hi0, hl0]
  exact (g4.trans0 f5).trans0 f6
end Go.Proofs.Ytfmcplkijjndlaa
