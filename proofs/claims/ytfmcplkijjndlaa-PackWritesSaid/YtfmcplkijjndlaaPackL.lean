/- The statements' own helpers: kinds, plain, same. -/
import Derived.Test.YtfmcplkijjndlaaPackF4
import Derived.Test.YtfmcplkijjndlaaWLaw02
set_option linter.unusedVariables false
set_option linter.unusedSimpArgs false
namespace Go.Proofs.Ytfmcplkijjndlaa
open Go

def okKind (k : UInt8) : Prop := k = 117 ∨ k = 105 ∨ k = 102 ∨ k = 115 ∨ k = 98
def Good (L : List PartP) : Prop := L.length ≤ 40 ∧ ∀ p ∈ L, okKind p.kind ∧ p.s.length ≤ 1000
def KiI (w : World) (v : Value) (L : List PartP) (m : Nat) (e : Env) (w' : World) : Prop :=
  ∃ j : Nat, m = L.length - j ∧ j ≤ L.length ∧ Fr [] w w' ∧ (∀ p ∈ L.take j, okKind p.kind ∧ p.s.length ≤ 1000) ∧ e 4 = strB ((L.take j).map (·.kind)) ∧ e 10 = v ∧ e 11 = i64 L.length ∧ e 12 = i64 j
def KindsR (w : World) (L : List PartP) (r : Value) (w' : World) : Prop :=
  ∃ K b, r = .tuple #[strB K, .bool b] ∧ (b = true → K = L.map (·.kind) ∧ Good L) ∧ Fr [] w w'
theorem strB_nil : Value.string { data := #[] } = strB [] := rfl
theorem kinds_spec {w : World} {v : Value} {L : List PartP} (h : IsParts w v L) : Ret P 40 #[v] w fun r w' => KindsR w L r w' := by
  refine F40ok ?_
  unfold F40
  obtain ⟨va, vc, hv⟩ := sl_of h.1
  subst hv
  by_cases h40 : 40 < L.length
  · have c1 : ((40 : Int) < L.length) = True := eq_true (by omega)
    try simp (maxDischargeDepth := 8) [↓bindV_some, ↓bindU_some, ↓condE_true, ↓condE_false, ↓pickE_true, ↓pickE_false, ↓pickE_or, ↓pickE_and, ↓grdE_true, ↓grdE_false, ↓grdE_tf, ↓grdE_ft, ↓grdE_undef, ↓nilE_pt, ↓thenK_normal, ↓thenK_exit, ↓thenK_ret, ↓thenK_goto, ↓thenK_panic, ↓blockK_exit, ↓blockK_normal, ↓blockK_ret, ↓blockK_goto, ↓blockK_panic, ↓loopK_normal, ↓loopK_exit, ↓loopK_ret, ↓loopK_goto, ↓loopK_panic, ↓topK_ret, ↓topK_normal, ↓topK_panic, ↓resVs_nil, ↓resVs_tmp, ↓resVs_cell, tup_one, tup_nil, tup_two, put_get, argE_get, ↓takeE_def, ↓heldE_nil, ↓heldE_cons, qNil_pt, qPick_bool, qGrd_bool, qGrd_undef, ↓letK_def, pBox_eq, pBin_add, pBin_sub, pBin_mul, pBin_eql, pBin_neq, pBin_lss, pBin_leq, pBin_gtr, pBin_geq, pUn_not, pUn_neg, eqB, neB, eqS, neS, pExtract0, pExtract1, pExtract2, max_int, min_int, sz_nw, sz_wr, sz_drew, mm_nw, fz_nw, mm_drew, fz_drew, fz_wr, sz_mkS, mm_mkS, fz_mkS, Fr.mkS, mm_wr_same, mm_wr_ne, wr_wr, bs_oneT, splice_full, gt_zero, gt_succ, gt_set, gt_bs, byte_eq0, byte_eq1, byte_n0, byte_n1, Fr.refl, Fr.nw, Fr.wr, Fr.drew, c1, h40]
    exact ⟨[], false, rfl, by simp, Fr.refl _ _⟩
  have c1 : ((40 : Int) < L.length) = False := eq_false (by omega)
  have c1' : (40 < L.length) = False := eq_false h40
  try simp (maxDischargeDepth := 8) [↓bindV_some, ↓bindU_some, ↓condE_true, ↓condE_false, ↓pickE_true, ↓pickE_false, ↓pickE_or, ↓pickE_and, ↓grdE_true, ↓grdE_false, ↓grdE_tf, ↓grdE_ft, ↓grdE_undef, ↓nilE_pt, ↓thenK_normal, ↓thenK_exit, ↓thenK_ret, ↓thenK_goto, ↓thenK_panic, ↓blockK_exit, ↓blockK_normal, ↓blockK_ret, ↓blockK_goto, ↓blockK_panic, ↓loopK_normal, ↓loopK_exit, ↓loopK_ret, ↓loopK_goto, ↓loopK_panic, ↓topK_ret, ↓topK_normal, ↓topK_panic, ↓resVs_nil, ↓resVs_tmp, ↓resVs_cell, tup_one, tup_nil, tup_two, put_get, argE_get, ↓takeE_def, ↓heldE_nil, ↓heldE_cons, qNil_pt, qPick_bool, qGrd_bool, qGrd_undef, ↓letK_def, pBox_eq, pBin_add, pBin_sub, pBin_mul, pBin_eql, pBin_neq, pBin_lss, pBin_leq, pBin_gtr, pBin_geq, pUn_not, pUn_neg, eqB, neB, eqS, neS, pExtract0, pExtract1, pExtract2, max_int, min_int, sz_nw, sz_wr, sz_drew, mm_nw, fz_nw, mm_drew, fz_drew, fz_wr, sz_mkS, mm_mkS, fz_mkS, Fr.mkS, mm_wr_same, mm_wr_ne, wr_wr, bs_oneT, splice_full, gt_zero, gt_succ, gt_set, gt_bs, byte_eq0, byte_eq1, byte_n0, byte_n1, Fr.refl, Fr.nw, Fr.wr, Fr.drew, c1, c1']
  refine loopE_of (KiI w (.slice va L.length vc) L) L.length ⟨0, by omega, by omega, Fr.refl _ _, by simp, by simp [put_get, strB_nil], by simp [put_get, argE_get], by simp [put_get], by simp [put_get]⟩ ?_
  rintro m e w1 ⟨j, hm, hj, hf, hok, e4, e10, e11, e12⟩
  subst hm
  unfold F40B0
  by_cases hjl : j < L.length
  · have hji : (j : Int) < L.length := by omega
    obtain ⟨p, hp⟩ : ∃ p, L[j]? = some p := ⟨_, List.getElem?_eq_getElem hjl⟩
    obtain ⟨pb, po, pc, hv2, hpb, hin, htk⟩ := flat_at (h.fr0 hf).1 (partC_len L) (by omega) hp
    simp only [Value.slice.injEq] at hv2
    obtain ⟨rfl, _, rfl⟩ := hv2
    have hwj : IntKind.i64.wrap ((j : Int) + 1) = ((j + 1 : Nat) : Int) := wrap64 (by omega) (by omega)
    obtain ⟨j1, hj1⟩ : ∃ j1 : Int, j1 = ((j + 1 : Nat) : Int) := ⟨_, rfl⟩
    rw [← hj1] at hwj
    have hs6 : ∀ l : List Value, l.length = 6 → splice l 0 (partC p) = partC p := fun l hl => splice_full (by rw [hl]; rfl)
    have hone := partC_oneT p
    have hol : (partC p).length = 6 := rfl
    have g0 : gt (partC p) 0 = bv p.kind := rfl
    have g4 : gt (partC p) 4 = strB p.s := rfl
    obtain ⟨z, hz⟩ : ∃ z : List Value, z = [Value.int IntKind.u8 0, Value.int IntKind.u64 0, Value.int IntKind.i64 0, Value.float FloatKind.f64 0, Value.string ByteArray.empty, Value.bool false] := ⟨_, rfl⟩
    obtain ⟨W, hW⟩ : ∃ W, W = wr (nw w1 z 60) (sz w1) (partC p) := ⟨_, rfl⟩
    have hfW : Fr [] w1 W := by rw [hW]; exact ((Fr.refl [] w1).nw _ _).wr (.inr (Nat.le_refl _)) _
    have hmW : mm W (sz w1) = partC p := by rw [hW, mm_wr_same (by simp [sz_nw, sz_wr, sz_drew, mm_nw, fz_nw, mm_drew, fz_drew, fz_wr, sz_mkS, mm_mkS, fz_mkS, Fr.mkS, mm_wr_same, mm_wr_ne, wr_wr, bs_oneT, splice_full, gt_zero, gt_succ, gt_set, gt_bs, byte_eq0, byte_eq1, byte_n0, byte_n1, Fr.refl, Fr.nw, Fr.wr, Fr.drew])]
    have hfWw := hf.trans0 hfW
    have hzl : z.length = 6 := by rw [hz]; rfl
    have hlen : ∀ w, pBuiltin P .len #[9] 3 [strB p.s] w = some (i64 p.s.length, w) := fun w => len_strB und9
    have htake : (L.take (j + 1)).map (·.kind) = (L.take j).map (·.kind) ++ [p.kind] := by rw [List.take_add_one, hp]; simp
    have hnext : okKind p.kind → p.s.length ≤ 1000 → ∀ q ∈ L.take (j + 1), okKind q.kind ∧ q.s.length ≤ 1000 := fun h1 h2 q hq => by
      rw [List.take_add_one, hp] at hq
      rcases List.mem_append.1 hq with hq | hq
      · exact hok q hq
      · simp only [Option.toList_some, List.mem_cons, List.not_mem_nil, or_false] at hq
        subst hq; exact ⟨h1, h2⟩
    have hcat : ∀ w, pBin P .add 9 false (strB ((L.take j).map (·.kind))) (strB [p.kind]) w = some (strB ((L.take (j + 1)).map (·.kind)), w) := fun w => by
      rw [htake]; exact cat_strB (by simp; omega)
    generalize hK : (L.take j).map (·.kind) = K at *
    generalize hK2 : (L.take (j + 1)).map (·.kind) = K2 at *
    have hialv : ∀ w', pIndexAddr P 37 (sl pb po L.length vc) (i64 j) w' = some (pt pb (po + j * 6), w') := fun w' => by
      have := ia37 (w := w') (b := pb) (o := po) (n := L.length) (c := vc) (k := .i64) (j := (j : Int)) (by omega) (by omega)
      rw [this]; simp
    try simp only [al60, ← hz]
    try simp (maxDischargeDepth := 8) [↓bindV_some, ↓bindU_some, ↓condE_true, ↓condE_false, ↓pickE_true, ↓pickE_false, ↓pickE_or, ↓pickE_and, ↓grdE_true, ↓grdE_false, ↓grdE_tf, ↓grdE_ft, ↓grdE_undef, ↓nilE_pt, ↓thenK_normal, ↓thenK_exit, ↓thenK_ret, ↓thenK_goto, ↓thenK_panic, ↓blockK_exit, ↓blockK_normal, ↓blockK_ret, ↓blockK_goto, ↓blockK_panic, ↓loopK_normal, ↓loopK_exit, ↓loopK_ret, ↓loopK_goto, ↓loopK_panic, ↓topK_ret, ↓topK_normal, ↓topK_panic, ↓resVs_nil, ↓resVs_tmp, ↓resVs_cell, tup_one, tup_nil, tup_two, put_get, argE_get, ↓takeE_def, ↓heldE_nil, ↓heldE_cons, qNil_pt, qPick_bool, qGrd_bool, qGrd_undef, ↓letK_def, pBox_eq, pBin_add, pBin_sub, pBin_mul, pBin_eql, pBin_neq, pBin_lss, pBin_leq, pBin_gtr, pBin_geq, pUn_not, pUn_neg, eqB, neB, eqS, neS, pExtract0, pExtract1, pExtract2, max_int, min_int, sz_nw, sz_wr, sz_drew, mm_nw, fz_nw, mm_drew, fz_drew, fz_wr, sz_mkS, mm_mkS, fz_mkS, Fr.mkS, mm_wr_same, mm_wr_ne, wr_wr, bs_oneT, splice_full, gt_zero, gt_succ, gt_set, gt_bs, byte_eq0, byte_eq1, byte_n0, byte_n1, Fr.refl, Fr.nw, Fr.wr, Fr.drew, e10, e11, e12, hji, hjl, hialv, hin, htk, hzl, hs6, hone, hol, ← hW, hmW, g0, ki117, ki105, ki102, ki115, ki98]
    by_cases k117 : p.kind = 117
    · have kt : (p.kind = 117) = True := eq_true k117
      have hcv : ∀ w, pConv P 5 21 (bv p.kind) w = some (.int .i32 117, w) := fun w => by rw [k117, pConv_int tyOk5 intK21]; rfl
      have hru : ∀ w, pConv P 21 9 (.int .i32 117) w = some (strB [p.kind], w) := fun w => by rw [k117]; exact rune_strB (by rw [und21]; rfl) und9 (by decide)
      by_cases hs : 1000 < p.s.length
      · have d1 : ((1000 : Int) < p.s.length) = True := eq_true (by omega)
        try simp (maxDischargeDepth := 8) [↓bindV_some, ↓bindU_some, ↓condE_true, ↓condE_false, ↓pickE_true, ↓pickE_false, ↓pickE_or, ↓pickE_and, ↓grdE_true, ↓grdE_false, ↓grdE_tf, ↓grdE_ft, ↓grdE_undef, ↓nilE_pt, ↓thenK_normal, ↓thenK_exit, ↓thenK_ret, ↓thenK_goto, ↓thenK_panic, ↓blockK_exit, ↓blockK_normal, ↓blockK_ret, ↓blockK_goto, ↓blockK_panic, ↓loopK_normal, ↓loopK_exit, ↓loopK_ret, ↓loopK_goto, ↓loopK_panic, ↓topK_ret, ↓topK_normal, ↓topK_panic, ↓resVs_nil, ↓resVs_tmp, ↓resVs_cell, tup_one, tup_nil, tup_two, put_get, argE_get, ↓takeE_def, ↓heldE_nil, ↓heldE_cons, qNil_pt, qPick_bool, qGrd_bool, qGrd_undef, ↓letK_def, pBox_eq, pBin_add, pBin_sub, pBin_mul, pBin_eql, pBin_neq, pBin_lss, pBin_leq, pBin_gtr, pBin_geq, pUn_not, pUn_neg, eqB, neB, eqS, neS, pExtract0, pExtract1, pExtract2, max_int, min_int, sz_nw, sz_wr, sz_drew, mm_nw, fz_nw, mm_drew, fz_drew, fz_wr, sz_mkS, mm_mkS, fz_mkS, Fr.mkS, mm_wr_same, mm_wr_ne, wr_wr, bs_oneT, splice_full, gt_zero, gt_succ, gt_set, gt_bs, byte_eq0, byte_eq1, byte_n0, byte_n1, Fr.refl, Fr.nw, Fr.wr, Fr.drew, kt, e4, e12, hcv, hru, hcat, hmW, hol, g0, g4, hlen, d1, hs]
        exact ⟨[], false, rfl, by simp, hfWw⟩
      · have d1 : ((1000 : Int) < p.s.length) = False := eq_false (by omega)
        have d2 : (1000 < p.s.length) = False := eq_false hs
        try simp (maxDischargeDepth := 8) [↓bindV_some, ↓bindU_some, ↓condE_true, ↓condE_false, ↓pickE_true, ↓pickE_false, ↓pickE_or, ↓pickE_and, ↓grdE_true, ↓grdE_false, ↓grdE_tf, ↓grdE_ft, ↓grdE_undef, ↓nilE_pt, ↓thenK_normal, ↓thenK_exit, ↓thenK_ret, ↓thenK_goto, ↓thenK_panic, ↓blockK_exit, ↓blockK_normal, ↓blockK_ret, ↓blockK_goto, ↓blockK_panic, ↓loopK_normal, ↓loopK_exit, ↓loopK_ret, ↓loopK_goto, ↓loopK_panic, ↓topK_ret, ↓topK_normal, ↓topK_panic, ↓resVs_nil, ↓resVs_tmp, ↓resVs_cell, tup_one, tup_nil, tup_two, put_get, argE_get, ↓takeE_def, ↓heldE_nil, ↓heldE_cons, qNil_pt, qPick_bool, qGrd_bool, qGrd_undef, ↓letK_def, pBox_eq, pBin_add, pBin_sub, pBin_mul, pBin_eql, pBin_neq, pBin_lss, pBin_leq, pBin_gtr, pBin_geq, pUn_not, pUn_neg, eqB, neB, eqS, neS, pExtract0, pExtract1, pExtract2, max_int, min_int, sz_nw, sz_wr, sz_drew, mm_nw, fz_nw, mm_drew, fz_drew, fz_wr, sz_mkS, mm_mkS, fz_mkS, Fr.mkS, mm_wr_same, mm_wr_ne, wr_wr, bs_oneT, splice_full, gt_zero, gt_succ, gt_set, gt_bs, byte_eq0, byte_eq1, byte_n0, byte_n1, Fr.refl, Fr.nw, Fr.wr, Fr.drew, kt, e4, e12, hcv, hru, hcat, hmW, hol, g0, g4, hlen, d1, d2, hwj]
        exact ⟨L.length - (j + 1), by omega, j + 1, rfl, by omega, hfWw, hnext (by unfold okKind; simp [k117]) (by omega), by simp [put_get, hK2], by simp [put_get, e10], by simp [put_get, e11], by simp [put_get, hj1]⟩
    by_cases k105 : p.kind = 105
    · have kt : (p.kind = 105) = True := eq_true k105
      have hcv : ∀ w, pConv P 5 21 (bv p.kind) w = some (.int .i32 105, w) := fun w => by rw [k105, pConv_int tyOk5 intK21]; rfl
      have hru : ∀ w, pConv P 21 9 (.int .i32 105) w = some (strB [p.kind], w) := fun w => by rw [k105]; exact rune_strB (by rw [und21]; rfl) und9 (by decide)
      by_cases hs : 1000 < p.s.length
      · have d1 : ((1000 : Int) < p.s.length) = True := eq_true (by omega)
        try simp (maxDischargeDepth := 8) [↓bindV_some, ↓bindU_some, ↓condE_true, ↓condE_false, ↓pickE_true, ↓pickE_false, ↓pickE_or, ↓pickE_and, ↓grdE_true, ↓grdE_false, ↓grdE_tf, ↓grdE_ft, ↓grdE_undef, ↓nilE_pt, ↓thenK_normal, ↓thenK_exit, ↓thenK_ret, ↓thenK_goto, ↓thenK_panic, ↓blockK_exit, ↓blockK_normal, ↓blockK_ret, ↓blockK_goto, ↓blockK_panic, ↓loopK_normal, ↓loopK_exit, ↓loopK_ret, ↓loopK_goto, ↓loopK_panic, ↓topK_ret, ↓topK_normal, ↓topK_panic, ↓resVs_nil, ↓resVs_tmp, ↓resVs_cell, tup_one, tup_nil, tup_two, put_get, argE_get, ↓takeE_def, ↓heldE_nil, ↓heldE_cons, qNil_pt, qPick_bool, qGrd_bool, qGrd_undef, ↓letK_def, pBox_eq, pBin_add, pBin_sub, pBin_mul, pBin_eql, pBin_neq, pBin_lss, pBin_leq, pBin_gtr, pBin_geq, pUn_not, pUn_neg, eqB, neB, eqS, neS, pExtract0, pExtract1, pExtract2, max_int, min_int, sz_nw, sz_wr, sz_drew, mm_nw, fz_nw, mm_drew, fz_drew, fz_wr, sz_mkS, mm_mkS, fz_mkS, Fr.mkS, mm_wr_same, mm_wr_ne, wr_wr, bs_oneT, splice_full, gt_zero, gt_succ, gt_set, gt_bs, byte_eq0, byte_eq1, byte_n0, byte_n1, Fr.refl, Fr.nw, Fr.wr, Fr.drew, kt, k117, e4, e12, hcv, hru, hcat, hmW, hol, g0, g4, hlen, d1, hs]
        exact ⟨[], false, rfl, by simp, hfWw⟩
      · have d1 : ((1000 : Int) < p.s.length) = False := eq_false (by omega)
        have d2 : (1000 < p.s.length) = False := eq_false hs
        try simp (maxDischargeDepth := 8) [↓bindV_some, ↓bindU_some, ↓condE_true, ↓condE_false, ↓pickE_true, ↓pickE_false, ↓pickE_or, ↓pickE_and, ↓grdE_true, ↓grdE_false, ↓grdE_tf, ↓grdE_ft, ↓grdE_undef, ↓nilE_pt, ↓thenK_normal, ↓thenK_exit, ↓thenK_ret, ↓thenK_goto, ↓thenK_panic, ↓blockK_exit, ↓blockK_normal, ↓blockK_ret, ↓blockK_goto, ↓blockK_panic, ↓loopK_normal, ↓loopK_exit, ↓loopK_ret, ↓loopK_goto, ↓loopK_panic, ↓topK_ret, ↓topK_normal, ↓topK_panic, ↓resVs_nil, ↓resVs_tmp, ↓resVs_cell, tup_one, tup_nil, tup_two, put_get, argE_get, ↓takeE_def, ↓heldE_nil, ↓heldE_cons, qNil_pt, qPick_bool, qGrd_bool, qGrd_undef, ↓letK_def, pBox_eq, pBin_add, pBin_sub, pBin_mul, pBin_eql, pBin_neq, pBin_lss, pBin_leq, pBin_gtr, pBin_geq, pUn_not, pUn_neg, eqB, neB, eqS, neS, pExtract0, pExtract1, pExtract2, max_int, min_int, sz_nw, sz_wr, sz_drew, mm_nw, fz_nw, mm_drew, fz_drew, fz_wr, sz_mkS, mm_mkS, fz_mkS, Fr.mkS, mm_wr_same, mm_wr_ne, wr_wr, bs_oneT, splice_full, gt_zero, gt_succ, gt_set, gt_bs, byte_eq0, byte_eq1, byte_n0, byte_n1, Fr.refl, Fr.nw, Fr.wr, Fr.drew, kt, k117, e4, e12, hcv, hru, hcat, hmW, hol, g0, g4, hlen, d1, d2, hwj]
        exact ⟨L.length - (j + 1), by omega, j + 1, rfl, by omega, hfWw, hnext (by unfold okKind; simp [k105]) (by omega), by simp [put_get, hK2], by simp [put_get, e10], by simp [put_get, e11], by simp [put_get, hj1]⟩
    by_cases k102 : p.kind = 102
    · have kt : (p.kind = 102) = True := eq_true k102
      have hcv : ∀ w, pConv P 5 21 (bv p.kind) w = some (.int .i32 102, w) := fun w => by rw [k102, pConv_int tyOk5 intK21]; rfl
      have hru : ∀ w, pConv P 21 9 (.int .i32 102) w = some (strB [p.kind], w) := fun w => by rw [k102]; exact rune_strB (by rw [und21]; rfl) und9 (by decide)
      by_cases hs : 1000 < p.s.length
      · have d1 : ((1000 : Int) < p.s.length) = True := eq_true (by omega)
        try simp (maxDischargeDepth := 8) [↓bindV_some, ↓bindU_some, ↓condE_true, ↓condE_false, ↓pickE_true, ↓pickE_false, ↓pickE_or, ↓pickE_and, ↓grdE_true, ↓grdE_false, ↓grdE_tf, ↓grdE_ft, ↓grdE_undef, ↓nilE_pt, ↓thenK_normal, ↓thenK_exit, ↓thenK_ret, ↓thenK_goto, ↓thenK_panic, ↓blockK_exit, ↓blockK_normal, ↓blockK_ret, ↓blockK_goto, ↓blockK_panic, ↓loopK_normal, ↓loopK_exit, ↓loopK_ret, ↓loopK_goto, ↓loopK_panic, ↓topK_ret, ↓topK_normal, ↓topK_panic, ↓resVs_nil, ↓resVs_tmp, ↓resVs_cell, tup_one, tup_nil, tup_two, put_get, argE_get, ↓takeE_def, ↓heldE_nil, ↓heldE_cons, qNil_pt, qPick_bool, qGrd_bool, qGrd_undef, ↓letK_def, pBox_eq, pBin_add, pBin_sub, pBin_mul, pBin_eql, pBin_neq, pBin_lss, pBin_leq, pBin_gtr, pBin_geq, pUn_not, pUn_neg, eqB, neB, eqS, neS, pExtract0, pExtract1, pExtract2, max_int, min_int, sz_nw, sz_wr, sz_drew, mm_nw, fz_nw, mm_drew, fz_drew, fz_wr, sz_mkS, mm_mkS, fz_mkS, Fr.mkS, mm_wr_same, mm_wr_ne, wr_wr, bs_oneT, splice_full, gt_zero, gt_succ, gt_set, gt_bs, byte_eq0, byte_eq1, byte_n0, byte_n1, Fr.refl, Fr.nw, Fr.wr, Fr.drew, kt, k117, k105, e4, e12, hcv, hru, hcat, hmW, hol, g0, g4, hlen, d1, hs]
        exact ⟨[], false, rfl, by simp, hfWw⟩
      · have d1 : ((1000 : Int) < p.s.length) = False := eq_false (by omega)
        have d2 : (1000 < p.s.length) = False := eq_false hs
        try simp (maxDischargeDepth := 8) [↓bindV_some, ↓bindU_some, ↓condE_true, ↓condE_false, ↓pickE_true, ↓pickE_false, ↓pickE_or, ↓pickE_and, ↓grdE_true, ↓grdE_false, ↓grdE_tf, ↓grdE_ft, ↓grdE_undef, ↓nilE_pt, ↓thenK_normal, ↓thenK_exit, ↓thenK_ret, ↓thenK_goto, ↓thenK_panic, ↓blockK_exit, ↓blockK_normal, ↓blockK_ret, ↓blockK_goto, ↓blockK_panic, ↓loopK_normal, ↓loopK_exit, ↓loopK_ret, ↓loopK_goto, ↓loopK_panic, ↓topK_ret, ↓topK_normal, ↓topK_panic, ↓resVs_nil, ↓resVs_tmp, ↓resVs_cell, tup_one, tup_nil, tup_two, put_get, argE_get, ↓takeE_def, ↓heldE_nil, ↓heldE_cons, qNil_pt, qPick_bool, qGrd_bool, qGrd_undef, ↓letK_def, pBox_eq, pBin_add, pBin_sub, pBin_mul, pBin_eql, pBin_neq, pBin_lss, pBin_leq, pBin_gtr, pBin_geq, pUn_not, pUn_neg, eqB, neB, eqS, neS, pExtract0, pExtract1, pExtract2, max_int, min_int, sz_nw, sz_wr, sz_drew, mm_nw, fz_nw, mm_drew, fz_drew, fz_wr, sz_mkS, mm_mkS, fz_mkS, Fr.mkS, mm_wr_same, mm_wr_ne, wr_wr, bs_oneT, splice_full, gt_zero, gt_succ, gt_set, gt_bs, byte_eq0, byte_eq1, byte_n0, byte_n1, Fr.refl, Fr.nw, Fr.wr, Fr.drew, kt, k117, k105, e4, e12, hcv, hru, hcat, hmW, hol, g0, g4, hlen, d1, d2, hwj]
        exact ⟨L.length - (j + 1), by omega, j + 1, rfl, by omega, hfWw, hnext (by unfold okKind; simp [k102]) (by omega), by simp [put_get, hK2], by simp [put_get, e10], by simp [put_get, e11], by simp [put_get, hj1]⟩
    by_cases k115 : p.kind = 115
    · have kt : (p.kind = 115) = True := eq_true k115
      have hcv : ∀ w, pConv P 5 21 (bv p.kind) w = some (.int .i32 115, w) := fun w => by rw [k115, pConv_int tyOk5 intK21]; rfl
      have hru : ∀ w, pConv P 21 9 (.int .i32 115) w = some (strB [p.kind], w) := fun w => by rw [k115]; exact rune_strB (by rw [und21]; rfl) und9 (by decide)
      by_cases hs : 1000 < p.s.length
      · have d1 : ((1000 : Int) < p.s.length) = True := eq_true (by omega)
        try simp (maxDischargeDepth := 8) [↓bindV_some, ↓bindU_some, ↓condE_true, ↓condE_false, ↓pickE_true, ↓pickE_false, ↓pickE_or, ↓pickE_and, ↓grdE_true, ↓grdE_false, ↓grdE_tf, ↓grdE_ft, ↓grdE_undef, ↓nilE_pt, ↓thenK_normal, ↓thenK_exit, ↓thenK_ret, ↓thenK_goto, ↓thenK_panic, ↓blockK_exit, ↓blockK_normal, ↓blockK_ret, ↓blockK_goto, ↓blockK_panic, ↓loopK_normal, ↓loopK_exit, ↓loopK_ret, ↓loopK_goto, ↓loopK_panic, ↓topK_ret, ↓topK_normal, ↓topK_panic, ↓resVs_nil, ↓resVs_tmp, ↓resVs_cell, tup_one, tup_nil, tup_two, put_get, argE_get, ↓takeE_def, ↓heldE_nil, ↓heldE_cons, qNil_pt, qPick_bool, qGrd_bool, qGrd_undef, ↓letK_def, pBox_eq, pBin_add, pBin_sub, pBin_mul, pBin_eql, pBin_neq, pBin_lss, pBin_leq, pBin_gtr, pBin_geq, pUn_not, pUn_neg, eqB, neB, eqS, neS, pExtract0, pExtract1, pExtract2, max_int, min_int, sz_nw, sz_wr, sz_drew, mm_nw, fz_nw, mm_drew, fz_drew, fz_wr, sz_mkS, mm_mkS, fz_mkS, Fr.mkS, mm_wr_same, mm_wr_ne, wr_wr, bs_oneT, splice_full, gt_zero, gt_succ, gt_set, gt_bs, byte_eq0, byte_eq1, byte_n0, byte_n1, Fr.refl, Fr.nw, Fr.wr, Fr.drew, kt, k117, k105, k102, e4, e12, hcv, hru, hcat, hmW, hol, g0, g4, hlen, d1, hs]
        exact ⟨[], false, rfl, by simp, hfWw⟩
      · have d1 : ((1000 : Int) < p.s.length) = False := eq_false (by omega)
        have d2 : (1000 < p.s.length) = False := eq_false hs
        try simp (maxDischargeDepth := 8) [↓bindV_some, ↓bindU_some, ↓condE_true, ↓condE_false, ↓pickE_true, ↓pickE_false, ↓pickE_or, ↓pickE_and, ↓grdE_true, ↓grdE_false, ↓grdE_tf, ↓grdE_ft, ↓grdE_undef, ↓nilE_pt, ↓thenK_normal, ↓thenK_exit, ↓thenK_ret, ↓thenK_goto, ↓thenK_panic, ↓blockK_exit, ↓blockK_normal, ↓blockK_ret, ↓blockK_goto, ↓blockK_panic, ↓loopK_normal, ↓loopK_exit, ↓loopK_ret, ↓loopK_goto, ↓loopK_panic, ↓topK_ret, ↓topK_normal, ↓topK_panic, ↓resVs_nil, ↓resVs_tmp, ↓resVs_cell, tup_one, tup_nil, tup_two, put_get, argE_get, ↓takeE_def, ↓heldE_nil, ↓heldE_cons, qNil_pt, qPick_bool, qGrd_bool, qGrd_undef, ↓letK_def, pBox_eq, pBin_add, pBin_sub, pBin_mul, pBin_eql, pBin_neq, pBin_lss, pBin_leq, pBin_gtr, pBin_geq, pUn_not, pUn_neg, eqB, neB, eqS, neS, pExtract0, pExtract1, pExtract2, max_int, min_int, sz_nw, sz_wr, sz_drew, mm_nw, fz_nw, mm_drew, fz_drew, fz_wr, sz_mkS, mm_mkS, fz_mkS, Fr.mkS, mm_wr_same, mm_wr_ne, wr_wr, bs_oneT, splice_full, gt_zero, gt_succ, gt_set, gt_bs, byte_eq0, byte_eq1, byte_n0, byte_n1, Fr.refl, Fr.nw, Fr.wr, Fr.drew, kt, k117, k105, k102, e4, e12, hcv, hru, hcat, hmW, hol, g0, g4, hlen, d1, d2, hwj]
        exact ⟨L.length - (j + 1), by omega, j + 1, rfl, by omega, hfWw, hnext (by unfold okKind; simp [k115]) (by omega), by simp [put_get, hK2], by simp [put_get, e10], by simp [put_get, e11], by simp [put_get, hj1]⟩
    by_cases k98 : p.kind = 98
    · have kt : (p.kind = 98) = True := eq_true k98
      have hcv : ∀ w, pConv P 5 21 (bv p.kind) w = some (.int .i32 98, w) := fun w => by rw [k98, pConv_int tyOk5 intK21]; rfl
      have hru : ∀ w, pConv P 21 9 (.int .i32 98) w = some (strB [p.kind], w) := fun w => by rw [k98]; exact rune_strB (by rw [und21]; rfl) und9 (by decide)
      by_cases hs : 1000 < p.s.length
      · have d1 : ((1000 : Int) < p.s.length) = True := eq_true (by omega)
        try simp (maxDischargeDepth := 8) [↓bindV_some, ↓bindU_some, ↓condE_true, ↓condE_false, ↓pickE_true, ↓pickE_false, ↓pickE_or, ↓pickE_and, ↓grdE_true, ↓grdE_false, ↓grdE_tf, ↓grdE_ft, ↓grdE_undef, ↓nilE_pt, ↓thenK_normal, ↓thenK_exit, ↓thenK_ret, ↓thenK_goto, ↓thenK_panic, ↓blockK_exit, ↓blockK_normal, ↓blockK_ret, ↓blockK_goto, ↓blockK_panic, ↓loopK_normal, ↓loopK_exit, ↓loopK_ret, ↓loopK_goto, ↓loopK_panic, ↓topK_ret, ↓topK_normal, ↓topK_panic, ↓resVs_nil, ↓resVs_tmp, ↓resVs_cell, tup_one, tup_nil, tup_two, put_get, argE_get, ↓takeE_def, ↓heldE_nil, ↓heldE_cons, qNil_pt, qPick_bool, qGrd_bool, qGrd_undef, ↓letK_def, pBox_eq, pBin_add, pBin_sub, pBin_mul, pBin_eql, pBin_neq, pBin_lss, pBin_leq, pBin_gtr, pBin_geq, pUn_not, pUn_neg, eqB, neB, eqS, neS, pExtract0, pExtract1, pExtract2, max_int, min_int, sz_nw, sz_wr, sz_drew, mm_nw, fz_nw, mm_drew, fz_drew, fz_wr, sz_mkS, mm_mkS, fz_mkS, Fr.mkS, mm_wr_same, mm_wr_ne, wr_wr, bs_oneT, splice_full, gt_zero, gt_succ, gt_set, gt_bs, byte_eq0, byte_eq1, byte_n0, byte_n1, Fr.refl, Fr.nw, Fr.wr, Fr.drew, kt, k117, k105, k102, k115, e4, e12, hcv, hru, hcat, hmW, hol, g0, g4, hlen, d1, hs]
        exact ⟨[], false, rfl, by simp, hfWw⟩
      · have d1 : ((1000 : Int) < p.s.length) = False := eq_false (by omega)
        have d2 : (1000 < p.s.length) = False := eq_false hs
        try simp (maxDischargeDepth := 8) [↓bindV_some, ↓bindU_some, ↓condE_true, ↓condE_false, ↓pickE_true, ↓pickE_false, ↓pickE_or, ↓pickE_and, ↓grdE_true, ↓grdE_false, ↓grdE_tf, ↓grdE_ft, ↓grdE_undef, ↓nilE_pt, ↓thenK_normal, ↓thenK_exit, ↓thenK_ret, ↓thenK_goto, ↓thenK_panic, ↓blockK_exit, ↓blockK_normal, ↓blockK_ret, ↓blockK_goto, ↓blockK_panic, ↓loopK_normal, ↓loopK_exit, ↓loopK_ret, ↓loopK_goto, ↓loopK_panic, ↓topK_ret, ↓topK_normal, ↓topK_panic, ↓resVs_nil, ↓resVs_tmp, ↓resVs_cell, tup_one, tup_nil, tup_two, put_get, argE_get, ↓takeE_def, ↓heldE_nil, ↓heldE_cons, qNil_pt, qPick_bool, qGrd_bool, qGrd_undef, ↓letK_def, pBox_eq, pBin_add, pBin_sub, pBin_mul, pBin_eql, pBin_neq, pBin_lss, pBin_leq, pBin_gtr, pBin_geq, pUn_not, pUn_neg, eqB, neB, eqS, neS, pExtract0, pExtract1, pExtract2, max_int, min_int, sz_nw, sz_wr, sz_drew, mm_nw, fz_nw, mm_drew, fz_drew, fz_wr, sz_mkS, mm_mkS, fz_mkS, Fr.mkS, mm_wr_same, mm_wr_ne, wr_wr, bs_oneT, splice_full, gt_zero, gt_succ, gt_set, gt_bs, byte_eq0, byte_eq1, byte_n0, byte_n1, Fr.refl, Fr.nw, Fr.wr, Fr.drew, kt, k117, k105, k102, k115, e4, e12, hcv, hru, hcat, hmW, hol, g0, g4, hlen, d1, d2, hwj]
        exact ⟨L.length - (j + 1), by omega, j + 1, rfl, by omega, hfWw, hnext (by unfold okKind; simp [k98]) (by omega), by simp [put_get, hK2], by simp [put_get, e10], by simp [put_get, e11], by simp [put_get, hj1]⟩
    try simp (maxDischargeDepth := 8) [↓bindV_some, ↓bindU_some, ↓condE_true, ↓condE_false, ↓pickE_true, ↓pickE_false, ↓pickE_or, ↓pickE_and, ↓grdE_true, ↓grdE_false, ↓grdE_tf, ↓grdE_ft, ↓grdE_undef, ↓nilE_pt, ↓thenK_normal, ↓thenK_exit, ↓thenK_ret, ↓thenK_goto, ↓thenK_panic, ↓blockK_exit, ↓blockK_normal, ↓blockK_ret, ↓blockK_goto, ↓blockK_panic, ↓loopK_normal, ↓loopK_exit, ↓loopK_ret, ↓loopK_goto, ↓loopK_panic, ↓topK_ret, ↓topK_normal, ↓topK_panic, ↓resVs_nil, ↓resVs_tmp, ↓resVs_cell, tup_one, tup_nil, tup_two, put_get, argE_get, ↓takeE_def, ↓heldE_nil, ↓heldE_cons, qNil_pt, qPick_bool, qGrd_bool, qGrd_undef, ↓letK_def, pBox_eq, pBin_add, pBin_sub, pBin_mul, pBin_eql, pBin_neq, pBin_lss, pBin_leq, pBin_gtr, pBin_geq, pUn_not, pUn_neg, eqB, neB, eqS, neS, pExtract0, pExtract1, pExtract2, max_int, min_int, sz_nw, sz_wr, sz_drew, mm_nw, fz_nw, mm_drew, fz_drew, fz_wr, sz_mkS, mm_mkS, fz_mkS, Fr.mkS, mm_wr_same, mm_wr_ne, wr_wr, bs_oneT, splice_full, gt_zero, gt_succ, gt_set, gt_bs, byte_eq0, byte_eq1, byte_n0, byte_n1, Fr.refl, Fr.nw, Fr.wr, Fr.drew, k117, k105, k102, k115, k98]
    exact ⟨[], false, rfl, by simp, hfWw⟩
  · have hje : j = L.length := by omega
    subst hje
    rw [List.take_length] at hok e4
    try simp (maxDischargeDepth := 8) [↓bindV_some, ↓bindU_some, ↓condE_true, ↓condE_false, ↓pickE_true, ↓pickE_false, ↓pickE_or, ↓pickE_and, ↓grdE_true, ↓grdE_false, ↓grdE_tf, ↓grdE_ft, ↓grdE_undef, ↓nilE_pt, ↓thenK_normal, ↓thenK_exit, ↓thenK_ret, ↓thenK_goto, ↓thenK_panic, ↓blockK_exit, ↓blockK_normal, ↓blockK_ret, ↓blockK_goto, ↓blockK_panic, ↓loopK_normal, ↓loopK_exit, ↓loopK_ret, ↓loopK_goto, ↓loopK_panic, ↓topK_ret, ↓topK_normal, ↓topK_panic, ↓resVs_nil, ↓resVs_tmp, ↓resVs_cell, tup_one, tup_nil, tup_two, put_get, argE_get, ↓takeE_def, ↓heldE_nil, ↓heldE_cons, qNil_pt, qPick_bool, qGrd_bool, qGrd_undef, ↓letK_def, pBox_eq, pBin_add, pBin_sub, pBin_mul, pBin_eql, pBin_neq, pBin_lss, pBin_leq, pBin_gtr, pBin_geq, pUn_not, pUn_neg, eqB, neB, eqS, neS, pExtract0, pExtract1, pExtract2, max_int, min_int, sz_nw, sz_wr, sz_drew, mm_nw, fz_nw, mm_drew, fz_drew, fz_wr, sz_mkS, mm_mkS, fz_mkS, Fr.mkS, mm_wr_same, mm_wr_ne, wr_wr, bs_oneT, splice_full, gt_zero, gt_succ, gt_set, gt_bs, byte_eq0, byte_eq1, byte_n0, byte_n1, Fr.refl, Fr.nw, Fr.wr, Fr.drew, e4, e11, e12]
    exact ⟨L.map (·.kind), true, rfl, fun _ => ⟨rfl, by omega, hok⟩, hf⟩

def PlaI (w : World) (v : Value) (L : List PartP) (m : Nat) (e : Env) (w' : World) : Prop :=
  ∃ (j : Nat) (ov : Value), m = L.length - j ∧ j ≤ L.length ∧ w'.ownsRow (sz w) 75 6 ov j (flat refC ((L.take j).map plain)) ∧ Fr [] w w' ∧ e 3 = ov ∧ e 7 = v ∧ e 8 = i64 L.length ∧ e 9 = i64 j
theorem plain_spec {w : World} {v : Value} {L : List PartP} (h : IsParts w v L) (hL : L.length ≤ 1000000) :
    Ret P 44 #[v] w fun x w' => w'.ownsRow (sz w) 75 6 x L.length (flat refC (L.map plain)) ∧ Fr [] w w' := by
  refine F44ok ?_
  unfold F44
  obtain ⟨va, vc, hv⟩ := sl_of h.1
  subst hv
  try simp (maxDischargeDepth := 8) [↓bindV_some, ↓bindU_some, ↓condE_true, ↓condE_false, ↓pickE_true, ↓pickE_false, ↓pickE_or, ↓pickE_and, ↓grdE_true, ↓grdE_false, ↓grdE_tf, ↓grdE_ft, ↓grdE_undef, ↓nilE_pt, ↓thenK_normal, ↓thenK_exit, ↓thenK_ret, ↓thenK_goto, ↓thenK_panic, ↓blockK_exit, ↓blockK_normal, ↓blockK_ret, ↓blockK_goto, ↓blockK_panic, ↓loopK_normal, ↓loopK_exit, ↓loopK_ret, ↓loopK_goto, ↓loopK_panic, ↓topK_ret, ↓topK_normal, ↓topK_panic, ↓resVs_nil, ↓resVs_tmp, ↓resVs_cell, tup_one, tup_nil, tup_two, put_get, argE_get, ↓takeE_def, ↓heldE_nil, ↓heldE_cons, qNil_pt, qPick_bool, qGrd_bool, qGrd_undef, ↓letK_def, pBox_eq, pBin_add, pBin_sub, pBin_mul, pBin_eql, pBin_neq, pBin_lss, pBin_leq, pBin_gtr, pBin_geq, pUn_not, pUn_neg, eqB, neB, eqS, neS, pExtract0, pExtract1, pExtract2, max_int, min_int, sz_nw, sz_wr, sz_drew, mm_nw, fz_nw, mm_drew, fz_drew, fz_wr, sz_mkS, mm_mkS, fz_mkS, Fr.mkS, mm_wr_same, mm_wr_ne, wr_wr, bs_oneT, splice_full, gt_zero, gt_succ, gt_set, gt_bs, byte_eq0, byte_eq1, byte_n0, byte_n1, Fr.refl, Fr.nw, Fr.wr, Fr.drew]
  refine loopE_of (PlaI w (.slice va L.length vc) L) L.length ⟨0, .slice none 0 0, by omega, by omega, World.ownsRow_nil _ _ _ _, Fr.refl _ _, by simp [put_get], by simp [put_get, argE_get], by simp [put_get], by simp [put_get]⟩ ?_
  rintro m e w1 ⟨j, ov, hm, hj, hown, hf, e3, e7, e8, e9⟩
  subst hm
  unfold F44B0
  by_cases hjl : j < L.length
  · have hji : (j : Int) < L.length := by omega
    obtain ⟨p, hp⟩ : ∃ p, L[j]? = some p := ⟨_, List.getElem?_eq_getElem hjl⟩
    obtain ⟨hu, hi, hfl⟩ := h.2 p (List.mem_of_getElem? hp)
    obtain ⟨pb, po, pc, hv2, hpb, hin, htk⟩ := flat_at (h.fr0 hf).1 (partC_len L) (by omega) hp
    simp only [Value.slice.injEq] at hv2
    obtain ⟨rfl, _, rfl⟩ := hv2
    have hwj : IntKind.i64.wrap ((j : Int) + 1) = ((j + 1 : Nat) : Int) := wrap64 (by omega) (by omega)
    obtain ⟨j1, hj1⟩ : ∃ j1 : Int, j1 = ((j + 1 : Nat) : Int) := ⟨_, rfl⟩
    rw [← hj1] at hwj
    have hs6 : ∀ p l : List Value, l.length = 6 → p.length = 6 → splice l 0 p = p := fun p l hl hp => splice_full (by rw [hl, hp])
    have hone := partC_oneT p
    have hol : (partC p).length = 6 := rfl
    have hrl : ∀ q, (refC q).length = 6 := fun _ => rfl
    have ht6 : ∀ q, List.take 6 (refC q) = refC q := fun _ => rfl
    have g0 : gt (partC p) 0 = bv p.kind := rfl
    have g1 : gt (partC p) 1 = u64 p.u := rfl
    have g2 : gt (partC p) 2 = i64 p.i := rfl
    have g3 : gt (partC p) 3 = fl p.f := rfl
    have g4 : gt (partC p) 4 = strB p.s := rfl
    have g5 : gt (partC p) 5 = .bool p.b := rfl
    have hbld : ∀ w, pBuild P 75 [(0, bv p.kind)] w = some (.agg (refC (zR p.kind)).toArray, w) := fun w => by
      rw [bf75 (by simp)]; rfl
    obtain ⟨z, hz⟩ : ∃ z : List Value, z = [Value.int IntKind.u8 0, Value.int IntKind.u64 0, Value.int IntKind.i64 0, Value.float FloatKind.f64 0, Value.string ByteArray.empty, Value.bool false] := ⟨_, rfl⟩
    obtain ⟨y, hy⟩ : ∃ y : List Value, y = [Value.int IntKind.u8 0, Value.int IntKind.u64 0, Value.int IntKind.i64 0, Value.int IntKind.u64 0, Value.string ByteArray.empty, Value.bool false] := ⟨_, rfl⟩
    have hzl : z.length = 6 := by rw [hz]; rfl
    have hyl : y.length = 6 := by rw [hy]; rfl
    obtain ⟨V, hV⟩ : ∃ V, V = wr (nw w1 z 60) (sz w1) (partC p) := ⟨_, rfl⟩
    have hfV : Fr [] w1 V := by rw [hV]; exact ((Fr.refl [] w1).nw _ _).wr (.inr (Nat.le_refl _)) _
    have hmV : mm V (sz w1) = partC p := by rw [hV, mm_wr_same (by simp [sz_nw, sz_wr, sz_drew, mm_nw, fz_nw, mm_drew, fz_drew, fz_wr, sz_mkS, mm_mkS, fz_mkS, Fr.mkS, mm_wr_same, mm_wr_ne, wr_wr, bs_oneT, splice_full, gt_zero, gt_succ, gt_set, gt_bs, byte_eq0, byte_eq1, byte_n0, byte_n1, Fr.refl, Fr.nw, Fr.wr, Fr.drew])]
    have hsV : sz V = sz w1 + 1 := by rw [hV]; simp [sz_nw, sz_wr, sz_drew, mm_nw, fz_nw, mm_drew, fz_drew, fz_wr, sz_mkS, mm_mkS, fz_mkS, Fr.mkS, mm_wr_same, mm_wr_ne, wr_wr, bs_oneT, splice_full, gt_zero, gt_succ, gt_set, gt_bs, byte_eq0, byte_eq1, byte_n0, byte_n1, Fr.refl, Fr.nw, Fr.wr, Fr.drew]
    obtain ⟨W, hW⟩ : ∃ W, W = wr (nw V y 75) (sz w1 + 1) (refC (zR p.kind)) := ⟨_, rfl⟩
    have hfVW : Fr [] V W := by rw [hW]; exact ((Fr.refl [] V).nw _ _).wr (.inr (by omega)) _
    have hfW := hfV.trans0 hfVW
    have hmW : mm W (sz w1 + 1) = refC (zR p.kind) := by rw [hW, mm_wr_same (by rw [fz_nw, hsV]; simp)]
    have hzW : fz W (sz w1 + 1) = false := by rw [hW, fz_wr, fz_nw, hsV]; simp
    have hmW0 : mm W (sz w1) = partC p := by rw [hfVW.mm (by omega) (by simp), hmV]
    have hsW : sz W = sz w1 + 1 + 1 := by rw [hW]; simp [sz_nw, sz_wr, sz_drew, mm_nw, fz_nw, mm_drew, fz_drew, fz_wr, sz_mkS, mm_mkS, fz_mkS, Fr.mkS, mm_wr_same, mm_wr_ne, wr_wr, bs_oneT, splice_full, gt_zero, gt_succ, gt_set, gt_bs, byte_eq0, byte_eq1, byte_n0, byte_n1, Fr.refl, Fr.nw, Fr.wr, Fr.drew, hsV]
    have hialv : ∀ w', pIndexAddr P 37 (sl pb po L.length vc) (i64 j) w' = some (pt pb (po + j * 6), w') := fun w' => by
      have := ia37 (w := w') (b := pb) (o := po) (n := L.length) (c := vc) (k := .i64) (j := (j : Int)) (by omega) (by omega)
      rw [this]; simp
    -- what is appended, wherever the walk stands
    have fin : ∀ (w2 : World), Fr [] w1 w2 → ∃ v' w3, pBuiltin P .append #[48, 48] 48 [ov, sl (sz w2) 0 1 1] (nw w2 (refC (plain p)) 75) = some (v', w3) ∧
        w3.ownsRow (sz w) 75 6 v' (j + 1) (flat refC ((L.take (j + 1)).map plain)) ∧ Fr [] w w3 := fun w2 hf2 => by
      have hs1 := hf.size
      have hs2 := hf2.size
      have hown3 := own_fr hown (hf2.nw (refC (plain p)) 75) (by simp)
      have hrd : RdV (nw w2 (refC (plain p)) 75) (sl (sz w2) 0 1 1) 1 (refC (plain p)) := rd_new w2 (refC (plain p)) 75 (n := 1) (by unfold maxLen; omega)
      obtain ⟨v', w3, hrun, hown', hg, _⟩ := append_own (P := P) (t := 48) (ty := 48) (sz w) sliceE48 hasZero75 cellsOf75 (by rw [zeroL75]; rfl) (by omega) hown3 (by rw [sz_nw]; omega) hrd rfl refC_one
        (by unfold maxLen; omega) (by rw [bytesOf75]; omega)
      refine ⟨v', w3, hrun, ?_, ((hf.trans0 hf2).nw (refC (plain p)) 75).trans (Fr.of_grown hg) (fun c hc => .inr (hown.lt c (by simpa using hc)).1)⟩
      have : flat refC ((L.take (j + 1)).map plain) = flat refC ((L.take j).map plain) ++ refC (plain p) := by
        rw [List.take_add_one, hp]; simp [flat]
      rw [this]
      exact hown'
    have hbs : ∀ w, pBuildSlice P 48 1 [(0, .agg (refC (plain p)).toArray)] w = some (sl (sz w) 0 1 1, nw w (refC (plain p)) 75) := fun w => by
      rw [bsl48 (by omega) (by simp [refC])]; simp [refC, splice]
    have out : ∀ {e' : Env} {w3 : World} {v' : Value}, w3.ownsRow (sz w) 75 6 v' (j + 1) (flat refC ((L.take (j + 1)).map plain)) → Fr [] w w3 → e' 3 = v' → e' 7 = sl pb po L.length vc → e' 8 = i64 L.length → e' 9 = i64 j1 →
        ∃ m, m < L.length - j ∧ PlaI w (sl pb po L.length vc) L m e' w3 := fun h1 h2 a3 a7 a8 a9 => ⟨L.length - (j + 1), by omega, j + 1, _, rfl, by omega, h1, h2, a3, a7, a8, by rw [a9, hj1]⟩
    have n10 : ¬ sz w1 + 1 = sz w1 := by omega
    have n01 : ¬ sz w1 = sz w1 + 1 := by omega
    try simp only [al60, al75, ← hz, ← hy]
    try simp (maxDischargeDepth := 8) [↓bindV_some, ↓bindU_some, ↓condE_true, ↓condE_false, ↓pickE_true, ↓pickE_false, ↓pickE_or, ↓pickE_and, ↓grdE_true, ↓grdE_false, ↓grdE_tf, ↓grdE_ft, ↓grdE_undef, ↓nilE_pt, ↓thenK_normal, ↓thenK_exit, ↓thenK_ret, ↓thenK_goto, ↓thenK_panic, ↓blockK_exit, ↓blockK_normal, ↓blockK_ret, ↓blockK_goto, ↓blockK_panic, ↓loopK_normal, ↓loopK_exit, ↓loopK_ret, ↓loopK_goto, ↓loopK_panic, ↓topK_ret, ↓topK_normal, ↓topK_panic, ↓resVs_nil, ↓resVs_tmp, ↓resVs_cell, tup_one, tup_nil, tup_two, put_get, argE_get, ↓takeE_def, ↓heldE_nil, ↓heldE_cons, qNil_pt, qPick_bool, qGrd_bool, qGrd_undef, ↓letK_def, pBox_eq, pBin_add, pBin_sub, pBin_mul, pBin_eql, pBin_neq, pBin_lss, pBin_leq, pBin_gtr, pBin_geq, pUn_not, pUn_neg, eqB, neB, eqS, neS, pExtract0, pExtract1, pExtract2, max_int, min_int, sz_nw, sz_wr, sz_drew, mm_nw, fz_nw, mm_drew, fz_drew, fz_wr, sz_mkS, mm_mkS, fz_mkS, Fr.mkS, mm_wr_same, mm_wr_ne, wr_wr, bs_oneT, splice_full, gt_zero, gt_succ, gt_set, gt_bs, byte_eq0, byte_eq1, byte_n0, byte_n1, Fr.refl, Fr.nw, Fr.wr, Fr.drew, e7, e8, e9, hji, hjl, hialv, hin, htk, hzl, hyl, hs6, hone, hol, hrl, refC_oneT, ← hV, hmV, hsV, ← hW, hmW0, hbld, g0, ki117, ki105, ki102, ki115, ki98]
    by_cases k117 : p.kind = 117
    · have kt : (p.kind = 117) = True := eq_true k117
      have hset : (refC (zR p.kind)).set 1 (u64 p.u) = refC (plain p) := by simp [plain, zR, refC, k117]
      have hfX : Fr [] w1 (wr W (sz w1 + 1) (refC (plain p))) := hfW.wr (.inr (by omega)) _
      obtain ⟨v', w3, hrun, ho, hf3⟩ := fin _ hfX
      rw [sz_wr, hsW] at hrun
      try simp (maxDischargeDepth := 8) [↓bindV_some, ↓bindU_some, ↓condE_true, ↓condE_false, ↓pickE_true, ↓pickE_false, ↓pickE_or, ↓pickE_and, ↓grdE_true, ↓grdE_false, ↓grdE_tf, ↓grdE_ft, ↓grdE_undef, ↓nilE_pt, ↓thenK_normal, ↓thenK_exit, ↓thenK_ret, ↓thenK_goto, ↓thenK_panic, ↓blockK_exit, ↓blockK_normal, ↓blockK_ret, ↓blockK_goto, ↓blockK_panic, ↓loopK_normal, ↓loopK_exit, ↓loopK_ret, ↓loopK_goto, ↓loopK_panic, ↓topK_ret, ↓topK_normal, ↓topK_panic, ↓resVs_nil, ↓resVs_tmp, ↓resVs_cell, tup_one, tup_nil, tup_two, put_get, argE_get, ↓takeE_def, ↓heldE_nil, ↓heldE_cons, qNil_pt, qPick_bool, qGrd_bool, qGrd_undef, ↓letK_def, pBox_eq, pBin_add, pBin_sub, pBin_mul, pBin_eql, pBin_neq, pBin_lss, pBin_leq, pBin_gtr, pBin_geq, pUn_not, pUn_neg, eqB, neB, eqS, neS, pExtract0, pExtract1, pExtract2, max_int, min_int, sz_nw, sz_wr, sz_drew, mm_nw, fz_nw, mm_drew, fz_drew, fz_wr, sz_mkS, mm_mkS, fz_mkS, Fr.mkS, mm_wr_same, mm_wr_ne, wr_wr, bs_oneT, splice_full, gt_zero, gt_succ, gt_set, gt_bs, byte_eq0, byte_eq1, byte_n0, byte_n1, Fr.refl, Fr.nw, Fr.wr, Fr.drew, kt, g1, hmW0, hmW, hzW, hsW, hset, hol, hrl, ht6, hbs, hrun, e3, e9, hwj]
      exact out ho hf3 (by simp [put_get]) (by simp [put_get, e7]) (by simp [put_get, e8]) (by simp [put_get])
    by_cases k105 : p.kind = 105
    · have kt : (p.kind = 105) = True := eq_true k105
      have hset : (refC (zR p.kind)).set 2 (i64 p.i) = refC (plain p) := by simp [plain, zR, refC, k105]
      have hfX : Fr [] w1 (wr W (sz w1 + 1) (refC (plain p))) := hfW.wr (.inr (by omega)) _
      obtain ⟨v', w3, hrun, ho, hf3⟩ := fin _ hfX
      rw [sz_wr, hsW] at hrun
      try simp (maxDischargeDepth := 8) [↓bindV_some, ↓bindU_some, ↓condE_true, ↓condE_false, ↓pickE_true, ↓pickE_false, ↓pickE_or, ↓pickE_and, ↓grdE_true, ↓grdE_false, ↓grdE_tf, ↓grdE_ft, ↓grdE_undef, ↓nilE_pt, ↓thenK_normal, ↓thenK_exit, ↓thenK_ret, ↓thenK_goto, ↓thenK_panic, ↓blockK_exit, ↓blockK_normal, ↓blockK_ret, ↓blockK_goto, ↓blockK_panic, ↓loopK_normal, ↓loopK_exit, ↓loopK_ret, ↓loopK_goto, ↓loopK_panic, ↓topK_ret, ↓topK_normal, ↓topK_panic, ↓resVs_nil, ↓resVs_tmp, ↓resVs_cell, tup_one, tup_nil, tup_two, put_get, argE_get, ↓takeE_def, ↓heldE_nil, ↓heldE_cons, qNil_pt, qPick_bool, qGrd_bool, qGrd_undef, ↓letK_def, pBox_eq, pBin_add, pBin_sub, pBin_mul, pBin_eql, pBin_neq, pBin_lss, pBin_leq, pBin_gtr, pBin_geq, pUn_not, pUn_neg, eqB, neB, eqS, neS, pExtract0, pExtract1, pExtract2, max_int, min_int, sz_nw, sz_wr, sz_drew, mm_nw, fz_nw, mm_drew, fz_drew, fz_wr, sz_mkS, mm_mkS, fz_mkS, Fr.mkS, mm_wr_same, mm_wr_ne, wr_wr, bs_oneT, splice_full, gt_zero, gt_succ, gt_set, gt_bs, byte_eq0, byte_eq1, byte_n0, byte_n1, Fr.refl, Fr.nw, Fr.wr, Fr.drew, kt, k117, g2, hmW0, hmW, hzW, hsW, hset, hol, hrl, ht6, hbs, hrun, e3, e9, hwj]
      exact out ho hf3 (by simp [put_get]) (by simp [put_get, e7]) (by simp [put_get, e8]) (by simp [put_get])
    by_cases k102 : p.kind = 102
    · have kt : (p.kind = 102) = True := eq_true k102
      have hset : (refC (zR p.kind)).set 3 (u64 (key p.f)) = refC (plain p) := by simp [plain, zR, refC, k102]
      try simp (maxDischargeDepth := 8) [↓bindV_some, ↓bindU_some, ↓condE_true, ↓condE_false, ↓pickE_true, ↓pickE_false, ↓pickE_or, ↓pickE_and, ↓grdE_true, ↓grdE_false, ↓grdE_tf, ↓grdE_ft, ↓grdE_undef, ↓nilE_pt, ↓thenK_normal, ↓thenK_exit, ↓thenK_ret, ↓thenK_goto, ↓thenK_panic, ↓blockK_exit, ↓blockK_normal, ↓blockK_ret, ↓blockK_goto, ↓blockK_panic, ↓loopK_normal, ↓loopK_exit, ↓loopK_ret, ↓loopK_goto, ↓loopK_panic, ↓topK_ret, ↓topK_normal, ↓topK_panic, ↓resVs_nil, ↓resVs_tmp, ↓resVs_cell, tup_one, tup_nil, tup_two, put_get, argE_get, ↓takeE_def, ↓heldE_nil, ↓heldE_cons, qNil_pt, qPick_bool, qGrd_bool, qGrd_undef, ↓letK_def, pBox_eq, pBin_add, pBin_sub, pBin_mul, pBin_eql, pBin_neq, pBin_lss, pBin_leq, pBin_gtr, pBin_geq, pUn_not, pUn_neg, eqB, neB, eqS, neS, pExtract0, pExtract1, pExtract2, max_int, min_int, sz_nw, sz_wr, sz_drew, mm_nw, fz_nw, mm_drew, fz_drew, fz_wr, sz_mkS, mm_mkS, fz_mkS, Fr.mkS, mm_wr_same, mm_wr_ne, wr_wr, bs_oneT, splice_full, gt_zero, gt_succ, gt_set, gt_bs, byte_eq0, byte_eq1, byte_n0, byte_n1, Fr.refl, Fr.nw, Fr.wr, Fr.drew, kt, k117, k105, g3, hmW0, hol]
      refine (key_spec hfl).call ?_
      rintro _ w2 ⟨rfl, hf2⟩
      have m2 : mm w2 (sz w1 + 1) = refC (zR p.kind) := by rw [hf2.mm (by omega) (by simp), hmW]
      have z2 : fz w2 (sz w1 + 1) = false := by rw [hf2.fz (by omega) (by simp), hzW]
      have hfX : Fr [] w1 (wr w2 (sz w1 + 1) (refC (plain p))) := (hfW.trans0 hf2).wr (.inr (by omega)) _
      obtain ⟨v', w3, hrun, ho, hf3⟩ := fin _ hfX
      rw [sz_wr] at hrun
      try simp (maxDischargeDepth := 8) [↓bindV_some, ↓bindU_some, ↓condE_true, ↓condE_false, ↓pickE_true, ↓pickE_false, ↓pickE_or, ↓pickE_and, ↓grdE_true, ↓grdE_false, ↓grdE_tf, ↓grdE_ft, ↓grdE_undef, ↓nilE_pt, ↓thenK_normal, ↓thenK_exit, ↓thenK_ret, ↓thenK_goto, ↓thenK_panic, ↓blockK_exit, ↓blockK_normal, ↓blockK_ret, ↓blockK_goto, ↓blockK_panic, ↓loopK_normal, ↓loopK_exit, ↓loopK_ret, ↓loopK_goto, ↓loopK_panic, ↓topK_ret, ↓topK_normal, ↓topK_panic, ↓resVs_nil, ↓resVs_tmp, ↓resVs_cell, tup_one, tup_nil, tup_two, put_get, argE_get, ↓takeE_def, ↓heldE_nil, ↓heldE_cons, qNil_pt, qPick_bool, qGrd_bool, qGrd_undef, ↓letK_def, pBox_eq, pBin_add, pBin_sub, pBin_mul, pBin_eql, pBin_neq, pBin_lss, pBin_leq, pBin_gtr, pBin_geq, pUn_not, pUn_neg, eqB, neB, eqS, neS, pExtract0, pExtract1, pExtract2, max_int, min_int, sz_nw, sz_wr, sz_drew, mm_nw, fz_nw, mm_drew, fz_drew, fz_wr, sz_mkS, mm_mkS, fz_mkS, Fr.mkS, mm_wr_same, mm_wr_ne, wr_wr, bs_oneT, splice_full, gt_zero, gt_succ, gt_set, gt_bs, byte_eq0, byte_eq1, byte_n0, byte_n1, Fr.refl, Fr.nw, Fr.wr, Fr.drew, m2, z2, hset, hol, hrl, ht6, hbs, hrun, e3, e9, hwj]
      exact out ho hf3 (by simp [put_get]) (by simp [put_get, e7]) (by simp [put_get, e8]) (by simp [put_get])
    by_cases k115 : p.kind = 115
    · have kt : (p.kind = 115) = True := eq_true k115
      have hset : (refC (zR p.kind)).set 4 (strB p.s) = refC (plain p) := by simp [plain, zR, refC, k115]
      have hfX : Fr [] w1 (wr W (sz w1 + 1) (refC (plain p))) := hfW.wr (.inr (by omega)) _
      obtain ⟨v', w3, hrun, ho, hf3⟩ := fin _ hfX
      rw [sz_wr, hsW] at hrun
      try simp (maxDischargeDepth := 8) [↓bindV_some, ↓bindU_some, ↓condE_true, ↓condE_false, ↓pickE_true, ↓pickE_false, ↓pickE_or, ↓pickE_and, ↓grdE_true, ↓grdE_false, ↓grdE_tf, ↓grdE_ft, ↓grdE_undef, ↓nilE_pt, ↓thenK_normal, ↓thenK_exit, ↓thenK_ret, ↓thenK_goto, ↓thenK_panic, ↓blockK_exit, ↓blockK_normal, ↓blockK_ret, ↓blockK_goto, ↓blockK_panic, ↓loopK_normal, ↓loopK_exit, ↓loopK_ret, ↓loopK_goto, ↓loopK_panic, ↓topK_ret, ↓topK_normal, ↓topK_panic, ↓resVs_nil, ↓resVs_tmp, ↓resVs_cell, tup_one, tup_nil, tup_two, put_get, argE_get, ↓takeE_def, ↓heldE_nil, ↓heldE_cons, qNil_pt, qPick_bool, qGrd_bool, qGrd_undef, ↓letK_def, pBox_eq, pBin_add, pBin_sub, pBin_mul, pBin_eql, pBin_neq, pBin_lss, pBin_leq, pBin_gtr, pBin_geq, pUn_not, pUn_neg, eqB, neB, eqS, neS, pExtract0, pExtract1, pExtract2, max_int, min_int, sz_nw, sz_wr, sz_drew, mm_nw, fz_nw, mm_drew, fz_drew, fz_wr, sz_mkS, mm_mkS, fz_mkS, Fr.mkS, mm_wr_same, mm_wr_ne, wr_wr, bs_oneT, splice_full, gt_zero, gt_succ, gt_set, gt_bs, byte_eq0, byte_eq1, byte_n0, byte_n1, Fr.refl, Fr.nw, Fr.wr, Fr.drew, kt, k117, k105, k102, g4, hmW0, hmW, hzW, hsW, hset, hol, hrl, ht6, hbs, hrun, e3, e9, hwj]
      exact out ho hf3 (by simp [put_get]) (by simp [put_get, e7]) (by simp [put_get, e8]) (by simp [put_get])
    by_cases k98 : p.kind = 98
    · have kt : (p.kind = 98) = True := eq_true k98
      have hset : (refC (zR p.kind)).set 5 (.bool p.b) = refC (plain p) := by simp [plain, zR, refC, k98]
      have hfX : Fr [] w1 (wr W (sz w1 + 1) (refC (plain p))) := hfW.wr (.inr (by omega)) _
      obtain ⟨v', w3, hrun, ho, hf3⟩ := fin _ hfX
      rw [sz_wr, hsW] at hrun
      try simp (maxDischargeDepth := 8) [↓bindV_some, ↓bindU_some, ↓condE_true, ↓condE_false, ↓pickE_true, ↓pickE_false, ↓pickE_or, ↓pickE_and, ↓grdE_true, ↓grdE_false, ↓grdE_tf, ↓grdE_ft, ↓grdE_undef, ↓nilE_pt, ↓thenK_normal, ↓thenK_exit, ↓thenK_ret, ↓thenK_goto, ↓thenK_panic, ↓blockK_exit, ↓blockK_normal, ↓blockK_ret, ↓blockK_goto, ↓blockK_panic, ↓loopK_normal, ↓loopK_exit, ↓loopK_ret, ↓loopK_goto, ↓loopK_panic, ↓topK_ret, ↓topK_normal, ↓topK_panic, ↓resVs_nil, ↓resVs_tmp, ↓resVs_cell, tup_one, tup_nil, tup_two, put_get, argE_get, ↓takeE_def, ↓heldE_nil, ↓heldE_cons, qNil_pt, qPick_bool, qGrd_bool, qGrd_undef, ↓letK_def, pBox_eq, pBin_add, pBin_sub, pBin_mul, pBin_eql, pBin_neq, pBin_lss, pBin_leq, pBin_gtr, pBin_geq, pUn_not, pUn_neg, eqB, neB, eqS, neS, pExtract0, pExtract1, pExtract2, max_int, min_int, sz_nw, sz_wr, sz_drew, mm_nw, fz_nw, mm_drew, fz_drew, fz_wr, sz_mkS, mm_mkS, fz_mkS, Fr.mkS, mm_wr_same, mm_wr_ne, wr_wr, bs_oneT, splice_full, gt_zero, gt_succ, gt_set, gt_bs, byte_eq0, byte_eq1, byte_n0, byte_n1, Fr.refl, Fr.nw, Fr.wr, Fr.drew, kt, k117, k105, k102, k115, g5, hmW0, hmW, hzW, hsW, hset, hol, hrl, ht6, hbs, hrun, e3, e9, hwj]
      exact out ho hf3 (by simp [put_get]) (by simp [put_get, e7]) (by simp [put_get, e8]) (by simp [put_get])
    have hpl : refC (zR p.kind) = refC (plain p) := by simp [plain, zR, refC, k117, k105, k102, k115, k98]
    obtain ⟨v', w3, hrun, ho, hf3⟩ := fin _ hfW
    rw [hsW] at hrun
    rw [hpl] at hmW
    try simp (maxDischargeDepth := 8) [↓bindV_some, ↓bindU_some, ↓condE_true, ↓condE_false, ↓pickE_true, ↓pickE_false, ↓pickE_or, ↓pickE_and, ↓grdE_true, ↓grdE_false, ↓grdE_tf, ↓grdE_ft, ↓grdE_undef, ↓nilE_pt, ↓thenK_normal, ↓thenK_exit, ↓thenK_ret, ↓thenK_goto, ↓thenK_panic, ↓blockK_exit, ↓blockK_normal, ↓blockK_ret, ↓blockK_goto, ↓blockK_panic, ↓loopK_normal, ↓loopK_exit, ↓loopK_ret, ↓loopK_goto, ↓loopK_panic, ↓topK_ret, ↓topK_normal, ↓topK_panic, ↓resVs_nil, ↓resVs_tmp, ↓resVs_cell, tup_one, tup_nil, tup_two, put_get, argE_get, ↓takeE_def, ↓heldE_nil, ↓heldE_cons, qNil_pt, qPick_bool, qGrd_bool, qGrd_undef, ↓letK_def, pBox_eq, pBin_add, pBin_sub, pBin_mul, pBin_eql, pBin_neq, pBin_lss, pBin_leq, pBin_gtr, pBin_geq, pUn_not, pUn_neg, eqB, neB, eqS, neS, pExtract0, pExtract1, pExtract2, max_int, min_int, sz_nw, sz_wr, sz_drew, mm_nw, fz_nw, mm_drew, fz_drew, fz_wr, sz_mkS, mm_mkS, fz_mkS, Fr.mkS, mm_wr_same, mm_wr_ne, wr_wr, bs_oneT, splice_full, gt_zero, gt_succ, gt_set, gt_bs, byte_eq0, byte_eq1, byte_n0, byte_n1, Fr.refl, Fr.nw, Fr.wr, Fr.drew, k117, k105, k102, k115, k98, hmW, hsW, hrl, ht6, hbs, hrun, e3, e9, hwj]
    exact out ho hf3 (by simp [put_get]) (by simp [put_get, e7]) (by simp [put_get, e8]) (by simp [put_get])
  · have hje : j = L.length := by omega
    subst hje
    rw [List.take_length] at hown
    try simp (maxDischargeDepth := 8) [↓bindV_some, ↓bindU_some, ↓condE_true, ↓condE_false, ↓pickE_true, ↓pickE_false, ↓pickE_or, ↓pickE_and, ↓grdE_true, ↓grdE_false, ↓grdE_tf, ↓grdE_ft, ↓grdE_undef, ↓nilE_pt, ↓thenK_normal, ↓thenK_exit, ↓thenK_ret, ↓thenK_goto, ↓thenK_panic, ↓blockK_exit, ↓blockK_normal, ↓blockK_ret, ↓blockK_goto, ↓blockK_panic, ↓loopK_normal, ↓loopK_exit, ↓loopK_ret, ↓loopK_goto, ↓loopK_panic, ↓topK_ret, ↓topK_normal, ↓topK_panic, ↓resVs_nil, ↓resVs_tmp, ↓resVs_cell, tup_one, tup_nil, tup_two, put_get, argE_get, ↓takeE_def, ↓heldE_nil, ↓heldE_cons, qNil_pt, qPick_bool, qGrd_bool, qGrd_undef, ↓letK_def, pBox_eq, pBin_add, pBin_sub, pBin_mul, pBin_eql, pBin_neq, pBin_lss, pBin_leq, pBin_gtr, pBin_geq, pUn_not, pUn_neg, eqB, neB, eqS, neS, pExtract0, pExtract1, pExtract2, max_int, min_int, sz_nw, sz_wr, sz_drew, mm_nw, fz_nw, mm_drew, fz_drew, fz_wr, sz_mkS, mm_mkS, fz_mkS, Fr.mkS, mm_wr_same, mm_wr_ne, wr_wr, bs_oneT, splice_full, gt_zero, gt_succ, gt_set, gt_bs, byte_eq0, byte_eq1, byte_n0, byte_n1, Fr.refl, Fr.nw, Fr.wr, Fr.drew, e3, e8, e9]
    exact ⟨hown, hf⟩
end Go.Proofs.Ytfmcplkijjndlaa
