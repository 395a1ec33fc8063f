/- What the statements' big and sector compute; the operations, one by one. -/
import Derived.Test.YticncfkpfpkfoaaOps
import Derived.Test.YticncfkpfpkfoaaSTorn
import Derived.Test.YticncfkpfpkfoaaWKeeps
set_option linter.unusedVariables false
set_option linter.unusedSimpArgs false
namespace Go.Proofs.Yticncfkpfpkfoaa
open Go

theorem op_at {w : World} {a : Option Addr} {c n : Nat} {L : List (OpM × Value)} (h : IsOps w (.slice a n c) L) {j : Nat} {p : OpM × Value} (hp : L[j]? = some p) :
    n = L.length ∧ ∃ b o, a = some ⟨b, o, none⟩ ∧ b < sz w ∧ o + j * 4 + 4 ≤ (mm w b).length ∧ List.take 4 (List.drop (o + j * 4) (mm w b)) = opc p ∧ OkOp w p := by
  have hj := (List.getElem?_eq_some_iff.1 hp).1
  have hok := h.2 p (List.mem_of_getElem? hp)
  have hfl : (flat opc L).length = L.length * 4 := flat_length (fun x _ => rfl)
  rcases h.1 with ⟨_, _, _, h0, _⟩ | ⟨b, o, c', hv, h1, h2, h3, h4, h5⟩
  · omega
  · simp only [Value.slice.injEq] at hv
    obtain ⟨rfl, rfl, rfl⟩ := hv
    rw [hfl] at h4
    refine ⟨rfl, b, o, rfl, h3, by omega, ?_, hok⟩
    have := flat_take_drop (f := opc) (n := 4) (L := L) (i := j) (x := p) (fun x _ => rfl) hp
    rw [← h5, hfl, List.drop_take, List.drop_drop, List.take_take] at this
    rw [← this]
    congr 1
    omega

def BigI (w : World) (L : List (OpM × Value)) (v : Value) (m : Nat) (e : Env) (w' : World) : Prop :=
  ∃ j, m = L.length - j ∧ j ≤ L.length ∧ Fr [] w w' ∧ (∀ i, i < j → ∀ p, L[i]? = some p → p.1.kept.length ≤ 100) ∧ e 10 = i64 j ∧ e 9 = i64 L.length ∧ e 8 = v
theorem big_spec {w : World} {v : Value} {L : List (OpM × Value)} (h : IsOps w v L) :
    Ret P 32 #[v] w fun r w' => (∃ B, r = .bool B ∧ (B = false → L.length ≤ 100 ∧ ∀ p ∈ L, p.1.kept.length ≤ 100)) ∧ Fr [] w w' := by
  refine F32ok ?_
  unfold F32
  obtain ⟨a, c, rfl⟩ := sl_of h.1
  by_cases g : 100 < L.length
  · have g' : (100 : Int) < L.length := by omega
    simp (maxDischargeDepth := 8) [↓bindV_some, ↓bindU_some, ↓condE_true, ↓condE_false, ↓pickE_true, ↓pickE_false, ↓pickE_or, ↓pickE_and, ↓grdE_true, ↓grdE_false, ↓grdE_tf, ↓grdE_ft, ↓grdE_undef, ↓nilE_pt, ↓thenK_normal, ↓thenK_exit, ↓thenK_ret, ↓thenK_goto, ↓thenK_panic, ↓blockK_exit, ↓blockK_normal, ↓blockK_ret, ↓blockK_goto, ↓blockK_panic, ↓loopK_normal, ↓loopK_exit, ↓loopK_ret, ↓loopK_goto, ↓loopK_panic, ↓topK_ret, ↓topK_normal, ↓topK_panic, ↓resVs_nil, ↓resVs_tmp, ↓resVs_cell, tup_one, tup_nil, tup_two, put_get, argE_get, ↓takeE_def, ↓heldE_nil, ↓heldE_cons, qNil_pt, qPick_bool, qGrd_bool, qGrd_undef, ↓letK_def, pBox_eq, pBin_add, pBin_sub, pBin_mul, pBin_eql, pBin_neq, pBin_lss, pBin_leq, pBin_gtr, pBin_geq, pUn_not, pUn_neg, eqB, neB, eqS, neS, pExtract0, pExtract1, pExtract2, max_int, min_int, sz_nw, sz_wr, sz_drew, mm_nw, fz_nw, mm_drew, fz_drew, fz_wr, sz_mkS, mm_mkS, fz_mkS, Fr.mkS, mm_wr_same, mm_wr_ne, wr_wr, bs_oneT, splice_full, gt_zero, gt_succ, gt_set, gt_bs, byte_eq0, byte_eq1, byte_n0, byte_n1, Fr.refl, Fr.nw, Fr.wr, Fr.drew, g, g']
  have g' : ¬ (100 : Int) < L.length := by omega
  try simp (maxDischargeDepth := 8) [↓bindV_some, ↓bindU_some, ↓condE_true, ↓condE_false, ↓pickE_true, ↓pickE_false, ↓pickE_or, ↓pickE_and, ↓grdE_true, ↓grdE_false, ↓grdE_tf, ↓grdE_ft, ↓grdE_undef, ↓nilE_pt, ↓thenK_normal, ↓thenK_exit, ↓thenK_ret, ↓thenK_goto, ↓thenK_panic, ↓blockK_exit, ↓blockK_normal, ↓blockK_ret, ↓blockK_goto, ↓blockK_panic, ↓loopK_normal, ↓loopK_exit, ↓loopK_ret, ↓loopK_goto, ↓loopK_panic, ↓topK_ret, ↓topK_normal, ↓topK_panic, ↓resVs_nil, ↓resVs_tmp, ↓resVs_cell, tup_one, tup_nil, tup_two, put_get, argE_get, ↓takeE_def, ↓heldE_nil, ↓heldE_cons, qNil_pt, qPick_bool, qGrd_bool, qGrd_undef, ↓letK_def, pBox_eq, pBin_add, pBin_sub, pBin_mul, pBin_eql, pBin_neq, pBin_lss, pBin_leq, pBin_gtr, pBin_geq, pUn_not, pUn_neg, eqB, neB, eqS, neS, pExtract0, pExtract1, pExtract2, max_int, min_int, sz_nw, sz_wr, sz_drew, mm_nw, fz_nw, mm_drew, fz_drew, fz_wr, sz_mkS, mm_mkS, fz_mkS, Fr.mkS, mm_wr_same, mm_wr_ne, wr_wr, bs_oneT, splice_full, gt_zero, gt_succ, gt_set, gt_bs, byte_eq0, byte_eq1, byte_n0, byte_n1, Fr.refl, Fr.nw, Fr.wr, Fr.drew, g, g']
  refine loopE_of (BigI w L (.slice a L.length c)) L.length ?_ ?_
  · exact ⟨0, by omega, by omega, Fr.refl _ _, fun i hi => absurd hi (by omega), by simp [put_get, argE_get]⟩
  · rintro m e w' ⟨j, rfl, hj, hf, hsm, e10, e9, e8⟩
    unfold F32B0
    by_cases hjl : j < L.length
    · obtain ⟨p, hp⟩ : ∃ p, L[j]? = some p := ⟨_, List.getElem?_eq_getElem hjl⟩
      obtain ⟨_, b, o, rfl, hb, hin, htk, hok⟩ := op_at (h.fr0 hf) hp
      obtain ⟨a2, c2, hkv⟩ := sl_of hok.1
      have hji : (j : Int) < L.length := by omega
      have hwj : IntKind.i64.wrap ((j : Int) + 1) = ((j + 1 : Nat) : Int) := wrap64 (by omega) (by omega)
      have hs4 : ∀ l : List Value, l.length = 4 → splice l 0 (opc p) = opc p := fun l hl => splice_full (by rw [hl]; rfl)
      have hone : (∀ v, v ∈ opc p → v.oneCell' = true) = True := by
        simp only [eq_iff_iff, iff_true]
        intro v hv
        simp only [opc, List.mem_cons, List.not_mem_nil, or_false] at hv
        rcases hv with rfl | rfl | rfl | rfl
        · rfl
        · rfl
        · rfl
        · rw [hkv]; rfl
      have hg3 : gt (opc p) 3 = .slice a2 p.1.kept.length c2 := by rw [← hkv]; rfl
      have hol : (opc p).length = 4 := rfl
      by_cases hk : 100 < p.1.kept.length
      · have hk' : (100 : Int) < p.1.kept.length := by omega
        try simp (maxDischargeDepth := 8) [↓bindV_some, ↓bindU_some, ↓condE_true, ↓condE_false, ↓pickE_true, ↓pickE_false, ↓pickE_or, ↓pickE_and, ↓grdE_true, ↓grdE_false, ↓grdE_tf, ↓grdE_ft, ↓grdE_undef, ↓nilE_pt, ↓thenK_normal, ↓thenK_exit, ↓thenK_ret, ↓thenK_goto, ↓thenK_panic, ↓blockK_exit, ↓blockK_normal, ↓blockK_ret, ↓blockK_goto, ↓blockK_panic, ↓loopK_normal, ↓loopK_exit, ↓loopK_ret, ↓loopK_goto, ↓loopK_panic, ↓topK_ret, ↓topK_normal, ↓topK_panic, ↓resVs_nil, ↓resVs_tmp, ↓resVs_cell, tup_one, tup_nil, tup_two, put_get, argE_get, ↓takeE_def, ↓heldE_nil, ↓heldE_cons, qNil_pt, qPick_bool, qGrd_bool, qGrd_undef, ↓letK_def, pBox_eq, pBin_add, pBin_sub, pBin_mul, pBin_eql, pBin_neq, pBin_lss, pBin_leq, pBin_gtr, pBin_geq, pUn_not, pUn_neg, eqB, neB, eqS, neS, pExtract0, pExtract1, pExtract2, max_int, min_int, sz_nw, sz_wr, sz_drew, mm_nw, fz_nw, mm_drew, fz_drew, fz_wr, sz_mkS, mm_mkS, fz_mkS, Fr.mkS, mm_wr_same, mm_wr_ne, wr_wr, bs_oneT, splice_full, gt_zero, gt_succ, gt_set, gt_bs, byte_eq0, byte_eq1, byte_n0, byte_n1, Fr.refl, Fr.nw, Fr.wr, Fr.drew, e10, e9, e8, hjl, hji, hin, htk, hs4, hone, hg3, hol, hk, hk']
        exact (hf.nw _ _).wr (.inr hf.size) _
      · have hk' : ¬ (100 : Int) < p.1.kept.length := by omega
        try simp (maxDischargeDepth := 8) [↓bindV_some, ↓bindU_some, ↓condE_true, ↓condE_false, ↓pickE_true, ↓pickE_false, ↓pickE_or, ↓pickE_and, ↓grdE_true, ↓grdE_false, ↓grdE_tf, ↓grdE_ft, ↓grdE_undef, ↓nilE_pt, ↓thenK_normal, ↓thenK_exit, ↓thenK_ret, ↓thenK_goto, ↓thenK_panic, ↓blockK_exit, ↓blockK_normal, ↓blockK_ret, ↓blockK_goto, ↓blockK_panic, ↓loopK_normal, ↓loopK_exit, ↓loopK_ret, ↓loopK_goto, ↓loopK_panic, ↓topK_ret, ↓topK_normal, ↓topK_panic, ↓resVs_nil, ↓resVs_tmp, ↓resVs_cell, tup_one, tup_nil, tup_two, put_get, argE_get, ↓takeE_def, ↓heldE_nil, ↓heldE_cons, qNil_pt, qPick_bool, qGrd_bool, qGrd_undef, ↓letK_def, pBox_eq, pBin_add, pBin_sub, pBin_mul, pBin_eql, pBin_neq, pBin_lss, pBin_leq, pBin_gtr, pBin_geq, pUn_not, pUn_neg, eqB, neB, eqS, neS, pExtract0, pExtract1, pExtract2, max_int, min_int, sz_nw, sz_wr, sz_drew, mm_nw, fz_nw, mm_drew, fz_drew, fz_wr, sz_mkS, mm_mkS, fz_mkS, Fr.mkS, mm_wr_same, mm_wr_ne, wr_wr, bs_oneT, splice_full, gt_zero, gt_succ, gt_set, gt_bs, byte_eq0, byte_eq1, byte_n0, byte_n1, Fr.refl, Fr.nw, Fr.wr, Fr.drew, e10, e9, e8, hjl, hji, hin, htk, hs4, hone, hg3, hol, hk, hk', hwj, -Int.natCast_add]
        refine ⟨L.length - (j + 1), by omega, j + 1, rfl, by omega, (hf.nw _ _).wr (.inr hf.size) _, fun i hi q hq => ?_, by simp [put_get, e10, e9, e8]⟩
        by_cases hij : i = j
        · subst hij
          rw [hp] at hq
          cases hq
          omega
        · exact hsm i (by omega) q hq
    · have hje : j = L.length := by omega
      subst hje
      try simp (maxDischargeDepth := 8) [↓bindV_some, ↓bindU_some, ↓condE_true, ↓condE_false, ↓pickE_true, ↓pickE_false, ↓pickE_or, ↓pickE_and, ↓grdE_true, ↓grdE_false, ↓grdE_tf, ↓grdE_ft, ↓grdE_undef, ↓nilE_pt, ↓thenK_normal, ↓thenK_exit, ↓thenK_ret, ↓thenK_goto, ↓thenK_panic, ↓blockK_exit, ↓blockK_normal, ↓blockK_ret, ↓blockK_goto, ↓blockK_panic, ↓loopK_normal, ↓loopK_exit, ↓loopK_ret, ↓loopK_goto, ↓loopK_panic, ↓topK_ret, ↓topK_normal, ↓topK_panic, ↓resVs_nil, ↓resVs_tmp, ↓resVs_cell, tup_one, tup_nil, tup_two, put_get, argE_get, ↓takeE_def, ↓heldE_nil, ↓heldE_cons, qNil_pt, qPick_bool, qGrd_bool, qGrd_undef, ↓letK_def, pBox_eq, pBin_add, pBin_sub, pBin_mul, pBin_eql, pBin_neq, pBin_lss, pBin_leq, pBin_gtr, pBin_geq, pUn_not, pUn_neg, eqB, neB, eqS, neS, pExtract0, pExtract1, pExtract2, max_int, min_int, sz_nw, sz_wr, sz_drew, mm_nw, fz_nw, mm_drew, fz_drew, fz_wr, sz_mkS, mm_mkS, fz_mkS, Fr.mkS, mm_wr_same, mm_wr_ne, wr_wr, bs_oneT, splice_full, gt_zero, gt_succ, gt_set, gt_bs, byte_eq0, byte_eq1, byte_n0, byte_n1, Fr.refl, Fr.nw, Fr.wr, Fr.drew, e10, e9, e8]
      refine ⟨⟨by omega, fun p q hp => ?_⟩, hf⟩
      obtain ⟨i, hi⟩ := List.getElem?_of_mem hp
      exact hsm i (List.getElem?_eq_some_iff.1 hi).1 _ hi

def secOf (x : UInt8) : List UInt8 := (List.range 64).map fun i => x + UInt8.ofNat i
theorem secOf_length (x : UInt8) : (secOf x).length = 64 := by simp [secOf]
theorem gb_secOf (x : UInt8) {i : Nat} (h : i < 64) : gb (secOf x) i = x + UInt8.ofNat i := by
  unfold gb secOf
  rw [List.getD_eq_getElem?_getD, List.getElem?_map, List.getElem?_range h]; rfl
def SecI (w : World) (x : UInt8) (m : Nat) (e : Env) (w' : World) : Prop :=
  ∃ (j : Nat) (S : List UInt8), m = 64 - j ∧ j ≤ 64 ∧ Fr [] w w' ∧ mm w' (sz w) = bs (zb 64) ∧ mm w' (sz w + 1) = bs S ∧ fz w' (sz w) = false ∧ fz w' (sz w + 1) = false ∧ sz w + 1 < sz w' ∧ S.length = 64 ∧ (∀ i, gb S i = if i < j then x + UInt8.ofNat i else 0) ∧
    e 5 = i64 j ∧ e 0 = bv x ∧ e 3 = pt (sz w + 1) 0 ∧ e 2 = pt (sz w) 0
theorem sector_spec {w : World} {x : UInt8} : Ret P 33 #[bv x] w fun v w' => v = sec (secOf x) ∧ Fr [] w w' := by
  refine F33ok ?_
  unfold F33
  try simp (maxDischargeDepth := 8) [↓bindV_some, ↓bindU_some, ↓condE_true, ↓condE_false, ↓pickE_true, ↓pickE_false, ↓pickE_or, ↓pickE_and, ↓grdE_true, ↓grdE_false, ↓grdE_tf, ↓grdE_ft, ↓grdE_undef, ↓nilE_pt, ↓thenK_normal, ↓thenK_exit, ↓thenK_ret, ↓thenK_goto, ↓thenK_panic, ↓blockK_exit, ↓blockK_normal, ↓blockK_ret, ↓blockK_goto, ↓blockK_panic, ↓loopK_normal, ↓loopK_exit, ↓loopK_ret, ↓loopK_goto, ↓loopK_panic, ↓topK_ret, ↓topK_normal, ↓topK_panic, ↓resVs_nil, ↓resVs_tmp, ↓resVs_cell, tup_one, tup_nil, tup_two, put_get, argE_get, ↓takeE_def, ↓heldE_nil, ↓heldE_cons, qNil_pt, qPick_bool, qGrd_bool, qGrd_undef, ↓letK_def, pBox_eq, pBin_add, pBin_sub, pBin_mul, pBin_eql, pBin_neq, pBin_lss, pBin_leq, pBin_gtr, pBin_geq, pUn_not, pUn_neg, eqB, neB, eqS, neS, pExtract0, pExtract1, pExtract2, max_int, min_int, sz_nw, sz_wr, sz_drew, mm_nw, fz_nw, mm_drew, fz_drew, fz_wr, sz_mkS, mm_mkS, fz_mkS, Fr.mkS, mm_wr_same, mm_wr_ne, wr_wr, bs_oneT, splice_full, gt_zero, gt_succ, gt_set, gt_bs, byte_eq0, byte_eq1, byte_n0, byte_n1, Fr.refl, Fr.nw, Fr.wr, Fr.drew]
  refine loopE_of (SecI w x) 64 ?_ ?_
  · refine ⟨0, zb 64, by omega, by omega, ((Fr.refl [] w).nw _ _).nw _ _, ?_, ?_, ?_, ?_, ?_, by simp, fun i => by rw [gb_zb]; rfl, by simp [put_get, argE_get]⟩ <;> simp [sz_nw, sz_wr, sz_drew, mm_nw, fz_nw, mm_drew, fz_drew, fz_wr, sz_mkS, mm_mkS, fz_mkS, Fr.mkS, mm_wr_same, mm_wr_ne, wr_wr, bs_oneT, splice_full, gt_zero, gt_succ, gt_set, gt_bs, byte_eq0, byte_eq1, byte_n0, byte_n1, Fr.refl, Fr.nw, Fr.wr, Fr.drew]
  · rintro m e w' ⟨j, S, rfl, hj, hf, hm0, hm1, hz0, hz1, hsz, hS, hgb, e5, e0, e3, e2⟩
    unfold F33B0
    by_cases hjl : j < 64
    · have hji : (j : Int) < 64 := by omega
      have hwj : IntKind.i64.wrap ((j : Int) + 1) = ((j + 1 : Nat) : Int) := wrap64 (by omega) (by omega)
      have hc : ∀ w, pConv P 3 5 (i64 j) w = some (.int .u8 j, w) := fun w => by
        rw [cv5 tyOk3]
        congr 3
        simp only [IntKind.wrap, IntKind.bits, IntKind.signed]
        simp; omega
      have hadd : ∀ w, pBin P .add 5 false (bv x) (.int .u8 j) w = some (bv (x + UInt8.ofNat j), w) := fun w => by
        unfold bv
        rw [pBin_add]
        congr 3
        simp only [IntKind.wrap, IntKind.bits, IntKind.signed]
        simp
      try simp (maxDischargeDepth := 8) [hc, hadd, ↓bindV_some, ↓bindU_some, ↓condE_true, ↓condE_false, ↓pickE_true, ↓pickE_false, ↓pickE_or, ↓pickE_and, ↓grdE_true, ↓grdE_false, ↓grdE_tf, ↓grdE_ft, ↓grdE_undef, ↓nilE_pt, ↓thenK_normal, ↓thenK_exit, ↓thenK_ret, ↓thenK_goto, ↓thenK_panic, ↓blockK_exit, ↓blockK_normal, ↓blockK_ret, ↓blockK_goto, ↓blockK_panic, ↓loopK_normal, ↓loopK_exit, ↓loopK_ret, ↓loopK_goto, ↓loopK_panic, ↓topK_ret, ↓topK_normal, ↓topK_panic, ↓resVs_nil, ↓resVs_tmp, ↓resVs_cell, tup_one, tup_nil, tup_two, put_get, argE_get, ↓takeE_def, ↓heldE_nil, ↓heldE_cons, qNil_pt, qPick_bool, qGrd_bool, qGrd_undef, ↓letK_def, pBox_eq, pBin_add, pBin_sub, pBin_mul, pBin_eql, pBin_neq, pBin_lss, pBin_leq, pBin_gtr, pBin_geq, pUn_not, pUn_neg, eqB, neB, eqS, neS, pExtract0, pExtract1, pExtract2, max_int, min_int, -cv5, sz_nw, sz_wr, sz_drew, mm_nw, fz_nw, mm_drew, fz_drew, fz_wr, sz_mkS, mm_mkS, fz_mkS, Fr.mkS, mm_wr_same, mm_wr_ne, wr_wr, bs_oneT, splice_full, gt_zero, gt_succ, gt_set, gt_bs, byte_eq0, byte_eq1, byte_n0, byte_n1, Fr.refl, Fr.nw, Fr.wr, Fr.drew, e5, e0, e3, e2, hji, hjl, hS, hm0, hm1, hz0, hz1, hwj, bs_set, -Int.natCast_add]
      refine ⟨64 - (j + 1), by omega, j + 1, S.set j (x + UInt8.ofNat j), rfl, by omega, hf.wr (.inr (by omega)) _, ?_, ?_, ?_, ?_, ?_, by simp [hS], fun i => ?_, by simp [put_get, e5, e0, e3, e2]⟩
      · simp [sz_nw, sz_wr, sz_drew, mm_nw, fz_nw, mm_drew, fz_drew, fz_wr, sz_mkS, mm_mkS, fz_mkS, Fr.mkS, mm_wr_same, mm_wr_ne, wr_wr, bs_oneT, splice_full, gt_zero, gt_succ, gt_set, gt_bs, byte_eq0, byte_eq1, byte_n0, byte_n1, Fr.refl, Fr.nw, Fr.wr, Fr.drew, hm0]
      · simp [sz_nw, sz_wr, sz_drew, mm_nw, fz_nw, mm_drew, fz_drew, fz_wr, sz_mkS, mm_mkS, fz_mkS, Fr.mkS, mm_wr_same, mm_wr_ne, wr_wr, bs_oneT, splice_full, gt_zero, gt_succ, gt_set, gt_bs, byte_eq0, byte_eq1, byte_n0, byte_n1, Fr.refl, Fr.nw, Fr.wr, Fr.drew, hz1]
      · simp [sz_nw, sz_wr, sz_drew, mm_nw, fz_nw, mm_drew, fz_drew, fz_wr, sz_mkS, mm_mkS, fz_mkS, Fr.mkS, mm_wr_same, mm_wr_ne, wr_wr, bs_oneT, splice_full, gt_zero, gt_succ, gt_set, gt_bs, byte_eq0, byte_eq1, byte_n0, byte_n1, Fr.refl, Fr.nw, Fr.wr, Fr.drew, hz0]
      · simp [sz_nw, sz_wr, sz_drew, mm_nw, fz_nw, mm_drew, fz_drew, fz_wr, sz_mkS, mm_mkS, fz_mkS, Fr.mkS, mm_wr_same, mm_wr_ne, wr_wr, bs_oneT, splice_full, gt_zero, gt_succ, gt_set, gt_bs, byte_eq0, byte_eq1, byte_n0, byte_n1, Fr.refl, Fr.nw, Fr.wr, Fr.drew, hz1]
      · simp [sz_nw, sz_wr, sz_drew, mm_nw, fz_nw, mm_drew, fz_drew, fz_wr, sz_mkS, mm_mkS, fz_mkS, Fr.mkS, mm_wr_same, mm_wr_ne, wr_wr, bs_oneT, splice_full, gt_zero, gt_succ, gt_set, gt_bs, byte_eq0, byte_eq1, byte_n0, byte_n1, Fr.refl, Fr.nw, Fr.wr, Fr.drew, hsz]
      · rw [gb_set (by omega), hgb]
        by_cases hij : i = j
        · subst hij; simp
        · by_cases hlt : i < j
          · rw [if_neg hij, if_pos hlt, if_pos (by omega)]
          · rw [if_neg hij, if_neg hlt, if_neg (by omega)]
    · have hje : j = 64 := by omega
      subst hje
      have hSe : S = secOf x := gb_ext (by rw [hS, secOf_length]) fun i hi => by
        rw [hgb, if_pos (by omega), gb_secOf x (by omega)]
      subst hSe
      try simp (maxDischargeDepth := 8) [↓bindV_some, ↓bindU_some, ↓condE_true, ↓condE_false, ↓pickE_true, ↓pickE_false, ↓pickE_or, ↓pickE_and, ↓grdE_true, ↓grdE_false, ↓grdE_tf, ↓grdE_ft, ↓grdE_undef, ↓nilE_pt, ↓thenK_normal, ↓thenK_exit, ↓thenK_ret, ↓thenK_goto, ↓thenK_panic, ↓blockK_exit, ↓blockK_normal, ↓blockK_ret, ↓blockK_goto, ↓blockK_panic, ↓loopK_normal, ↓loopK_exit, ↓loopK_ret, ↓loopK_goto, ↓loopK_panic, ↓topK_ret, ↓topK_normal, ↓topK_panic, ↓resVs_nil, ↓resVs_tmp, ↓resVs_cell, tup_one, tup_nil, tup_two, put_get, argE_get, ↓takeE_def, ↓heldE_nil, ↓heldE_cons, qNil_pt, qPick_bool, qGrd_bool, qGrd_undef, ↓letK_def, pBox_eq, pBin_add, pBin_sub, pBin_mul, pBin_eql, pBin_neq, pBin_lss, pBin_leq, pBin_gtr, pBin_geq, pUn_not, pUn_neg, eqB, neB, eqS, neS, pExtract0, pExtract1, pExtract2, max_int, min_int, sz_nw, sz_wr, sz_drew, mm_nw, fz_nw, mm_drew, fz_drew, fz_wr, sz_mkS, mm_mkS, fz_mkS, Fr.mkS, mm_wr_same, mm_wr_ne, wr_wr, bs_oneT, splice_full, gt_zero, gt_succ, gt_set, gt_bs, byte_eq0, byte_eq1, byte_n0, byte_n1, Fr.refl, Fr.nw, Fr.wr, Fr.drew, e5, e0, e3, e2, hm0, hm1, hz0, hz1, hS, List.take_of_length_le]
      exact hf.wr (.inr (Nat.le_refl _)) _
end Go.Proofs.Yticncfkpfpkfoaa
