/- Whether two rows of the document's parts are the same. -/
import Derived.Test.YtfmcplkijjndlaaPackL
set_option linter.unusedVariables false
set_option linter.unusedSimpArgs false
namespace Go.Proofs.Ytfmcplkijjndlaa
open Go

def okF (P : Program) : List Field → List TypeId → Nat → Bool
  | [], [], _ => true
  | f :: fs, t :: ts, n => Nat.beq f.offset n && !(f.name == "_") && Nat.beq f.type t && tyOk P t && !isAggB P t && okF P fs ts (n + 1)
  | _, _, _ => false
def cellsEq (P : Program) : List TypeId → List Value → List Value → List Bool → Prop
  | [], [], [], [] => True
  | t :: ts, x :: xs, y :: ys, b :: bs => cellEq P t x y b ∧ cellsEq P ts xs ys bs
  | _, _, _, _ => False
theorem fieldsEq_of : ∀ (fs : List Field) (ts : List TypeId) (n : Nat) (xs ys : List Value) (bs : List Bool), okF P fs ts n = true → cellsEq P ts xs ys bs → fieldsEq P fs xs ys bs n := by
  intro fs
  induction fs with
  | nil =>
    intro ts n xs ys bs h h2
    cases ts with
    | nil => cases xs <;> cases ys <;> cases bs <;> first | trivial | exact h2.elim
    | cons t ts => simp [okF] at h
  | cons f fs ih =>
    intro ts n xs ys bs h h2
    cases ts with
    | nil => simp [okF] at h
    | cons t ts =>
      cases xs with
      | nil => exact h2.elim
      | cons x xs =>
        cases ys with
        | nil => exact h2.elim
        | cons y ys =>
          cases bs with
          | nil => exact h2.elim
          | cons b bs =>
            simp only [okF, Bool.and_eq_true, Bool.not_eq_true', beq_eq_false_iff_ne] at h
            obtain ⟨⟨⟨⟨⟨h1, h3⟩, h4⟩, h5⟩, h6⟩, h7⟩ := h
            have e1 := Nat.eq_of_beq_eq_true h1
            have e4 := Nat.eq_of_beq_eq_true h4
            rw [e4.symm] at h5 h6
            exact ⟨e1, h3, h5, h6, by rw [e4]; exact h2.1, ih ts (n + 1) xs ys bs h7 h2.2⟩
theorem str_dec (a c : List UInt8) : ((⟨a.toArray⟩ : ByteArray).toList == (⟨c.toArray⟩ : ByteArray).toList) = decide (a = c) := by rw [← beq_toListBytes, str_eq]
theorem okF75 : okF P (P.fieldsOf 75).toList [5, 25, 2, 25, 9, 4] 0 = true := by kernel_rfl
theorem und75 : P.underlying 75 = some (.struct (P.fieldsOf 75).toList.toArray) := by kernel_rfl
theorem stood75 : P.stoodInHeld 75 = false := by kernel_rfl
theorem neRef {lit : Bool} {w : World} {p q : PartR} : pBin P .neq 75 lit (.agg (refC p).toArray) (.agg (refC q).toArray) w = some (.bool (decide (p ≠ q)), w) := by
  have hc : cellsEq P [5, 25, 2, 25, 9, 4] (refC p) (refC q) [decide (p.kind = q.kind), decide (p.u = q.u), decide (p.i = q.i), decide (p.k = q.k), decide (p.s = q.s), decide (p.b = q.b)] := by
    refine ⟨.inl ⟨.u8, _, _, und5, rfl, rfl, ?_⟩, .inl ⟨.u64, _, _, und25, rfl, rfl, ?_⟩, .inl ⟨.i64, _, _, und2, rfl, rfl, ?_⟩, .inl ⟨.u64, _, _, und25, rfl, rfl, ?_⟩, .inr (.inr ⟨_, _, und9, rfl, rfl, (str_dec _ _).symm⟩), .inr (.inl ⟨_, _, und4, rfl, rfl, ?_⟩), trivial⟩
    · rw [Bool.eq_iff_iff]; simp only [decide_eq_true_eq, beq_iff_eq, Int.natCast_inj]; exact UInt8.toNat_inj.symm
    · rw [Bool.eq_iff_iff]; simp only [decide_eq_true_eq, beq_iff_eq, Int.natCast_inj]
    · rw [Bool.eq_iff_iff]; simp only [decide_eq_true_eq, beq_iff_eq]
    · rw [Bool.eq_iff_iff]; simp only [decide_eq_true_eq, beq_iff_eq, Int.natCast_inj]
    · rw [Bool.eq_iff_iff]; simp only [decide_eq_true_eq, beq_iff_eq]
  have hr := pNe_struct (P := P) (t := 75) (lit := lit) (w := w) (xs := (refC p).toArray) (ys := (refC q).toArray) und75 stood75 eqg75 (fieldsEq_of _ _ 0 _ _ _ okF75 hc)
  rw [hr]
  congr 3
  obtain ⟨a1, a2, a3, a4, a5, a6⟩ := p
  obtain ⟨b1, b2, b3, b4, b5, b6⟩ := q
  rw [Bool.eq_iff_iff]
  simp

def SaI (w : World) (v u : Value) (L M : List PartR) (m : Nat) (e : Env) (w' : World) : Prop :=
  ∃ j : Nat, m = L.length - j ∧ j ≤ L.length ∧ j ≤ M.length ∧ Fr [] w w' ∧ L.take j = M.take j ∧ e 0 = v ∧ e 1 = u ∧ e 6 = v ∧ e 7 = i64 L.length ∧ e 8 = i64 j
theorem sameR_spec {w : World} {v u : Value} {L M : List PartR} (h : RdV w v L.length (flat refC L)) (h2 : RdV w u M.length (flat refC M)) :
    Ret P 45 #[v, u] w fun x w' => x = .bool (decide (L = M)) ∧ Fr [] w w' := by
  refine F45ok ?_
  unfold F45
  obtain ⟨va, vc, hv⟩ := sl_of h
  obtain ⟨ua, uc, hu⟩ := sl_of h2
  subst hv hu
  have hm1 := h.len
  have hm2 := h2.len
  try simp (maxDischargeDepth := 8) [↓bindV_some, ↓bindU_some, ↓condE_true, ↓condE_false, ↓pickE_true, ↓pickE_false, ↓pickE_or, ↓pickE_and, ↓grdE_true, ↓grdE_false, ↓grdE_tf, ↓grdE_ft, ↓grdE_undef, ↓nilE_pt, ↓thenK_normal, ↓thenK_exit, ↓thenK_ret, ↓thenK_goto, ↓thenK_panic, ↓blockK_exit, ↓blockK_normal, ↓blockK_ret, ↓blockK_goto, ↓blockK_panic, ↓loopK_normal, ↓loopK_exit, ↓loopK_ret, ↓loopK_goto, ↓loopK_panic, ↓topK_ret, ↓topK_normal, ↓topK_panic, ↓resVs_nil, ↓resVs_tmp, ↓resVs_cell, tup_one, tup_nil, tup_two, put_get, argE_get, ↓takeE_def, ↓heldE_nil, ↓heldE_cons, qNil_pt, qPick_bool, qGrd_bool, qGrd_undef, ↓letK_def, pBox_eq, pBin_add, pBin_sub, pBin_mul, pBin_eql, pBin_neq, pBin_lss, pBin_leq, pBin_gtr, pBin_geq, pUn_not, pUn_neg, eqB, neB, eqS, neS, pExtract0, pExtract1, pExtract2, max_int, min_int, sz_nw, sz_wr, sz_drew, mm_nw, fz_nw, mm_drew, fz_drew, fz_wr, sz_mkS, mm_mkS, fz_mkS, Fr.mkS, mm_wr_same, mm_wr_ne, wr_wr, bs_oneT, splice_full, gt_zero, gt_succ, gt_set, gt_bs, byte_eq0, byte_eq1, byte_n0, byte_n1, Fr.refl, Fr.nw, Fr.wr, Fr.drew]
  refine loopE_of (SaI w (.slice va L.length vc) (.slice ua M.length uc) L M) L.length ⟨0, by omega, by omega, by omega, Fr.refl _ _, rfl, by simp [put_get, argE_get], by simp [put_get, argE_get], by simp [put_get], by simp [put_get], by simp [put_get]⟩ ?_
  rintro m e w1 ⟨j, hm, hj, hjM, hf, heq, e0, e1, e6, e7, e8⟩
  subst hm
  unfold F45B0
  by_cases hjl : j < L.length
  · have hji : (j : Int) < L.length := by omega
    obtain ⟨p, hp⟩ : ∃ p, L[j]? = some p := ⟨_, List.getElem?_eq_getElem hjl⟩
    obtain ⟨pb, po, pc, hv2, hpb, hin, htk⟩ := flat_at (h.fr0 hf) (refC_len L) (by omega) hp
    simp only [Value.slice.injEq] at hv2
    obtain ⟨rfl, _, rfl⟩ := hv2
    have hwj : IntKind.i64.wrap ((j : Int) + 1) = ((j + 1 : Nat) : Int) := wrap64 (by omega) (by omega)
    obtain ⟨j1, hj1⟩ : ∃ j1 : Int, j1 = ((j + 1 : Nat) : Int) := ⟨_, rfl⟩
    rw [← hj1] at hwj
    have hia : ∀ w', pIndexAddr P 48 (sl pb po L.length vc) (i64 j) w' = some (pt pb (po + j * 6), w') := fun w' => by
      have := ia48 (w := w') (b := pb) (o := po) (n := L.length) (c := vc) (k := .i64) (j := (j : Int)) (by omega) (by omega)
      rw [this]; simp
    by_cases hjm : j < M.length
    · obtain ⟨q, hq⟩ : ∃ q, M[j]? = some q := ⟨_, List.getElem?_eq_getElem hjm⟩
      obtain ⟨qb, qo, qc, hv3, hqb, hin2, htk2⟩ := flat_at (h2.fr0 hf) (refC_len M) (by omega) hq
      simp only [Value.slice.injEq] at hv3
      obtain ⟨rfl, _, rfl⟩ := hv3
      have hib : ∀ w', pIndexAddr P 48 (sl qb qo M.length uc) (i64 j) w' = some (pt qb (qo + j * 6), w') := fun w' => by
        have := ia48 (w := w') (b := qb) (o := qo) (n := M.length) (c := uc) (k := .i64) (j := (j : Int)) (by omega) (by omega)
        rw [this]; simp
      have c1 : ((M.length : Int) ≤ j) = False := eq_false (by omega)
      have c2 : (M.length ≤ j) = False := eq_false (by omega)
      have hne : ∀ w, pBin P .neq 75 false (.agg (refC p).toArray) (.agg (refC q).toArray) w = some (.bool (decide (p ≠ q)), w) := fun w => neRef
      by_cases hpq : p = q
      · have d1 : decide (p ≠ q) = false := by simpa using hpq
        rw [d1] at hne
        try simp (maxDischargeDepth := 8) [↓bindV_some, ↓bindU_some, ↓condE_true, ↓condE_false, ↓pickE_true, ↓pickE_false, ↓pickE_or, ↓pickE_and, ↓grdE_true, ↓grdE_false, ↓grdE_tf, ↓grdE_ft, ↓grdE_undef, ↓nilE_pt, ↓thenK_normal, ↓thenK_exit, ↓thenK_ret, ↓thenK_goto, ↓thenK_panic, ↓blockK_exit, ↓blockK_normal, ↓blockK_ret, ↓blockK_goto, ↓blockK_panic, ↓loopK_normal, ↓loopK_exit, ↓loopK_ret, ↓loopK_goto, ↓loopK_panic, ↓topK_ret, ↓topK_normal, ↓topK_panic, ↓resVs_nil, ↓resVs_tmp, ↓resVs_cell, tup_one, tup_nil, tup_two, put_get, argE_get, ↓takeE_def, ↓heldE_nil, ↓heldE_cons, qNil_pt, qPick_bool, qGrd_bool, qGrd_undef, ↓letK_def, pBox_eq, pBin_add, pBin_sub, pBin_mul, pBin_eql, pBin_neq, pBin_lss, pBin_leq, pBin_gtr, pBin_geq, pUn_not, pUn_neg, eqB, neB, eqS, neS, pExtract0, pExtract1, pExtract2, max_int, min_int, sz_nw, sz_wr, sz_drew, mm_nw, fz_nw, mm_drew, fz_drew, fz_wr, sz_mkS, mm_mkS, fz_mkS, Fr.mkS, mm_wr_same, mm_wr_ne, wr_wr, bs_oneT, splice_full, gt_zero, gt_succ, gt_set, gt_bs, byte_eq0, byte_eq1, byte_n0, byte_n1, Fr.refl, Fr.nw, Fr.wr, Fr.drew, e0, e1, e6, e7, e8, hji, hjl, c1, c2, hia, hib, hin, hin2, htk, htk2, hne, hwj]
        exact ⟨L.length - (j + 1), by omega, j + 1, rfl, by omega, by omega, hf.drew, by rw [List.take_add_one, List.take_add_one, heq, hp, hq, hpq], by simp [put_get, e0], by simp [put_get, e1], by simp [put_get, e6], by simp [put_get, e7], by simp [put_get, hj1]⟩
      · have d1 : decide (p ≠ q) = true := by simpa using hpq
        rw [d1] at hne
        have hLM : L ≠ M := by
          rintro rfl
          rw [hp] at hq
          exact hpq (by simpa using hq)
        try simp (maxDischargeDepth := 8) [↓bindV_some, ↓bindU_some, ↓condE_true, ↓condE_false, ↓pickE_true, ↓pickE_false, ↓pickE_or, ↓pickE_and, ↓grdE_true, ↓grdE_false, ↓grdE_tf, ↓grdE_ft, ↓grdE_undef, ↓nilE_pt, ↓thenK_normal, ↓thenK_exit, ↓thenK_ret, ↓thenK_goto, ↓thenK_panic, ↓blockK_exit, ↓blockK_normal, ↓blockK_ret, ↓blockK_goto, ↓blockK_panic, ↓loopK_normal, ↓loopK_exit, ↓loopK_ret, ↓loopK_goto, ↓loopK_panic, ↓topK_ret, ↓topK_normal, ↓topK_panic, ↓resVs_nil, ↓resVs_tmp, ↓resVs_cell, tup_one, tup_nil, tup_two, put_get, argE_get, ↓takeE_def, ↓heldE_nil, ↓heldE_cons, qNil_pt, qPick_bool, qGrd_bool, qGrd_undef, ↓letK_def, pBox_eq, pBin_add, pBin_sub, pBin_mul, pBin_eql, pBin_neq, pBin_lss, pBin_leq, pBin_gtr, pBin_geq, pUn_not, pUn_neg, eqB, neB, eqS, neS, pExtract0, pExtract1, pExtract2, max_int, min_int, sz_nw, sz_wr, sz_drew, mm_nw, fz_nw, mm_drew, fz_drew, fz_wr, sz_mkS, mm_mkS, fz_mkS, Fr.mkS, mm_wr_same, mm_wr_ne, wr_wr, bs_oneT, splice_full, gt_zero, gt_succ, gt_set, gt_bs, byte_eq0, byte_eq1, byte_n0, byte_n1, Fr.refl, Fr.nw, Fr.wr, Fr.drew, e0, e1, e6, e7, e8, hji, hjl, c1, c2, hia, hib, hin, hin2, htk, htk2, hne, hwj]
        exact ⟨by simpa using hLM, hf.drew⟩
    · have c1 : ((M.length : Int) ≤ j) = True := eq_true (by omega)
      have c2 : (M.length ≤ j) = True := eq_true (by omega)
      have hLM : L ≠ M := by rintro rfl; omega
      try simp (maxDischargeDepth := 8) [↓bindV_some, ↓bindU_some, ↓condE_true, ↓condE_false, ↓pickE_true, ↓pickE_false, ↓pickE_or, ↓pickE_and, ↓grdE_true, ↓grdE_false, ↓grdE_tf, ↓grdE_ft, ↓grdE_undef, ↓nilE_pt, ↓thenK_normal, ↓thenK_exit, ↓thenK_ret, ↓thenK_goto, ↓thenK_panic, ↓blockK_exit, ↓blockK_normal, ↓blockK_ret, ↓blockK_goto, ↓blockK_panic, ↓loopK_normal, ↓loopK_exit, ↓loopK_ret, ↓loopK_goto, ↓loopK_panic, ↓topK_ret, ↓topK_normal, ↓topK_panic, ↓resVs_nil, ↓resVs_tmp, ↓resVs_cell, tup_one, tup_nil, tup_two, put_get, argE_get, ↓takeE_def, ↓heldE_nil, ↓heldE_cons, qNil_pt, qPick_bool, qGrd_bool, qGrd_undef, ↓letK_def, pBox_eq, pBin_add, pBin_sub, pBin_mul, pBin_eql, pBin_neq, pBin_lss, pBin_leq, pBin_gtr, pBin_geq, pUn_not, pUn_neg, eqB, neB, eqS, neS, pExtract0, pExtract1, pExtract2, max_int, min_int, sz_nw, sz_wr, sz_drew, mm_nw, fz_nw, mm_drew, fz_drew, fz_wr, sz_mkS, mm_mkS, fz_mkS, Fr.mkS, mm_wr_same, mm_wr_ne, wr_wr, bs_oneT, splice_full, gt_zero, gt_succ, gt_set, gt_bs, byte_eq0, byte_eq1, byte_n0, byte_n1, Fr.refl, Fr.nw, Fr.wr, Fr.drew, e0, e1, e6, e7, e8, hji, hjl, c1, c2]
      exact ⟨by simpa using hLM, hf.drew⟩
  · have hje : j = L.length := by omega
    subst hje
    try simp (maxDischargeDepth := 8) [↓bindV_some, ↓bindU_some, ↓condE_true, ↓condE_false, ↓pickE_true, ↓pickE_false, ↓pickE_or, ↓pickE_and, ↓grdE_true, ↓grdE_false, ↓grdE_tf, ↓grdE_ft, ↓grdE_undef, ↓nilE_pt, ↓thenK_normal, ↓thenK_exit, ↓thenK_ret, ↓thenK_goto, ↓thenK_panic, ↓blockK_exit, ↓blockK_normal, ↓blockK_ret, ↓blockK_goto, ↓blockK_panic, ↓loopK_normal, ↓loopK_exit, ↓loopK_ret, ↓loopK_goto, ↓loopK_panic, ↓topK_ret, ↓topK_normal, ↓topK_panic, ↓resVs_nil, ↓resVs_tmp, ↓resVs_cell, tup_one, tup_nil, tup_two, put_get, argE_get, ↓takeE_def, ↓heldE_nil, ↓heldE_cons, qNil_pt, qPick_bool, qGrd_bool, qGrd_undef, ↓letK_def, pBox_eq, pBin_add, pBin_sub, pBin_mul, pBin_eql, pBin_neq, pBin_lss, pBin_leq, pBin_gtr, pBin_geq, pUn_not, pUn_neg, eqB, neB, eqS, neS, pExtract0, pExtract1, pExtract2, max_int, min_int, sz_nw, sz_wr, sz_drew, mm_nw, fz_nw, mm_drew, fz_drew, fz_wr, sz_mkS, mm_mkS, fz_mkS, Fr.mkS, mm_wr_same, mm_wr_ne, wr_wr, bs_oneT, splice_full, gt_zero, gt_succ, gt_set, gt_bs, byte_eq0, byte_eq1, byte_n0, byte_n1, Fr.refl, Fr.nw, Fr.wr, Fr.drew, e0, e1, e7, e8]
    refine ⟨?_, hf⟩
    rw [List.take_length] at heq
    constructor
    · intro hlen
      rw [heq, List.take_of_length_le (by omega)]
    · intro h; rw [h]
end Go.Proofs.Ytfmcplkijjndlaa
