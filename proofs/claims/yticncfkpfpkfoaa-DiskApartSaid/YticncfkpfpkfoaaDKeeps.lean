/- DiskKeeps: the walk. -/
import Derived.Test.YticncfkpfpkfoaaDKeeps0
set_option linter.unusedVariables false
set_option linter.unusedSimpArgs false
namespace Go.Proofs.Yticncfkpfpkfoaa
open Go

def FillK (w : World) (b : Nat) (l : List (OpM × Value)) (v0 v1 v2 : Value) (m : Nat) (e : Env) (w' : World) : Prop :=
  ∃ (j : Nat) (F' : List Nat), m = l.length - j ∧ j ≤ l.length ∧ IsD w' b (putD (newD 8) l j) F' ∧ Own w w' F' ∧ e 38 = i64 j ∧ e 37 = i64 l.length ∧ e 36 = v0 ∧ e 7 = pt b 0 ∧ e 0 = v0 ∧ e 1 = v1 ∧ e 2 = v2
theorem opc_one {w : World} {p : OpM × Value} (h : OkOp w p) : (∀ v, v ∈ opc p → v.oneCell' = true) = True := by
  obtain ⟨a2, c2, hkv⟩ := sl_of h.1
  simp only [eq_iff_iff, iff_true]
  intro v hv
  simp only [opc, List.mem_cons, List.not_mem_nil, or_false] at hv
  rcases hv with rfl | rfl | rfl | rfl
  · rfl
  · rfl
  · rfl
  · rw [hkv]; rfl

theorem fillK_step {w : World} {b : Nat} {l : List (OpM × Value)} {v0 v1 v2 : Value} (h : IsOps w v0 l) (hl : l.length ≤ 100) {j : Nat} {e : Env} {w' : World} (hj : j < l.length) (hI : FillK w b l v0 v1 v2 (l.length - j) e w') {K : KT}
    (hK : ∀ e' w'', FillK w b l v0 v1 v2 (l.length - (j + 1)) e' w'' → K .normal e' w'') : F6B0 e w' K := by
  obtain ⟨j', F', hm, hj', hd, hO, e38, e37, e36, e7, e0, e1, e2⟩ := hI
  have : j' = j := by omega
  subst this
  unfold F6B0
  obtain ⟨p, hp⟩ : ∃ p, l[j']? = some p := ⟨_, List.getElem?_eq_getElem hj⟩
  obtain ⟨u1, u2, u3, u4, u5, u6⟩ := putD_props (D := newD 8) (L := l) (N := 8) up_new (j := j') (by omega)
  have hpu := putD_succ (D := newD 8) hp
  have hn0 : (newD 8).pend.length = 0 ∧ (newD 8).writes = 0 := ⟨rfl, rfl⟩
  have h' := h.fr0 hO.fr
  obtain ⟨a, c, hv0⟩ := sl_of h'.1
  subst hv0
  obtain ⟨_, ob, oo, rfl, hb, hin, htk, hok⟩ := op_at h' hp
  have hji : (j' : Int) < l.length := by omega
  have hwj : IntKind.i64.wrap ((j' : Int) + 1) = ((j' + 1 : Nat) : Int) := wrap64 (by omega) (by omega)
  have hs4 : ∀ l : List Value, l.length = 4 → splice l 0 (opc p) = opc p := fun l hl => splice_full (by rw [hl]; rfl)
  have hone := opc_one hok
  have hg0 : gt (opc p) 0 = i64 p.1.kind := rfl
  have hg1 : gt (opc p) 1 = i64 p.1.n := rfl
  have hg2 : gt (opc p) 2 = bv p.1.fill := rfl
  have hol : (opc p).length = 4 := rfl
  have hz : sz w ≤ sz w' := hO.fr.size
  have hf0 : ∀ l t, Fr [] w' (wr (nw w' l t) (sz w') (opc p)) := fun l t => ((Fr.refl [] w').nw _ _).wr (.inr (Nat.le_refl _)) _
  by_cases hk : p.1.kind = 0
  · try simp (maxDischargeDepth := 8) [↓bindV_some, ↓bindU_some, ↓condE_true, ↓condE_false, ↓pickE_true, ↓pickE_false, ↓pickE_or, ↓pickE_and, ↓grdE_true, ↓grdE_false, ↓grdE_tf, ↓grdE_ft, ↓grdE_undef, ↓nilE_pt, ↓thenK_normal, ↓thenK_exit, ↓thenK_ret, ↓thenK_goto, ↓thenK_panic, ↓blockK_exit, ↓blockK_normal, ↓blockK_ret, ↓blockK_goto, ↓blockK_panic, ↓loopK_normal, ↓loopK_exit, ↓loopK_ret, ↓loopK_goto, ↓loopK_panic, ↓topK_ret, ↓topK_normal, ↓topK_panic, ↓resVs_nil, ↓resVs_tmp, ↓resVs_cell, tup_one, tup_nil, tup_two, put_get, argE_get, ↓takeE_def, ↓heldE_nil, ↓heldE_cons, qNil_pt, qPick_bool, qGrd_bool, qGrd_undef, ↓letK_def, pBox_eq, pBin_add, pBin_sub, pBin_mul, pBin_eql, pBin_neq, pBin_lss, pBin_leq, pBin_gtr, pBin_geq, pUn_not, pUn_neg, eqB, neB, eqS, neS, pExtract0, pExtract1, pExtract2, max_int, min_int, sz_nw, sz_wr, sz_drew, mm_nw, fz_nw, mm_drew, fz_drew, fz_wr, sz_mkS, mm_mkS, fz_mkS, Fr.mkS, mm_wr_same, mm_wr_ne, wr_wr, bs_oneT, splice_full, gt_zero, gt_succ, gt_set, gt_bs, byte_eq0, byte_eq1, byte_n0, byte_n1, Fr.refl, Fr.nw, Fr.wr, Fr.drew, e38, e37, e36, e7, hj, hji, hin, htk, hs4, hone, hg0, hg1, hg2, hol, hk]
    generalize hW : drew (wr (nw w' [Value.int IntKind.i64 0, Value.int IntKind.i64 0, Value.int IntKind.u8 0, Value.slice none 0 0] 46) (sz w') (opc p)) = W
    have hfW : Fr [] w' W := by rw [← hW]; exact (hf0 _ _).drew
    have hmW : mm W (sz w') = opc p := by rw [← hW]; simp [sz_nw, sz_wr, sz_drew, mm_nw, fz_nw, mm_drew, fz_drew, fz_wr, sz_mkS, mm_mkS, fz_mkS, Fr.mkS, mm_wr_same, mm_wr_ne, wr_wr, bs_oneT, splice_full, gt_zero, gt_succ, gt_set, gt_bs, byte_eq0, byte_eq1, byte_n0, byte_n1, Fr.refl, Fr.nw, Fr.wr, Fr.drew]
    have hsW : sz w' < sz W := by rw [← hW]; simp [sz_nw, sz_wr, sz_drew, mm_nw, fz_nw, mm_drew, fz_drew, fz_wr, sz_mkS, mm_mkS, fz_mkS, Fr.mkS, mm_wr_same, mm_wr_ne, wr_wr, bs_oneT, splice_full, gt_zero, gt_succ, gt_set, gt_bs, byte_eq0, byte_eq1, byte_n0, byte_n1, Fr.refl, Fr.nw, Fr.wr, Fr.drew]
    refine sector_spec.call ?_
    rintro _ w3 ⟨rfl, hf3⟩
    have hm3 : mm w3 (sz w') = opc p := by rw [hf3.mm hsW (by simp), hmW]
    try simp (maxDischargeDepth := 8) [↓bindV_some, ↓bindU_some, ↓condE_true, ↓condE_false, ↓pickE_true, ↓pickE_false, ↓pickE_or, ↓pickE_and, ↓grdE_true, ↓grdE_false, ↓grdE_tf, ↓grdE_ft, ↓grdE_undef, ↓nilE_pt, ↓thenK_normal, ↓thenK_exit, ↓thenK_ret, ↓thenK_goto, ↓thenK_panic, ↓blockK_exit, ↓blockK_normal, ↓blockK_ret, ↓blockK_goto, ↓blockK_panic, ↓loopK_normal, ↓loopK_exit, ↓loopK_ret, ↓loopK_goto, ↓loopK_panic, ↓topK_ret, ↓topK_normal, ↓topK_panic, ↓resVs_nil, ↓resVs_tmp, ↓resVs_cell, tup_one, tup_nil, tup_two, put_get, argE_get, ↓takeE_def, ↓heldE_nil, ↓heldE_cons, qNil_pt, qPick_bool, qGrd_bool, qGrd_undef, ↓letK_def, pBox_eq, pBin_add, pBin_sub, pBin_mul, pBin_eql, pBin_neq, pBin_lss, pBin_leq, pBin_gtr, pBin_geq, pUn_not, pUn_neg, eqB, neB, eqS, neS, pExtract0, pExtract1, pExtract2, max_int, min_int, sz_nw, sz_wr, sz_drew, mm_nw, fz_nw, mm_drew, fz_drew, fz_wr, sz_mkS, mm_mkS, fz_mkS, Fr.mkS, mm_wr_same, mm_wr_ne, wr_wr, bs_oneT, splice_full, gt_zero, gt_succ, gt_set, gt_bs, byte_eq0, byte_eq1, byte_n0, byte_n1, Fr.refl, Fr.nw, Fr.wr, Fr.drew, hm3, hg0, hg1, hg2, hol]
    refine (write_spec ((hd.fr0 hfW).fr0 hf3) (x := p.1.n) (s := secOf p.1.fill) (secOf_length _) (by omega) (by omega)).call ?_
    rintro _ w4 ⟨rfl, F4, hd4, hf4, hF4⟩
    try simp (maxDischargeDepth := 8) [↓bindV_some, ↓bindU_some, ↓condE_true, ↓condE_false, ↓pickE_true, ↓pickE_false, ↓pickE_or, ↓pickE_and, ↓grdE_true, ↓grdE_false, ↓grdE_tf, ↓grdE_ft, ↓grdE_undef, ↓nilE_pt, ↓thenK_normal, ↓thenK_exit, ↓thenK_ret, ↓thenK_goto, ↓thenK_panic, ↓blockK_exit, ↓blockK_normal, ↓blockK_ret, ↓blockK_goto, ↓blockK_panic, ↓loopK_normal, ↓loopK_exit, ↓loopK_ret, ↓loopK_goto, ↓loopK_panic, ↓topK_ret, ↓topK_normal, ↓topK_panic, ↓resVs_nil, ↓resVs_tmp, ↓resVs_cell, tup_one, tup_nil, tup_two, put_get, argE_get, ↓takeE_def, ↓heldE_nil, ↓heldE_cons, qNil_pt, qPick_bool, qGrd_bool, qGrd_undef, ↓letK_def, pBox_eq, pBin_add, pBin_sub, pBin_mul, pBin_eql, pBin_neq, pBin_lss, pBin_leq, pBin_gtr, pBin_geq, pUn_not, pUn_neg, eqB, neB, eqS, neS, pExtract0, pExtract1, pExtract2, max_int, min_int, sz_nw, sz_wr, sz_drew, mm_nw, fz_nw, mm_drew, fz_drew, fz_wr, sz_mkS, mm_mkS, fz_mkS, Fr.mkS, mm_wr_same, mm_wr_ne, wr_wr, bs_oneT, splice_full, gt_zero, gt_succ, gt_set, gt_bs, byte_eq0, byte_eq1, byte_n0, byte_n1, Fr.refl, Fr.nw, Fr.wr, Fr.drew, e38, hwj, -Int.natCast_add]
    refine hK _ _ ⟨j' + 1, F4, rfl, by omega, ?_, ((hO.calm hfW).calm hf3).step hf4 hF4, by simp [put_get, e38, e37, e36, e7, e0, e1, e2]⟩
    rw [hpu]; unfold putOne; rw [if_pos hk]; exact hd4
  · try simp (maxDischargeDepth := 8) [↓bindV_some, ↓bindU_some, ↓condE_true, ↓condE_false, ↓pickE_true, ↓pickE_false, ↓pickE_or, ↓pickE_and, ↓grdE_true, ↓grdE_false, ↓grdE_tf, ↓grdE_ft, ↓grdE_undef, ↓nilE_pt, ↓thenK_normal, ↓thenK_exit, ↓thenK_ret, ↓thenK_goto, ↓thenK_panic, ↓blockK_exit, ↓blockK_normal, ↓blockK_ret, ↓blockK_goto, ↓blockK_panic, ↓loopK_normal, ↓loopK_exit, ↓loopK_ret, ↓loopK_goto, ↓loopK_panic, ↓topK_ret, ↓topK_normal, ↓topK_panic, ↓resVs_nil, ↓resVs_tmp, ↓resVs_cell, tup_one, tup_nil, tup_two, put_get, argE_get, ↓takeE_def, ↓heldE_nil, ↓heldE_cons, qNil_pt, qPick_bool, qGrd_bool, qGrd_undef, ↓letK_def, pBox_eq, pBin_add, pBin_sub, pBin_mul, pBin_eql, pBin_neq, pBin_lss, pBin_leq, pBin_gtr, pBin_geq, pUn_not, pUn_neg, eqB, neB, eqS, neS, pExtract0, pExtract1, pExtract2, max_int, min_int, sz_nw, sz_wr, sz_drew, mm_nw, fz_nw, mm_drew, fz_drew, fz_wr, sz_mkS, mm_mkS, fz_mkS, Fr.mkS, mm_wr_same, mm_wr_ne, wr_wr, bs_oneT, splice_full, gt_zero, gt_succ, gt_set, gt_bs, byte_eq0, byte_eq1, byte_n0, byte_n1, Fr.refl, Fr.nw, Fr.wr, Fr.drew, e38, e37, e36, e7, hj, hji, hin, htk, hs4, hone, hg0, hg1, hg2, hol, hk, hwj, -Int.natCast_add]
    refine hK _ _ ⟨j' + 1, F', rfl, by omega, ?_, hO.calm (hf0 _ _), by simp [put_get, e38, e37, e36, e7, e0, e1, e2]⟩
    rw [hpu]; unfold putOne; rw [if_neg hk]; exact hd.fr0 (hf0 _ _)

def WasK (w : World) (b aB : Nat) (D : DD) (F : List Nat) (v1 v2 : Value) (m : Nat) (e : Env) (w' : World) : Prop :=
  ∃ (j : Nat) (A : List UInt8), m = 8 - j ∧ j ≤ 8 ∧ IsD w' b D F ∧ Own w w' F ∧ mm w' aB = bs A ∧ fz w' aB = false ∧ A.length = 512 ∧ aB < sz w' ∧ aB ∉ F ∧ sz w ≤ aB ∧
    (∀ i, i < j → (A.drop (i * 64)).take 64 = view D i) ∧ e 55 = i64 j ∧ e 11 = pt aB 0 ∧ e 7 = pt b 0 ∧ e 1 = v1 ∧ e 2 = v2
theorem wasK_step {w : World} {b aB : Nat} {D : DD} {F : List Nat} {v1 v2 : Value} (hu : Up 8 D) {j : Nat} {e : Env} {w' : World} (hj : j < 8) (hI : WasK w b aB D F v1 v2 (8 - j) e w') {K : KT}
    (hK : ∀ e' w'', WasK w b aB D F v1 v2 (8 - (j + 1)) e' w'' → K .normal e' w'') : F6B1 e w' K := by
  obtain ⟨j', A, hm, hj', hd, hO, mA, zA, lA, aS, aF, aW, hA, e55, e11, e7, e1, e2⟩ := hI
  have : j' = j := by omega
  subst this
  unfold F6B1
  have hji : (j' : Int) < 8 := by omega
  have hwj : IntKind.i64.wrap ((j' : Int) + 1) = ((j' + 1 : Nat) : Int) := wrap64 (by omega) (by omega)
  have hok : okE D j' = 0 := hu.ok (by omega) (by omega)
  obtain ⟨S, hS⟩ : ∃ S, S = view D j' := ⟨_, rfl⟩
  have hSl : S.length = 64 := by rw [hS]; exact readD_len hd.1 (by omega) (by rw [hu.len]; omega)
  try simp (maxDischargeDepth := 8) [↓bindV_some, ↓bindU_some, ↓condE_true, ↓condE_false, ↓pickE_true, ↓pickE_false, ↓pickE_or, ↓pickE_and, ↓grdE_true, ↓grdE_false, ↓grdE_tf, ↓grdE_ft, ↓grdE_undef, ↓nilE_pt, ↓thenK_normal, ↓thenK_exit, ↓thenK_ret, ↓thenK_goto, ↓thenK_panic, ↓blockK_exit, ↓blockK_normal, ↓blockK_ret, ↓blockK_goto, ↓blockK_panic, ↓loopK_normal, ↓loopK_exit, ↓loopK_ret, ↓loopK_goto, ↓loopK_panic, ↓topK_ret, ↓topK_normal, ↓topK_panic, ↓resVs_nil, ↓resVs_tmp, ↓resVs_cell, tup_one, tup_nil, tup_two, put_get, argE_get, ↓takeE_def, ↓heldE_nil, ↓heldE_cons, qNil_pt, qPick_bool, qGrd_bool, qGrd_undef, ↓letK_def, pBox_eq, pBin_add, pBin_sub, pBin_mul, pBin_eql, pBin_neq, pBin_lss, pBin_leq, pBin_gtr, pBin_geq, pUn_not, pUn_neg, eqB, neB, eqS, neS, pExtract0, pExtract1, pExtract2, max_int, min_int, sz_nw, sz_wr, sz_drew, mm_nw, fz_nw, mm_drew, fz_drew, fz_wr, sz_mkS, mm_mkS, fz_mkS, Fr.mkS, mm_wr_same, mm_wr_ne, wr_wr, bs_oneT, splice_full, gt_zero, gt_succ, gt_set, gt_bs, byte_eq0, byte_eq1, byte_n0, byte_n1, Fr.refl, Fr.nw, Fr.wr, Fr.drew, e55, e7, hji]
  refine (read_spec hd (x := j') (by omega) (by omega)).call ?_
  rintro _ w1 ⟨rfl, hf1⟩
  rw [if_pos hok, hok, show readD D j' = S from hS.symm]
  have mA1 : mm w1 aB = bs A := by rw [hf1.mm aS (by simp), mA]
  have zA1 : fz w1 aB = false := by rw [hf1.fz aS (by simp), zA]
  have hlt : j' * 64 + 64 ≤ 512 := by omega
  have hone : (∀ v, v ∈ bs S → v.oneCell' = true) = True := bs_oneT S
  have hsp : splice (bs A) (j' * 64) (bs S) = bs (A.take (j' * 64) ++ S ++ A.drop (j' * 64 + 64)) := by
    simp only [splice, bs_length, bs_take, bs_drop, ← bs_append, hSl]
  have hf2 : ∀ t, Fr [aB] w1 (wr w1 aB t) := fun t => (Fr.refl [aB] w1).wr (.inl (by simp)) _
  try simp (maxDischargeDepth := 8) [↓bindV_some, ↓bindU_some, ↓condE_true, ↓condE_false, ↓pickE_true, ↓pickE_false, ↓pickE_or, ↓pickE_and, ↓grdE_true, ↓grdE_false, ↓grdE_tf, ↓grdE_ft, ↓grdE_undef, ↓nilE_pt, ↓thenK_normal, ↓thenK_exit, ↓thenK_ret, ↓thenK_goto, ↓thenK_panic, ↓blockK_exit, ↓blockK_normal, ↓blockK_ret, ↓blockK_goto, ↓blockK_panic, ↓loopK_normal, ↓loopK_exit, ↓loopK_ret, ↓loopK_goto, ↓loopK_panic, ↓topK_ret, ↓topK_normal, ↓topK_panic, ↓resVs_nil, ↓resVs_tmp, ↓resVs_cell, tup_one, tup_nil, tup_two, put_get, argE_get, ↓takeE_def, ↓heldE_nil, ↓heldE_cons, qNil_pt, qPick_bool, qGrd_bool, qGrd_undef, ↓letK_def, pBox_eq, pBin_add, pBin_sub, pBin_mul, pBin_eql, pBin_neq, pBin_lss, pBin_leq, pBin_gtr, pBin_geq, pUn_not, pUn_neg, eqB, neB, eqS, neS, pExtract0, pExtract1, pExtract2, max_int, min_int, sz_nw, sz_wr, sz_drew, mm_nw, fz_nw, mm_drew, fz_drew, fz_wr, sz_mkS, mm_mkS, fz_mkS, Fr.mkS, mm_wr_same, mm_wr_ne, wr_wr, bs_oneT, splice_full, gt_zero, gt_succ, gt_set, gt_bs, byte_eq0, byte_eq1, byte_n0, byte_n1, Fr.refl, Fr.nw, Fr.wr, Fr.drew, e55, e11, e7, hji, hj, mA1, zA1, lA, hSl, hlt, hone, hsp, hwj, -Int.natCast_add]
  have hd1 := hd.fr0 hf1
  refine hK _ _ ⟨j' + 1, A.take (j' * 64) ++ S ++ A.drop (j' * 64 + 64), rfl, by omega, hd1.fr (hf2 _) (fun k hk h => ?_), ⟨(hO.calm hf1).fr.trans (hf2 _) (fun k hk => ?_), hO.own⟩, ?_, ?_, ?_, ?_, aF, aW, fun i hi => ?_, by simp [put_get, e55, e11, e7, e1, e2]⟩
  · simp at h; subst h; exact aF hk
  · simp at hk; subst hk; exact .inr aW
  · rw [mm_wr_same zA1, List.append_assoc]
  · rw [fz_wr]; exact zA1
  · simp [lA, hSl]; omega
  · rw [sz_wr]; exact hf1.lt aS
  · by_cases hij : i = j'
    · subst hij
      rw [List.append_assoc, List.drop_append_of_le_length (by simp [lA]; omega), List.drop_take, Nat.sub_self, List.take_zero, List.nil_append, List.take_append_of_le_length (by omega), List.take_of_length_le (by omega), hS]
    · rw [← hA i (by omega)]
      rw [List.append_assoc, List.drop_append_of_le_length (by simp [lA]; omega), List.take_append_of_le_length (by simp [lA]; omega), List.drop_take, List.take_take]
      congr 1; omega

def bl (T : List Bool) : List Value := T.map Value.bool
theorem gt_bl {T : List Bool} {i : Nat} (h : i < T.length) : gt (bl T) i = .bool (T.getD i false) := by
  unfold gt bl
  rw [List.getD_eq_getElem?_getD, List.getElem?_map, List.getElem?_eq_getElem h, List.getD_eq_getElem?_getD, List.getElem?_eq_getElem h]; rfl
@[simp] theorem bl_length (T : List Bool) : (bl T).length = T.length := by simp [bl]
theorem bl_set (T : List Bool) (i : Nat) (x : Bool) : (bl T).set i (.bool x) = bl (T.set i x) := by simp [bl, List.map_set]

def MoreK (w : World) (b aB tB : Nat) (D : DD) (A : List UInt8) (l : List (OpM × Value)) (v1 v2 : Value) (m : Nat) (e : Env) (w' : World) : Prop :=
  ∃ (j : Nat) (F' : List Nat) (T : List Bool), m = l.length - j ∧ j ≤ l.length ∧ IsD w' b (putD D l j) F' ∧ Own w w' F' ∧ mm w' aB = bs A ∧ aB < sz w' ∧ aB ∉ F' ∧ sz w ≤ aB ∧
    mm w' tB = bl T ∧ fz w' tB = false ∧ T.length = 8 ∧ tB < sz w' ∧ tB ∉ F' ∧ sz w ≤ tB ∧ (∀ i, i < 8 → T.getD i false = false → ¬ touch l j i) ∧
    e 69 = i64 j ∧ e 68 = i64 l.length ∧ e 67 = v1 ∧ e 13 = pt tB 0 ∧ e 11 = pt aB 0 ∧ e 7 = pt b 0 ∧ e 2 = v2
theorem touch_succ {l : List (OpM × Value)} {j i : Nat} {p : OpM × Value} (hp : l[j]? = some p) (h : touch l (j + 1) i) : touch l j i ∨ (p.1.kind = 0 ∧ p.1.n = i) := by
  obtain ⟨m, q, hm, hq, hk, hn⟩ := h
  by_cases hmj : m = j
  · subst hmj
    rw [hp] at hq
    cases hq
    exact .inr ⟨hk, hn⟩
  · exact .inl ⟨m, q, by omega, hq, hk, hn⟩

theorem moreK_step {w : World} {b aB tB : Nat} {D : DD} {A : List UInt8} {l : List (OpM × Value)} {v1 v2 : Value} (hne : aB ≠ tB) (hu : Up 8 D) (hDp : D.pend.length ≤ 200) (hDw : 0 ≤ D.writes ∧ D.writes ≤ 200)
    (h : IsOps w v1 l) (hl : l.length ≤ 100) {j : Nat} {e : Env} {w' : World} (hj : j < l.length) (hI : MoreK w b aB tB D A l v1 v2 (l.length - j) e w') {K : KT}
    (hK : ∀ e' w'', MoreK w b aB tB D A l v1 v2 (l.length - (j + 1)) e' w'' → K .normal e' w'') : F6B2 e w' K := by
  obtain ⟨j', F', T, hm, hj', hd, hO, mA, aS, aF, aW, mT, zT, lT, tS, tF, tW, hT, e69, e68, e67, e13, e11, e7, e2⟩ := hI
  have : j' = j := by omega
  subst this
  unfold F6B2
  obtain ⟨p, hp⟩ : ∃ p, l[j']? = some p := ⟨_, List.getElem?_eq_getElem hj⟩
  obtain ⟨u1, u2, u3, u4, u5, u6⟩ := putD_props (D := D) (L := l) (N := 8) hu (j := j') (by omega)
  have hpu := putD_succ (D := D) hp
  have h' := h.fr0 hO.fr
  obtain ⟨a, c, hv0⟩ := sl_of h'.1
  subst hv0
  obtain ⟨_, ob, oo, rfl, hb, hin, htk, hok⟩ := op_at h' hp
  have hji : (j' : Int) < l.length := by omega
  have hwj : IntKind.i64.wrap ((j' : Int) + 1) = ((j' + 1 : Nat) : Int) := wrap64 (by omega) (by omega)
  have hs4 : ∀ l : List Value, l.length = 4 → splice l 0 (opc p) = opc p := fun l hl => splice_full (by rw [hl]; rfl)
  have hone := opc_one hok
  have hg0 : gt (opc p) 0 = i64 p.1.kind := rfl
  have hg1 : gt (opc p) 1 = i64 p.1.n := rfl
  have hg2 : gt (opc p) 2 = bv p.1.fill := rfl
  have hol : (opc p).length = 4 := rfl
  have hz : sz w ≤ sz w' := hO.fr.size
  have hf0 : ∀ l t, Fr [] w' (wr (nw w' l t) (sz w') (opc p)) := fun l t => ((Fr.refl [] w').nw _ _).wr (.inr (Nat.le_refl _)) _
  by_cases hk : p.1.kind = 0
  · try simp (maxDischargeDepth := 8) [↓bindV_some, ↓bindU_some, ↓condE_true, ↓condE_false, ↓pickE_true, ↓pickE_false, ↓pickE_or, ↓pickE_and, ↓grdE_true, ↓grdE_false, ↓grdE_tf, ↓grdE_ft, ↓grdE_undef, ↓nilE_pt, ↓thenK_normal, ↓thenK_exit, ↓thenK_ret, ↓thenK_goto, ↓thenK_panic, ↓blockK_exit, ↓blockK_normal, ↓blockK_ret, ↓blockK_goto, ↓blockK_panic, ↓loopK_normal, ↓loopK_exit, ↓loopK_ret, ↓loopK_goto, ↓loopK_panic, ↓topK_ret, ↓topK_normal, ↓topK_panic, ↓resVs_nil, ↓resVs_tmp, ↓resVs_cell, tup_one, tup_nil, tup_two, put_get, argE_get, ↓takeE_def, ↓heldE_nil, ↓heldE_cons, qNil_pt, qPick_bool, qGrd_bool, qGrd_undef, ↓letK_def, pBox_eq, pBin_add, pBin_sub, pBin_mul, pBin_eql, pBin_neq, pBin_lss, pBin_leq, pBin_gtr, pBin_geq, pUn_not, pUn_neg, eqB, neB, eqS, neS, pExtract0, pExtract1, pExtract2, max_int, min_int, sz_nw, sz_wr, sz_drew, mm_nw, fz_nw, mm_drew, fz_drew, fz_wr, sz_mkS, mm_mkS, fz_mkS, Fr.mkS, mm_wr_same, mm_wr_ne, wr_wr, bs_oneT, splice_full, gt_zero, gt_succ, gt_set, gt_bs, byte_eq0, byte_eq1, byte_n0, byte_n1, Fr.refl, Fr.nw, Fr.wr, Fr.drew, e69, e68, e67, e7, hj, hji, hin, htk, hs4, hone, hg0, hg1, hg2, hol, hk]
    generalize hW : drew (wr (nw w' [Value.int IntKind.i64 0, Value.int IntKind.i64 0, Value.int IntKind.u8 0, Value.slice none 0 0] 46) (sz w') (opc p)) = W
    have hfW : Fr [] w' W := by rw [← hW]; exact (hf0 _ _).drew
    have hmW : mm W (sz w') = opc p := by rw [← hW]; simp [sz_nw, sz_wr, sz_drew, mm_nw, fz_nw, mm_drew, fz_drew, fz_wr, sz_mkS, mm_mkS, fz_mkS, Fr.mkS, mm_wr_same, mm_wr_ne, wr_wr, bs_oneT, splice_full, gt_zero, gt_succ, gt_set, gt_bs, byte_eq0, byte_eq1, byte_n0, byte_n1, Fr.refl, Fr.nw, Fr.wr, Fr.drew]
    have hsW : sz w' < sz W := by rw [← hW]; simp [sz_nw, sz_wr, sz_drew, mm_nw, fz_nw, mm_drew, fz_drew, fz_wr, sz_mkS, mm_mkS, fz_mkS, Fr.mkS, mm_wr_same, mm_wr_ne, wr_wr, bs_oneT, splice_full, gt_zero, gt_succ, gt_set, gt_bs, byte_eq0, byte_eq1, byte_n0, byte_n1, Fr.refl, Fr.nw, Fr.wr, Fr.drew]
    refine sector_spec.call ?_
    rintro _ w3 ⟨rfl, hf3⟩
    have hm3 : mm w3 (sz w') = opc p := by rw [hf3.mm hsW (by simp), hmW]
    try simp (maxDischargeDepth := 8) [↓bindV_some, ↓bindU_some, ↓condE_true, ↓condE_false, ↓pickE_true, ↓pickE_false, ↓pickE_or, ↓pickE_and, ↓grdE_true, ↓grdE_false, ↓grdE_tf, ↓grdE_ft, ↓grdE_undef, ↓nilE_pt, ↓thenK_normal, ↓thenK_exit, ↓thenK_ret, ↓thenK_goto, ↓thenK_panic, ↓blockK_exit, ↓blockK_normal, ↓blockK_ret, ↓blockK_goto, ↓blockK_panic, ↓loopK_normal, ↓loopK_exit, ↓loopK_ret, ↓loopK_goto, ↓loopK_panic, ↓topK_ret, ↓topK_normal, ↓topK_panic, ↓resVs_nil, ↓resVs_tmp, ↓resVs_cell, tup_one, tup_nil, tup_two, put_get, argE_get, ↓takeE_def, ↓heldE_nil, ↓heldE_cons, qNil_pt, qPick_bool, qGrd_bool, qGrd_undef, ↓letK_def, pBox_eq, pBin_add, pBin_sub, pBin_mul, pBin_eql, pBin_neq, pBin_lss, pBin_leq, pBin_gtr, pBin_geq, pUn_not, pUn_neg, eqB, neB, eqS, neS, pExtract0, pExtract1, pExtract2, max_int, min_int, sz_nw, sz_wr, sz_drew, mm_nw, fz_nw, mm_drew, fz_drew, fz_wr, sz_mkS, mm_mkS, fz_mkS, Fr.mkS, mm_wr_same, mm_wr_ne, wr_wr, bs_oneT, splice_full, gt_zero, gt_succ, gt_set, gt_bs, byte_eq0, byte_eq1, byte_n0, byte_n1, Fr.refl, Fr.nw, Fr.wr, Fr.drew, hm3, hg0, hg1, hg2, hol]
    have hd3 := (hd.fr0 hfW).fr0 hf3
    have hFlt : ∀ k ∈ F', k < sz w' := by obtain ⟨_, _, _, _, _, _, _, _, _, _, _, _, _, _, _, _, _, _, h⟩ := hd; exact h
    have hz3 : sz W ≤ sz w3 := hf3.size
    refine (write_spec hd3 (x := p.1.n) (s := secOf p.1.fill) (secOf_length _) (by omega) (by omega)).call ?_
    rintro _ w4 ⟨rfl, F4, hd4, hf4, hF4⟩
    have hg4 : Fr F' w' w4 := (((Fr.refl F' w').trans0 hfW).trans0 hf3).trans hf4 (fun k hk => .inl hk)
    have hm4 : mm w4 (sz w') = opc p := by rw [hf4.mm (by omega) (fun h => by have := hFlt _ h; omega), hm3]
    have hO4 := ((hO.calm hfW).calm hf3).step hf4 hF4
    have mA4 : mm w4 aB = bs A := by rw [hg4.mm aS aF, mA]
    have mT4 : mm w4 tB = bl T := by rw [hg4.mm tS tF, mT]
    have zT4 : fz w4 tB = false := by rw [hg4.fz tS tF, zT]
    have aF4 : aB ∉ F4 := fun h => by rcases hF4 _ h with h | h; exact aF h; omega
    have tF4 : tB ∉ F4 := fun h => by rcases hF4 _ h with h | h; exact tF h; omega
    have aS4 := hg4.lt aS
    have tS4 := hg4.lt tS
    have hD4 : putD D l (j' + 1) = writeD (putD D l j') p.1.n (secOf p.1.fill) := by rw [hpu]; unfold putOne; rw [if_pos hk]
    by_cases hr : 0 ≤ p.1.n ∧ p.1.n < 8
    · have hnt : p.1.n.toNat < 8 := by omega
      try simp (maxDischargeDepth := 8) [↓bindV_some, ↓bindU_some, ↓condE_true, ↓condE_false, ↓pickE_true, ↓pickE_false, ↓pickE_or, ↓pickE_and, ↓grdE_true, ↓grdE_false, ↓grdE_tf, ↓grdE_ft, ↓grdE_undef, ↓nilE_pt, ↓thenK_normal, ↓thenK_exit, ↓thenK_ret, ↓thenK_goto, ↓thenK_panic, ↓blockK_exit, ↓blockK_normal, ↓blockK_ret, ↓blockK_goto, ↓blockK_panic, ↓loopK_normal, ↓loopK_exit, ↓loopK_ret, ↓loopK_goto, ↓loopK_panic, ↓topK_ret, ↓topK_normal, ↓topK_panic, ↓resVs_nil, ↓resVs_tmp, ↓resVs_cell, tup_one, tup_nil, tup_two, put_get, argE_get, ↓takeE_def, ↓heldE_nil, ↓heldE_cons, qNil_pt, qPick_bool, qGrd_bool, qGrd_undef, ↓letK_def, pBox_eq, pBin_add, pBin_sub, pBin_mul, pBin_eql, pBin_neq, pBin_lss, pBin_leq, pBin_gtr, pBin_geq, pUn_not, pUn_neg, eqB, neB, eqS, neS, pExtract0, pExtract1, pExtract2, max_int, min_int, sz_nw, sz_wr, sz_drew, mm_nw, fz_nw, mm_drew, fz_drew, fz_wr, sz_mkS, mm_mkS, fz_mkS, Fr.mkS, mm_wr_same, mm_wr_ne, wr_wr, bs_oneT, splice_full, gt_zero, gt_succ, gt_set, gt_bs, byte_eq0, byte_eq1, byte_n0, byte_n1, Fr.refl, Fr.nw, Fr.wr, Fr.drew, hm4, hg1, hol, hr.1, hr.2, e13, mT4, zT4, lT, hnt, bl_length, bl_set]
      have hfT : ∀ t, Fr [tB] w4 (wr w4 tB t) := fun t => (Fr.refl [tB] w4).wr (.inl (by simp)) _
      try simp (maxDischargeDepth := 8) [↓bindV_some, ↓bindU_some, ↓condE_true, ↓condE_false, ↓pickE_true, ↓pickE_false, ↓pickE_or, ↓pickE_and, ↓grdE_true, ↓grdE_false, ↓grdE_tf, ↓grdE_ft, ↓grdE_undef, ↓nilE_pt, ↓thenK_normal, ↓thenK_exit, ↓thenK_ret, ↓thenK_goto, ↓thenK_panic, ↓blockK_exit, ↓blockK_normal, ↓blockK_ret, ↓blockK_goto, ↓blockK_panic, ↓loopK_normal, ↓loopK_exit, ↓loopK_ret, ↓loopK_goto, ↓loopK_panic, ↓topK_ret, ↓topK_normal, ↓topK_panic, ↓resVs_nil, ↓resVs_tmp, ↓resVs_cell, tup_one, tup_nil, tup_two, put_get, argE_get, ↓takeE_def, ↓heldE_nil, ↓heldE_cons, qNil_pt, qPick_bool, qGrd_bool, qGrd_undef, ↓letK_def, pBox_eq, pBin_add, pBin_sub, pBin_mul, pBin_eql, pBin_neq, pBin_lss, pBin_leq, pBin_gtr, pBin_geq, pUn_not, pUn_neg, eqB, neB, eqS, neS, pExtract0, pExtract1, pExtract2, max_int, min_int, sz_nw, sz_wr, sz_drew, mm_nw, fz_nw, mm_drew, fz_drew, fz_wr, sz_mkS, mm_mkS, fz_mkS, Fr.mkS, mm_wr_same, mm_wr_ne, wr_wr, bs_oneT, splice_full, gt_zero, gt_succ, gt_set, gt_bs, byte_eq0, byte_eq1, byte_n0, byte_n1, Fr.refl, Fr.nw, Fr.wr, Fr.drew, e69, hwj, -Int.natCast_add]
      refine hK _ _ ⟨j' + 1, F4, T.set p.1.n.toNat true, rfl, by omega, ?_, ⟨hO4.fr.trans (hfT _) (fun k hk => by simp at hk; subst hk; exact .inr tW), hO4.own⟩, ?_, ?_, aF4, aW, ?_, ?_, ?_, ?_, tF4, tW, fun i hi ht => ?_, by simp [put_get, e69, e68, e67, e13, e11, e7, e2]⟩
      · rw [hD4]; exact hd4.fr (hfT _) (fun k hk h => by simp at h; subst h; exact tF4 hk)
      · rw [mm_wr_ne hne]; exact mA4
      · rw [sz_wr]; exact aS4
      · rw [mm_wr_same zT4]
      · rw [fz_wr]; exact zT4
      · simp [lT]
      · rw [sz_wr]; exact tS4
      · intro htc
        by_cases hin2 : p.1.n = i
        · have : p.1.n.toNat = i := by omega
          rw [this, List.getD_eq_getElem?_getD, List.getElem?_set, if_pos rfl, if_pos (by omega)] at ht
          simp at ht
        · rcases touch_succ hp htc with h | h
          · have h2 : ¬ p.1.n.toNat = i := by omega
            rw [List.getD_eq_getElem?_getD, List.getElem?_set, if_neg h2, ← List.getD_eq_getElem?_getD] at ht
            exact hT i hi ht h
          · exact hin2 h.2
    · have hnot : ∀ i, i < 8 → T.getD i false = false → ¬ touch l (j' + 1) i := fun i hi ht htc => by
        rcases touch_succ hp htc with h | h
        · exact hT i hi ht h
        · omega
      by_cases hr0 : 0 ≤ p.1.n
      · have hr1 : ¬ p.1.n < 8 := by omega
        try simp (maxDischargeDepth := 8) [↓bindV_some, ↓bindU_some, ↓condE_true, ↓condE_false, ↓pickE_true, ↓pickE_false, ↓pickE_or, ↓pickE_and, ↓grdE_true, ↓grdE_false, ↓grdE_tf, ↓grdE_ft, ↓grdE_undef, ↓nilE_pt, ↓thenK_normal, ↓thenK_exit, ↓thenK_ret, ↓thenK_goto, ↓thenK_panic, ↓blockK_exit, ↓blockK_normal, ↓blockK_ret, ↓blockK_goto, ↓blockK_panic, ↓loopK_normal, ↓loopK_exit, ↓loopK_ret, ↓loopK_goto, ↓loopK_panic, ↓topK_ret, ↓topK_normal, ↓topK_panic, ↓resVs_nil, ↓resVs_tmp, ↓resVs_cell, tup_one, tup_nil, tup_two, put_get, argE_get, ↓takeE_def, ↓heldE_nil, ↓heldE_cons, qNil_pt, qPick_bool, qGrd_bool, qGrd_undef, ↓letK_def, pBox_eq, pBin_add, pBin_sub, pBin_mul, pBin_eql, pBin_neq, pBin_lss, pBin_leq, pBin_gtr, pBin_geq, pUn_not, pUn_neg, eqB, neB, eqS, neS, pExtract0, pExtract1, pExtract2, max_int, min_int, sz_nw, sz_wr, sz_drew, mm_nw, fz_nw, mm_drew, fz_drew, fz_wr, sz_mkS, mm_mkS, fz_mkS, Fr.mkS, mm_wr_same, mm_wr_ne, wr_wr, bs_oneT, splice_full, gt_zero, gt_succ, gt_set, gt_bs, byte_eq0, byte_eq1, byte_n0, byte_n1, Fr.refl, Fr.nw, Fr.wr, Fr.drew, hm4, hg1, hol, hr0, hr1, e13, e69, hwj, -Int.natCast_add]
        refine hK _ _ ⟨j' + 1, F4, T, rfl, by omega, ?_, hO4, mA4, aS4, aF4, aW, mT4, zT4, lT, tS4, tF4, tW, hnot, by simp [put_get, e69, e68, e67, e13, e11, e7, e2]⟩
        rw [hD4]; exact hd4
      · try simp (maxDischargeDepth := 8) [↓bindV_some, ↓bindU_some, ↓condE_true, ↓condE_false, ↓pickE_true, ↓pickE_false, ↓pickE_or, ↓pickE_and, ↓grdE_true, ↓grdE_false, ↓grdE_tf, ↓grdE_ft, ↓grdE_undef, ↓nilE_pt, ↓thenK_normal, ↓thenK_exit, ↓thenK_ret, ↓thenK_goto, ↓thenK_panic, ↓blockK_exit, ↓blockK_normal, ↓blockK_ret, ↓blockK_goto, ↓blockK_panic, ↓loopK_normal, ↓loopK_exit, ↓loopK_ret, ↓loopK_goto, ↓loopK_panic, ↓topK_ret, ↓topK_normal, ↓topK_panic, ↓resVs_nil, ↓resVs_tmp, ↓resVs_cell, tup_one, tup_nil, tup_two, put_get, argE_get, ↓takeE_def, ↓heldE_nil, ↓heldE_cons, qNil_pt, qPick_bool, qGrd_bool, qGrd_undef, ↓letK_def, pBox_eq, pBin_add, pBin_sub, pBin_mul, pBin_eql, pBin_neq, pBin_lss, pBin_leq, pBin_gtr, pBin_geq, pUn_not, pUn_neg, eqB, neB, eqS, neS, pExtract0, pExtract1, pExtract2, max_int, min_int, sz_nw, sz_wr, sz_drew, mm_nw, fz_nw, mm_drew, fz_drew, fz_wr, sz_mkS, mm_mkS, fz_mkS, Fr.mkS, mm_wr_same, mm_wr_ne, wr_wr, bs_oneT, splice_full, gt_zero, gt_succ, gt_set, gt_bs, byte_eq0, byte_eq1, byte_n0, byte_n1, Fr.refl, Fr.nw, Fr.wr, Fr.drew, hm4, hg1, hol, hr0, e13, e69, hwj, -Int.natCast_add]
        refine hK _ _ ⟨j' + 1, F4, T, rfl, by omega, ?_, hO4, mA4, aS4, aF4, aW, mT4, zT4, lT, tS4, tF4, tW, hnot, by simp [put_get, e69, e68, e67, e13, e11, e7, e2]⟩
        rw [hD4]; exact hd4
  · try simp (maxDischargeDepth := 8) [↓bindV_some, ↓bindU_some, ↓condE_true, ↓condE_false, ↓pickE_true, ↓pickE_false, ↓pickE_or, ↓pickE_and, ↓grdE_true, ↓grdE_false, ↓grdE_tf, ↓grdE_ft, ↓grdE_undef, ↓nilE_pt, ↓thenK_normal, ↓thenK_exit, ↓thenK_ret, ↓thenK_goto, ↓thenK_panic, ↓blockK_exit, ↓blockK_normal, ↓blockK_ret, ↓blockK_goto, ↓blockK_panic, ↓loopK_normal, ↓loopK_exit, ↓loopK_ret, ↓loopK_goto, ↓loopK_panic, ↓topK_ret, ↓topK_normal, ↓topK_panic, ↓resVs_nil, ↓resVs_tmp, ↓resVs_cell, tup_one, tup_nil, tup_two, put_get, argE_get, ↓takeE_def, ↓heldE_nil, ↓heldE_cons, qNil_pt, qPick_bool, qGrd_bool, qGrd_undef, ↓letK_def, pBox_eq, pBin_add, pBin_sub, pBin_mul, pBin_eql, pBin_neq, pBin_lss, pBin_leq, pBin_gtr, pBin_geq, pUn_not, pUn_neg, eqB, neB, eqS, neS, pExtract0, pExtract1, pExtract2, max_int, min_int, sz_nw, sz_wr, sz_drew, mm_nw, fz_nw, mm_drew, fz_drew, fz_wr, sz_mkS, mm_mkS, fz_mkS, Fr.mkS, mm_wr_same, mm_wr_ne, wr_wr, bs_oneT, splice_full, gt_zero, gt_succ, gt_set, gt_bs, byte_eq0, byte_eq1, byte_n0, byte_n1, Fr.refl, Fr.nw, Fr.wr, Fr.drew, e69, e68, e67, e7, hj, hji, hin, htk, hs4, hone, hg0, hg1, hg2, hol, hk, hwj, -Int.natCast_add]
    refine hK _ _ ⟨j' + 1, F', T, rfl, by omega, ?_, hO.calm (hf0 _ _), ?_, (hf0 _ _).lt aS, aF, aW, ?_, ?_, lT, (hf0 _ _).lt tS, tF, tW, fun i hi ht htc => ?_, by simp [put_get, e69, e68, e67, e13, e11, e7, e2]⟩
    · rw [hpu]; unfold putOne; rw [if_neg hk]; exact hd.fr0 (hf0 _ _)
    · rw [(hf0 _ _).mm aS (by simp), mA]
    · rw [(hf0 _ _).mm tS (by simp), mT]
    · rw [(hf0 _ _).fz tS (by simp), zT]
    · rcases touch_succ hp htc with h | h
      · exact hT i hi ht h
      · exact hk h.1

def EndK (w : World) (b aB tB : Nat) (D : DD) (F : List Nat) (A : List UInt8) (T : List Bool) (m : Nat) (e : Env) (w' : World) : Prop :=
  ∃ (j : Nat), m = 8 - j ∧ j ≤ 8 ∧ IsD w' b D F ∧ Own w w' F ∧ mm w' aB = bs A ∧ mm w' tB = bl T ∧ aB < sz w' ∧ tB < sz w' ∧ e 98 = i64 j ∧ e 13 = pt tB 0 ∧ e 11 = pt aB 0 ∧ e 7 = pt b 0
theorem endK_step {w : World} {b aB tB : Nat} {D : DD} {F : List Nat} {A : List UInt8} {T : List Bool} (hu : Up 8 D) (lA : A.length = 512) (lT : T.length = 8) {j : Nat} {e : Env} {w' : World} (hj : j < 8)
    (hsame : T.getD j false = false → (A.drop (j * 64)).take 64 = view D j) (hI : EndK w b aB tB D F A T (8 - j) e w') {K : KT}
    (hK : ∀ e' w'', EndK w b aB tB D F A T (8 - (j + 1)) e' w'' → K .normal e' w'') : F6B3 e w' K := by
  obtain ⟨j', hm, hj', hd, hO, mA, mT, aS, tS, e98, e13, e11, e7⟩ := hI
  have : j' = j := by omega
  subst this
  unfold F6B3
  have hji : (j' : Int) < 8 := by omega
  have hwj : IntKind.i64.wrap ((j' : Int) + 1) = ((j' + 1 : Nat) : Int) := wrap64 (by omega) (by omega)
  have hok : okE D j' = 0 := hu.ok (by omega) (by omega)
  obtain ⟨S, hS⟩ : ∃ S, S = view D j' := ⟨_, rfl⟩
  have hSl : S.length = 64 := by rw [hS]; exact readD_len hd.1 (by omega) (by rw [hu.len]; omega)
  rw [← hS] at hsame
  try simp (maxDischargeDepth := 8) [↓bindV_some, ↓bindU_some, ↓condE_true, ↓condE_false, ↓pickE_true, ↓pickE_false, ↓pickE_or, ↓pickE_and, ↓grdE_true, ↓grdE_false, ↓grdE_tf, ↓grdE_ft, ↓grdE_undef, ↓nilE_pt, ↓thenK_normal, ↓thenK_exit, ↓thenK_ret, ↓thenK_goto, ↓thenK_panic, ↓blockK_exit, ↓blockK_normal, ↓blockK_ret, ↓blockK_goto, ↓blockK_panic, ↓loopK_normal, ↓loopK_exit, ↓loopK_ret, ↓loopK_goto, ↓loopK_panic, ↓topK_ret, ↓topK_normal, ↓topK_panic, ↓resVs_nil, ↓resVs_tmp, ↓resVs_cell, tup_one, tup_nil, tup_two, put_get, argE_get, ↓takeE_def, ↓heldE_nil, ↓heldE_cons, qNil_pt, qPick_bool, qGrd_bool, qGrd_undef, ↓letK_def, pBox_eq, pBin_add, pBin_sub, pBin_mul, pBin_eql, pBin_neq, pBin_lss, pBin_leq, pBin_gtr, pBin_geq, pUn_not, pUn_neg, eqB, neB, eqS, neS, pExtract0, pExtract1, pExtract2, max_int, min_int, sz_nw, sz_wr, sz_drew, mm_nw, fz_nw, mm_drew, fz_drew, fz_wr, sz_mkS, mm_mkS, fz_mkS, Fr.mkS, mm_wr_same, mm_wr_ne, wr_wr, bs_oneT, splice_full, gt_zero, gt_succ, gt_set, gt_bs, byte_eq0, byte_eq1, byte_n0, byte_n1, Fr.refl, Fr.nw, Fr.wr, Fr.drew, e98, e7, hji]
  refine (read_spec hd (x := j') (by omega) (by omega)).call ?_
  rintro _ w1 ⟨rfl, hf1⟩
  rw [if_pos hok, hok, show readD D j' = S from hS.symm]
  try simp (maxDischargeDepth := 8) [↓bindV_some, ↓bindU_some, ↓condE_true, ↓condE_false, ↓pickE_true, ↓pickE_false, ↓pickE_or, ↓pickE_and, ↓grdE_true, ↓grdE_false, ↓grdE_tf, ↓grdE_ft, ↓grdE_undef, ↓nilE_pt, ↓thenK_normal, ↓thenK_exit, ↓thenK_ret, ↓thenK_goto, ↓thenK_panic, ↓blockK_exit, ↓blockK_normal, ↓blockK_ret, ↓blockK_goto, ↓blockK_panic, ↓loopK_normal, ↓loopK_exit, ↓loopK_ret, ↓loopK_goto, ↓loopK_panic, ↓topK_ret, ↓topK_normal, ↓topK_panic, ↓resVs_nil, ↓resVs_tmp, ↓resVs_cell, tup_one, tup_nil, tup_two, put_get, argE_get, ↓takeE_def, ↓heldE_nil, ↓heldE_cons, qNil_pt, qPick_bool, qGrd_bool, qGrd_undef, ↓letK_def, pBox_eq, pBin_add, pBin_sub, pBin_mul, pBin_eql, pBin_neq, pBin_lss, pBin_leq, pBin_gtr, pBin_geq, pUn_not, pUn_neg, eqB, neB, eqS, neS, pExtract0, pExtract1, pExtract2, max_int, min_int, sz_nw, sz_wr, sz_drew, mm_nw, fz_nw, mm_drew, fz_drew, fz_wr, sz_mkS, mm_mkS, fz_mkS, Fr.mkS, mm_wr_same, mm_wr_ne, wr_wr, bs_oneT, splice_full, gt_zero, gt_succ, gt_set, gt_bs, byte_eq0, byte_eq1, byte_n0, byte_n1, Fr.refl, Fr.nw, Fr.wr, Fr.drew, hSl]
  generalize hW : drew (wr (nw w1 (bs (zb 64)) 25) (sz w1) (bs S)) = W
  have hfW : Fr [] w1 W := by rw [← hW]; exact (((Fr.refl [] w1).nw _ _).wr (.inr (Nat.le_refl _)) _).drew
  have hmS : mm W (sz w1) = bs S := by rw [← hW]; simp [sz_nw, sz_wr, sz_drew, mm_nw, fz_nw, mm_drew, fz_drew, fz_wr, sz_mkS, mm_mkS, fz_mkS, Fr.mkS, mm_wr_same, mm_wr_ne, wr_wr, bs_oneT, splice_full, gt_zero, gt_succ, gt_set, gt_bs, byte_eq0, byte_eq1, byte_n0, byte_n1, Fr.refl, Fr.nw, Fr.wr, Fr.drew]
  have aS1 := hf1.lt aS
  have tS1 := hf1.lt tS
  have mA1 : mm W aB = bs A := by rw [hfW.mm aS1 (by simp), hf1.mm aS (by simp), mA]
  have mT1 : mm W tB = bl T := by rw [hfW.mm tS1 (by simp), hf1.mm tS (by simp), mT]
  have hgT : gt (bl T) j' = .bool (T.getD j' false) := gt_bl (by omega)
  have hlt : j' * 64 + 64 ≤ 512 := by omega
  have tk : List.take 64 (bs S) = bs S := List.take_of_length_le (by simp [hSl])
  have fin : ∀ e', e' 98 = i64 ((j' + 1 : Nat) : Int) → e' 13 = pt tB 0 → e' 11 = pt aB 0 → e' 7 = pt b 0 → K .normal e' W := fun e' a1 a2 a3 a4 =>
    hK _ _ ⟨j' + 1, rfl, by omega, (hd.fr0 hf1).fr0 hfW, (hO.calm hf1).calm hfW, mA1, mT1, hfW.lt aS1, hfW.lt tS1, a1, a2, a3, a4⟩
  cases hTj : T.getD j' false with
  | true =>
    rw [hTj] at hgT
    try simp (maxDischargeDepth := 8) [↓bindV_some, ↓bindU_some, ↓condE_true, ↓condE_false, ↓pickE_true, ↓pickE_false, ↓pickE_or, ↓pickE_and, ↓grdE_true, ↓grdE_false, ↓grdE_tf, ↓grdE_ft, ↓grdE_undef, ↓nilE_pt, ↓thenK_normal, ↓thenK_exit, ↓thenK_ret, ↓thenK_goto, ↓thenK_panic, ↓blockK_exit, ↓blockK_normal, ↓blockK_ret, ↓blockK_goto, ↓blockK_panic, ↓loopK_normal, ↓loopK_exit, ↓loopK_ret, ↓loopK_goto, ↓loopK_panic, ↓topK_ret, ↓topK_normal, ↓topK_panic, ↓resVs_nil, ↓resVs_tmp, ↓resVs_cell, tup_one, tup_nil, tup_two, put_get, argE_get, ↓takeE_def, ↓heldE_nil, ↓heldE_cons, qNil_pt, qPick_bool, qGrd_bool, qGrd_undef, ↓letK_def, pBox_eq, pBin_add, pBin_sub, pBin_mul, pBin_eql, pBin_neq, pBin_lss, pBin_leq, pBin_gtr, pBin_geq, pUn_not, pUn_neg, eqB, neB, eqS, neS, pExtract0, pExtract1, pExtract2, max_int, min_int, sz_nw, sz_wr, sz_drew, mm_nw, fz_nw, mm_drew, fz_drew, fz_wr, sz_mkS, mm_mkS, fz_mkS, Fr.mkS, mm_wr_same, mm_wr_ne, wr_wr, bs_oneT, splice_full, gt_zero, gt_succ, gt_set, gt_bs, byte_eq0, byte_eq1, byte_n0, byte_n1, Fr.refl, Fr.nw, Fr.wr, Fr.drew, e98, e13, hj, hji, mT1, lT, hgT, hwj, -Int.natCast_add]
    refine fin _ ?_ ?_ ?_ ?_ <;> simp [put_get, e98, e13, e11, e7]
  | false =>
    rw [hTj] at hgT
    have htk : List.take 64 (List.drop (j' * 64) (bs A)) = bs S := by rw [bs_drop, bs_take, hsame hTj]
    try simp (maxDischargeDepth := 8) [↓bindV_some, ↓bindU_some, ↓condE_true, ↓condE_false, ↓pickE_true, ↓pickE_false, ↓pickE_or, ↓pickE_and, ↓grdE_true, ↓grdE_false, ↓grdE_tf, ↓grdE_ft, ↓grdE_undef, ↓nilE_pt, ↓thenK_normal, ↓thenK_exit, ↓thenK_ret, ↓thenK_goto, ↓thenK_panic, ↓blockK_exit, ↓blockK_normal, ↓blockK_ret, ↓blockK_goto, ↓blockK_panic, ↓loopK_normal, ↓loopK_exit, ↓loopK_ret, ↓loopK_goto, ↓loopK_panic, ↓topK_ret, ↓topK_normal, ↓topK_panic, ↓resVs_nil, ↓resVs_tmp, ↓resVs_cell, tup_one, tup_nil, tup_two, put_get, argE_get, ↓takeE_def, ↓heldE_nil, ↓heldE_cons, qNil_pt, qPick_bool, qGrd_bool, qGrd_undef, ↓letK_def, pBox_eq, pBin_add, pBin_sub, pBin_mul, pBin_eql, pBin_neq, pBin_lss, pBin_leq, pBin_gtr, pBin_geq, pUn_not, pUn_neg, eqB, neB, eqS, neS, pExtract0, pExtract1, pExtract2, max_int, min_int, sz_nw, sz_wr, sz_drew, mm_nw, fz_nw, mm_drew, fz_drew, fz_wr, sz_mkS, mm_mkS, fz_mkS, Fr.mkS, mm_wr_same, mm_wr_ne, wr_wr, bs_oneT, splice_full, gt_zero, gt_succ, gt_set, gt_bs, byte_eq0, byte_eq1, byte_n0, byte_n1, Fr.refl, Fr.nw, Fr.wr, Fr.drew, e98, e13, e11, hj, hji, mT1, lT, hgT, mA1, lA, hlt, htk, hmS, hSl, tk, hwj, -Int.natCast_add]
    refine fin _ ?_ ?_ ?_ ?_ <;> simp [put_get, e98, e13, e11, e7]
end Go.Proofs.Yticncfkpfpkfoaa
