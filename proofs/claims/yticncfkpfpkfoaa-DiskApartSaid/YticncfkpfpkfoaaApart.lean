/- DiskApart: the law (printed by apart.py). -/
import Derived.Test.YticncfkpfpkfoaaDoes
set_option linter.unusedVariables false
set_option linter.unusedSimpArgs false
namespace Go.Proofs.Yticncfkpfpkfoaa
open Go

theorem doD_firm (D : DD) (o : OpM) : (doD D o).firm.length = D.firm.length := by
  unfold doD
  split
  · unfold writeD; split <;> rfl
  · split
    · unfold syncD
      split
      · rfl
      · exact syncF_length _ _
    · split
      · rfl
      · split
        · exact crashF_length _ _ _ _
        · rfl
theorem foldD_firm (L : List (OpM × Value)) : ∀ D : DD, (L.foldl (fun D p => doD D p.1) D).firm.length = D.firm.length := by
  induction L with
  | nil => intro D; rfl
  | cons p L ih => intro D; rw [List.foldl_cons, ih, doD_firm]
theorem runD_firm (D : DD) (L : List (OpM × Value)) (j : Nat) : (runD D L j).firm.length = D.firm.length := foldD_firm _ _


def ApI0 (w : World) (b c : Nat) (D E : DD) (S : List Nat) (Φ : World → Prop) (l : List (OpM × Value)) (v v0 v1 : Value) (b5 b7 b10 b11 : Value) (m : Nat) (e : Env) (w' : World) : Prop :=
  ∃ (j : Nat) (F G : List Nat), m = l.length - j ∧ j ≤ l.length ∧ Two w' b (runD D l j) F c (runD E l j) G ∧ Own w w' (F ++ G) ∧ Φ w' ∧ (∀ k ∈ S, k < sz w' ∧ k ∉ F ∧ k ∉ G) ∧
    e 31 = i64 j ∧ e 30 = i64 l.length ∧ e 29 = v ∧ e 0 = v0 ∧ e 1 = v1 ∧ e 5 = b5 ∧ e 7 = b7 ∧ e 10 = b10 ∧ e 11 = b11

theorem apart_step0 {w : World} {b c : Nat} {D E : DD} {S : List Nat} {Φ : World → Prop} {l : List (OpM × Value)} {v v0 v1 b5 b7 b10 b11 : Value} (r5 : b5 = pt b 0) (r7 : b7 = pt c 0) (h : IsOps w v l) (hl : l.length ≤ 100)
    (hD : D.pend.length ≤ 1000 ∧ D.writes ≤ 1000) (hE : E.pend.length ≤ 1000 ∧ E.writes ≤ 1000) (hΦ : ∀ w1 w2 T, Φ w1 → Fr T w1 w2 → (∀ k ∈ S, k ∉ T) → Φ w2)
    {j : Nat} {e : Env} {w' : World} (hj : j < l.length)
    (hI : ApI0 w b c D E S Φ l v v0 v1 b5 b7 b10 b11 (l.length - j) e w') {K : KT} (hK : ∀ e' w'', ApI0 w b c D E S Φ l v v0 v1 b5 b7 b10 b11 (l.length - (j + 1)) e' w'' → K .normal e' w'') : F8B0 e w' K := by
  obtain ⟨j', F, G, hm, hj', ht, hO, hP, hS, eix, eln, esl, e0, e1, e5, e7, e10, e11⟩ := hI
  have : j' = j := by omega
  subst this
  unfold F8B0
  obtain ⟨p, hp⟩ : ∃ p, l[j']? = some p := ⟨_, List.getElem?_eq_getElem hj⟩
  have h' := h.fr0 hO.fr
  obtain ⟨a, cc, hv0⟩ := sl_of h'.1
  subst hv0
  obtain ⟨_, ob, oo, rfl, hb, hin, htk, hok⟩ := op_at h' hp
  have hok0 := h.2 p (List.mem_of_getElem? hp)
  obtain ⟨r1, r2⟩ := runD_props D l (j := j') (by omega)
  obtain ⟨r3, r4⟩ := runD_props E l (j := j') (by omega)
  have hji : (j' : Int) < l.length := by omega
  have hwj : IntKind.i64.wrap ((j' : Int) + 1) = ((j' + 1 : Nat) : Int) := wrap64 (by omega) (by omega)
  have hs4 : ∀ l : List Value, l.length = 4 → splice l 0 (opc p) = opc p := fun l hl => splice_full (by rw [hl]; rfl)
  have hone := opc_one hok
  have hol : (opc p).length = 4 := rfl
  have ht4 : List.take 4 (opc p) = opc p := rfl
  have hfW : ∀ t, Fr [] w' (wr (nw w' t 46) (sz w') (opc p)) := fun t => ((Fr.refl [] w').nw _ _).wr (.inr (Nat.le_refl _)) _
  subst r5 r7
  try simp (maxDischargeDepth := 8) [↓bindV_some, ↓bindU_some, ↓condE_true, ↓condE_false, ↓pickE_true, ↓pickE_false, ↓pickE_or, ↓pickE_and, ↓grdE_true, ↓grdE_false, ↓grdE_tf, ↓grdE_ft, ↓grdE_undef, ↓nilE_pt, ↓thenK_normal, ↓thenK_exit, ↓thenK_ret, ↓thenK_goto, ↓thenK_panic, ↓blockK_exit, ↓blockK_normal, ↓blockK_ret, ↓blockK_goto, ↓blockK_panic, ↓loopK_normal, ↓loopK_exit, ↓loopK_ret, ↓loopK_goto, ↓loopK_panic, ↓topK_ret, ↓topK_normal, ↓topK_panic, ↓resVs_nil, ↓resVs_tmp, ↓resVs_cell, tup_one, tup_nil, tup_two, put_get, argE_get, ↓takeE_def, ↓heldE_nil, ↓heldE_cons, qNil_pt, qPick_bool, qGrd_bool, qGrd_undef, ↓letK_def, pBox_eq, pBin_add, pBin_sub, pBin_mul, pBin_eql, pBin_neq, pBin_lss, pBin_leq, pBin_gtr, pBin_geq, pUn_not, pUn_neg, eqB, neB, eqS, neS, pExtract0, pExtract1, pExtract2, max_int, min_int, sz_nw, sz_wr, sz_drew, mm_nw, fz_nw, mm_drew, fz_drew, fz_wr, sz_mkS, mm_mkS, fz_mkS, Fr.mkS, mm_wr_same, mm_wr_ne, wr_wr, bs_oneT, splice_full, gt_zero, gt_succ, gt_set, gt_bs, byte_eq0, byte_eq1, byte_n0, byte_n1, Fr.refl, Fr.nw, Fr.wr, Fr.drew, eix, eln, esl, e0, e1, e5, e7, e10, e11, hj, hji, hin, htk, hs4, hone, hol, ht4]
  have t1 := ht.calm (hfW [Value.int IntKind.i64 0, Value.int IntKind.i64 0, Value.int IntKind.u8 0, Value.slice none 0 0])
  have o1 := hO.calm (hfW [Value.int IntKind.i64 0, Value.int IntKind.i64 0, Value.int IntKind.u8 0, Value.slice none 0 0])
  have p1 := hΦ _ _ [] hP (hfW [Value.int IntKind.i64 0, Value.int IntKind.i64 0, Value.int IntKind.u8 0, Value.slice none 0 0]) (by simp)
  have s1 := (hfW [Value.int IntKind.i64 0, Value.int IntKind.i64 0, Value.int IntKind.u8 0, Value.slice none 0 0]).size
  have hok1 : OkOp (wr (nw w' [Value.int IntKind.i64 0, Value.int IntKind.i64 0, Value.int IntKind.u8 0, Value.slice none 0 0] 46) (sz w') (opc p)) p := ⟨hok.1.fr0 (hfW _), hok.2⟩
  refine (do_spec t1 hok1 (fun k hk hF => kept_apart o1 hok0 k hk (by simpa using hF)) ⟨by omega, by omega⟩ ⟨by omega, by omega⟩).call ?_
  rintro _ w2 ⟨⟨B, rfl, hB⟩, F2, G2, t2, g2⟩
  have o2 := o1.grow2 g2
  rw [← runD_succ hp, ← runD_succ hp] at t2
  have p2 := hΦ _ _ _ p1 g2.fr (fun k hk hk2 => by
    have := hS k hk
    rcases List.mem_append.1 hk2 with hk2 | hk2
    · exact this.2.1 hk2
    · exact this.2.2 hk2)
  have hS2 : ∀ k ∈ S, k < sz w2 ∧ k ∉ F2 ∧ k ∉ G2 := fun k hk => by
    have := hS k hk
    have hlt := Nat.lt_of_lt_of_le this.1 s1
    refine ⟨g2.fr.lt hlt, fun h => ?_, fun h => ?_⟩
    · rcases g2.newF k h with h | h
      · exact this.2.1 h
      · omega
    · rcases g2.newG k h with h | h
      · exact this.2.2 h
      · omega
  try simp (maxDischargeDepth := 8) [↓bindV_some, ↓bindU_some, ↓condE_true, ↓condE_false, ↓pickE_true, ↓pickE_false, ↓pickE_or, ↓pickE_and, ↓grdE_true, ↓grdE_false, ↓grdE_tf, ↓grdE_ft, ↓grdE_undef, ↓nilE_pt, ↓thenK_normal, ↓thenK_exit, ↓thenK_ret, ↓thenK_goto, ↓thenK_panic, ↓blockK_exit, ↓blockK_normal, ↓blockK_ret, ↓blockK_goto, ↓blockK_panic, ↓loopK_normal, ↓loopK_exit, ↓loopK_ret, ↓loopK_goto, ↓loopK_panic, ↓topK_ret, ↓topK_normal, ↓topK_panic, ↓resVs_nil, ↓resVs_tmp, ↓resVs_cell, tup_one, tup_nil, tup_two, put_get, argE_get, ↓takeE_def, ↓heldE_nil, ↓heldE_cons, qNil_pt, qPick_bool, qGrd_bool, qGrd_undef, ↓letK_def, pBox_eq, pBin_add, pBin_sub, pBin_mul, pBin_eql, pBin_neq, pBin_lss, pBin_leq, pBin_gtr, pBin_geq, pUn_not, pUn_neg, eqB, neB, eqS, neS, pExtract0, pExtract1, pExtract2, max_int, min_int, sz_nw, sz_wr, sz_drew, mm_nw, fz_nw, mm_drew, fz_drew, fz_wr, sz_mkS, mm_mkS, fz_mkS, Fr.mkS, mm_wr_same, mm_wr_ne, wr_wr, bs_oneT, splice_full, gt_zero, gt_succ, gt_set, gt_bs, byte_eq0, byte_eq1, byte_n0, byte_n1, Fr.refl, Fr.nw, Fr.wr, Fr.drew, eix, hwj, -Int.natCast_add]
  exact hK _ _ ⟨j' + 1, F2, G2, rfl, by omega, t2, o2, p2, hS2, by simp [put_get, eix, eln, esl, e0, e1, e5, e7, e10, e11]⟩


def ApI1 (w : World) (b c : Nat) (D E : DD) (S : List Nat) (Φ : World → Prop) (l : List (OpM × Value)) (v v0 v1 : Value) (b5 b7 b10 b11 : Value) (m : Nat) (e : Env) (w' : World) : Prop :=
  ∃ (j : Nat) (F G : List Nat), m = l.length - j ∧ j ≤ l.length ∧ Two w' b (runD D l j) F c (runD E l j) G ∧ Own w w' (F ++ G) ∧ Φ w' ∧ (∀ k ∈ S, k < sz w' ∧ k ∉ F ∧ k ∉ G) ∧
    e 45 = i64 j ∧ e 44 = i64 l.length ∧ e 43 = v ∧ e 0 = v0 ∧ e 1 = v1 ∧ e 5 = b5 ∧ e 7 = b7 ∧ e 10 = b10 ∧ e 11 = b11

theorem apart_step1 {w : World} {b c : Nat} {D E : DD} {S : List Nat} {Φ : World → Prop} {l : List (OpM × Value)} {v v0 v1 b5 b7 b10 b11 : Value} (r5 : b5 = pt b 0) (r11 : b11 = pt c 0) (h : IsOps w v l) (hl : l.length ≤ 100)
    (hD : D.pend.length ≤ 1000 ∧ D.writes ≤ 1000) (hE : E.pend.length ≤ 1000 ∧ E.writes ≤ 1000) (hΦ : ∀ w1 w2 T, Φ w1 → Fr T w1 w2 → (∀ k ∈ S, k ∉ T) → Φ w2)
    {j : Nat} {e : Env} {w' : World} (hj : j < l.length)
    (hI : ApI1 w b c D E S Φ l v v0 v1 b5 b7 b10 b11 (l.length - j) e w') {K : KT} (hK : ∀ e' w'', ApI1 w b c D E S Φ l v v0 v1 b5 b7 b10 b11 (l.length - (j + 1)) e' w'' → K .normal e' w'') : F8B1 e w' K := by
  obtain ⟨j', F, G, hm, hj', ht, hO, hP, hS, eix, eln, esl, e0, e1, e5, e7, e10, e11⟩ := hI
  have : j' = j := by omega
  subst this
  unfold F8B1
  obtain ⟨p, hp⟩ : ∃ p, l[j']? = some p := ⟨_, List.getElem?_eq_getElem hj⟩
  have h' := h.fr0 hO.fr
  obtain ⟨a, cc, hv0⟩ := sl_of h'.1
  subst hv0
  obtain ⟨_, ob, oo, rfl, hb, hin, htk, hok⟩ := op_at h' hp
  have hok0 := h.2 p (List.mem_of_getElem? hp)
  obtain ⟨r1, r2⟩ := runD_props D l (j := j') (by omega)
  obtain ⟨r3, r4⟩ := runD_props E l (j := j') (by omega)
  have hji : (j' : Int) < l.length := by omega
  have hwj : IntKind.i64.wrap ((j' : Int) + 1) = ((j' + 1 : Nat) : Int) := wrap64 (by omega) (by omega)
  have hs4 : ∀ l : List Value, l.length = 4 → splice l 0 (opc p) = opc p := fun l hl => splice_full (by rw [hl]; rfl)
  have hone := opc_one hok
  have hol : (opc p).length = 4 := rfl
  have ht4 : List.take 4 (opc p) = opc p := rfl
  have hfW : ∀ t, Fr [] w' (wr (nw w' t 46) (sz w') (opc p)) := fun t => ((Fr.refl [] w').nw _ _).wr (.inr (Nat.le_refl _)) _
  subst r5 r11
  try simp (maxDischargeDepth := 8) [↓bindV_some, ↓bindU_some, ↓condE_true, ↓condE_false, ↓pickE_true, ↓pickE_false, ↓pickE_or, ↓pickE_and, ↓grdE_true, ↓grdE_false, ↓grdE_tf, ↓grdE_ft, ↓grdE_undef, ↓nilE_pt, ↓thenK_normal, ↓thenK_exit, ↓thenK_ret, ↓thenK_goto, ↓thenK_panic, ↓blockK_exit, ↓blockK_normal, ↓blockK_ret, ↓blockK_goto, ↓blockK_panic, ↓loopK_normal, ↓loopK_exit, ↓loopK_ret, ↓loopK_goto, ↓loopK_panic, ↓topK_ret, ↓topK_normal, ↓topK_panic, ↓resVs_nil, ↓resVs_tmp, ↓resVs_cell, tup_one, tup_nil, tup_two, put_get, argE_get, ↓takeE_def, ↓heldE_nil, ↓heldE_cons, qNil_pt, qPick_bool, qGrd_bool, qGrd_undef, ↓letK_def, pBox_eq, pBin_add, pBin_sub, pBin_mul, pBin_eql, pBin_neq, pBin_lss, pBin_leq, pBin_gtr, pBin_geq, pUn_not, pUn_neg, eqB, neB, eqS, neS, pExtract0, pExtract1, pExtract2, max_int, min_int, sz_nw, sz_wr, sz_drew, mm_nw, fz_nw, mm_drew, fz_drew, fz_wr, sz_mkS, mm_mkS, fz_mkS, Fr.mkS, mm_wr_same, mm_wr_ne, wr_wr, bs_oneT, splice_full, gt_zero, gt_succ, gt_set, gt_bs, byte_eq0, byte_eq1, byte_n0, byte_n1, Fr.refl, Fr.nw, Fr.wr, Fr.drew, eix, eln, esl, e0, e1, e5, e7, e10, e11, hj, hji, hin, htk, hs4, hone, hol, ht4]
  have t1 := ht.calm (hfW [Value.int IntKind.i64 0, Value.int IntKind.i64 0, Value.int IntKind.u8 0, Value.slice none 0 0])
  have o1 := hO.calm (hfW [Value.int IntKind.i64 0, Value.int IntKind.i64 0, Value.int IntKind.u8 0, Value.slice none 0 0])
  have p1 := hΦ _ _ [] hP (hfW [Value.int IntKind.i64 0, Value.int IntKind.i64 0, Value.int IntKind.u8 0, Value.slice none 0 0]) (by simp)
  have s1 := (hfW [Value.int IntKind.i64 0, Value.int IntKind.i64 0, Value.int IntKind.u8 0, Value.slice none 0 0]).size
  have hok1 : OkOp (wr (nw w' [Value.int IntKind.i64 0, Value.int IntKind.i64 0, Value.int IntKind.u8 0, Value.slice none 0 0] 46) (sz w') (opc p)) p := ⟨hok.1.fr0 (hfW _), hok.2⟩
  refine (do_spec t1 hok1 (fun k hk hF => kept_apart o1 hok0 k hk (by simpa using hF)) ⟨by omega, by omega⟩ ⟨by omega, by omega⟩).call ?_
  rintro _ w2 ⟨⟨B, rfl, hB⟩, F2, G2, t2, g2⟩
  have o2 := o1.grow2 g2
  rw [← runD_succ hp, ← runD_succ hp] at t2
  have p2 := hΦ _ _ _ p1 g2.fr (fun k hk hk2 => by
    have := hS k hk
    rcases List.mem_append.1 hk2 with hk2 | hk2
    · exact this.2.1 hk2
    · exact this.2.2 hk2)
  have hS2 : ∀ k ∈ S, k < sz w2 ∧ k ∉ F2 ∧ k ∉ G2 := fun k hk => by
    have := hS k hk
    have hlt := Nat.lt_of_lt_of_le this.1 s1
    refine ⟨g2.fr.lt hlt, fun h => ?_, fun h => ?_⟩
    · rcases g2.newF k h with h | h
      · exact this.2.1 h
      · omega
    · rcases g2.newG k h with h | h
      · exact this.2.2 h
      · omega
  try simp (maxDischargeDepth := 8) [↓bindV_some, ↓bindU_some, ↓condE_true, ↓condE_false, ↓pickE_true, ↓pickE_false, ↓pickE_or, ↓pickE_and, ↓grdE_true, ↓grdE_false, ↓grdE_tf, ↓grdE_ft, ↓grdE_undef, ↓nilE_pt, ↓thenK_normal, ↓thenK_exit, ↓thenK_ret, ↓thenK_goto, ↓thenK_panic, ↓blockK_exit, ↓blockK_normal, ↓blockK_ret, ↓blockK_goto, ↓blockK_panic, ↓loopK_normal, ↓loopK_exit, ↓loopK_ret, ↓loopK_goto, ↓loopK_panic, ↓topK_ret, ↓topK_normal, ↓topK_panic, ↓resVs_nil, ↓resVs_tmp, ↓resVs_cell, tup_one, tup_nil, tup_two, put_get, argE_get, ↓takeE_def, ↓heldE_nil, ↓heldE_cons, qNil_pt, qPick_bool, qGrd_bool, qGrd_undef, ↓letK_def, pBox_eq, pBin_add, pBin_sub, pBin_mul, pBin_eql, pBin_neq, pBin_lss, pBin_leq, pBin_gtr, pBin_geq, pUn_not, pUn_neg, eqB, neB, eqS, neS, pExtract0, pExtract1, pExtract2, max_int, min_int, sz_nw, sz_wr, sz_drew, mm_nw, fz_nw, mm_drew, fz_drew, fz_wr, sz_mkS, mm_mkS, fz_mkS, Fr.mkS, mm_wr_same, mm_wr_ne, wr_wr, bs_oneT, splice_full, gt_zero, gt_succ, gt_set, gt_bs, byte_eq0, byte_eq1, byte_n0, byte_n1, Fr.refl, Fr.nw, Fr.wr, Fr.drew, eix, hwj, -Int.natCast_add]
  exact hK _ _ ⟨j' + 1, F2, G2, rfl, by omega, t2, o2, p2, hS2, by simp [put_get, eix, eln, esl, e0, e1, e5, e7, e10, e11]⟩


def ApI2 (w : World) (b c : Nat) (D E : DD) (S : List Nat) (Φ : World → Prop) (l : List (OpM × Value)) (v v0 v1 : Value) (b5 b7 b10 b11 : Value) (m : Nat) (e : Env) (w' : World) : Prop :=
  ∃ (j : Nat) (F G : List Nat), m = l.length - j ∧ j ≤ l.length ∧ Two w' b (runD D l j) F c (runD E l j) G ∧ Own w w' (F ++ G) ∧ Φ w' ∧ (∀ k ∈ S, k < sz w' ∧ k ∉ F ∧ k ∉ G) ∧
    e 60 = i64 j ∧ e 59 = i64 l.length ∧ e 58 = v ∧ e 0 = v0 ∧ e 1 = v1 ∧ e 5 = b5 ∧ e 7 = b7 ∧ e 10 = b10 ∧ e 11 = b11

theorem apart_step2 {w : World} {b c : Nat} {D E : DD} {S : List Nat} {Φ : World → Prop} {l : List (OpM × Value)} {v v0 v1 b5 b7 b10 b11 : Value} (r10 : b10 = pt b 0) (r7 : b7 = pt c 0) (hDE : D = E) (h : IsOps w v l) (hl : l.length ≤ 100)
    (hD : D.pend.length ≤ 1000 ∧ D.writes ≤ 1000) (hE : E.pend.length ≤ 1000 ∧ E.writes ≤ 1000) (hΦ : ∀ w1 w2 T, Φ w1 → Fr T w1 w2 → (∀ k ∈ S, k ∉ T) → Φ w2)
    {j : Nat} {e : Env} {w' : World} (hj : j < l.length)
    (hI : ApI2 w b c D E S Φ l v v0 v1 b5 b7 b10 b11 (l.length - j) e w') {K : KT} (hK : ∀ e' w'', ApI2 w b c D E S Φ l v v0 v1 b5 b7 b10 b11 (l.length - (j + 1)) e' w'' → K .normal e' w'') : F8B2 e w' K := by
  obtain ⟨j', F, G, hm, hj', ht, hO, hP, hS, eix, eln, esl, e0, e1, e5, e7, e10, e11⟩ := hI
  have : j' = j := by omega
  subst this
  unfold F8B2
  obtain ⟨p, hp⟩ : ∃ p, l[j']? = some p := ⟨_, List.getElem?_eq_getElem hj⟩
  have h' := h.fr0 hO.fr
  obtain ⟨a, cc, hv0⟩ := sl_of h'.1
  subst hv0
  obtain ⟨_, ob, oo, rfl, hb, hin, htk, hok⟩ := op_at h' hp
  have hok0 := h.2 p (List.mem_of_getElem? hp)
  obtain ⟨r1, r2⟩ := runD_props D l (j := j') (by omega)
  obtain ⟨r3, r4⟩ := runD_props E l (j := j') (by omega)
  have hji : (j' : Int) < l.length := by omega
  have hwj : IntKind.i64.wrap ((j' : Int) + 1) = ((j' + 1 : Nat) : Int) := wrap64 (by omega) (by omega)
  have hs4 : ∀ l : List Value, l.length = 4 → splice l 0 (opc p) = opc p := fun l hl => splice_full (by rw [hl]; rfl)
  have hone := opc_one hok
  have hol : (opc p).length = 4 := rfl
  have ht4 : List.take 4 (opc p) = opc p := rfl
  have hfW : ∀ t, Fr [] w' (wr (nw w' t 46) (sz w') (opc p)) := fun t => ((Fr.refl [] w').nw _ _).wr (.inr (Nat.le_refl _)) _
  subst r10 r7
  try simp (maxDischargeDepth := 8) [↓bindV_some, ↓bindU_some, ↓condE_true, ↓condE_false, ↓pickE_true, ↓pickE_false, ↓pickE_or, ↓pickE_and, ↓grdE_true, ↓grdE_false, ↓grdE_tf, ↓grdE_ft, ↓grdE_undef, ↓nilE_pt, ↓thenK_normal, ↓thenK_exit, ↓thenK_ret, ↓thenK_goto, ↓thenK_panic, ↓blockK_exit, ↓blockK_normal, ↓blockK_ret, ↓blockK_goto, ↓blockK_panic, ↓loopK_normal, ↓loopK_exit, ↓loopK_ret, ↓loopK_goto, ↓loopK_panic, ↓topK_ret, ↓topK_normal, ↓topK_panic, ↓resVs_nil, ↓resVs_tmp, ↓resVs_cell, tup_one, tup_nil, tup_two, put_get, argE_get, ↓takeE_def, ↓heldE_nil, ↓heldE_cons, qNil_pt, qPick_bool, qGrd_bool, qGrd_undef, ↓letK_def, pBox_eq, pBin_add, pBin_sub, pBin_mul, pBin_eql, pBin_neq, pBin_lss, pBin_leq, pBin_gtr, pBin_geq, pUn_not, pUn_neg, eqB, neB, eqS, neS, pExtract0, pExtract1, pExtract2, max_int, min_int, sz_nw, sz_wr, sz_drew, mm_nw, fz_nw, mm_drew, fz_drew, fz_wr, sz_mkS, mm_mkS, fz_mkS, Fr.mkS, mm_wr_same, mm_wr_ne, wr_wr, bs_oneT, splice_full, gt_zero, gt_succ, gt_set, gt_bs, byte_eq0, byte_eq1, byte_n0, byte_n1, Fr.refl, Fr.nw, Fr.wr, Fr.drew, eix, eln, esl, e0, e1, e5, e7, e10, e11, hj, hji, hin, htk, hs4, hone, hol, ht4]
  have t1 := ht.calm (hfW [Value.int IntKind.i64 0, Value.int IntKind.i64 0, Value.int IntKind.u8 0, Value.slice none 0 0])
  have o1 := hO.calm (hfW [Value.int IntKind.i64 0, Value.int IntKind.i64 0, Value.int IntKind.u8 0, Value.slice none 0 0])
  have p1 := hΦ _ _ [] hP (hfW [Value.int IntKind.i64 0, Value.int IntKind.i64 0, Value.int IntKind.u8 0, Value.slice none 0 0]) (by simp)
  have s1 := (hfW [Value.int IntKind.i64 0, Value.int IntKind.i64 0, Value.int IntKind.u8 0, Value.slice none 0 0]).size
  have hok1 : OkOp (wr (nw w' [Value.int IntKind.i64 0, Value.int IntKind.i64 0, Value.int IntKind.u8 0, Value.slice none 0 0] 46) (sz w') (opc p)) p := ⟨hok.1.fr0 (hfW _), hok.2⟩
  refine (do_spec t1 hok1 (fun k hk hF => kept_apart o1 hok0 k hk (by simpa using hF)) ⟨by omega, by omega⟩ ⟨by omega, by omega⟩).call ?_
  rintro _ w2 ⟨⟨B, rfl, hB⟩, F2, G2, t2, g2⟩
  have o2 := o1.grow2 g2
  rw [← runD_succ hp, ← runD_succ hp] at t2
  have p2 := hΦ _ _ _ p1 g2.fr (fun k hk hk2 => by
    have := hS k hk
    rcases List.mem_append.1 hk2 with hk2 | hk2
    · exact this.2.1 hk2
    · exact this.2.2 hk2)
  have hS2 : ∀ k ∈ S, k < sz w2 ∧ k ∉ F2 ∧ k ∉ G2 := fun k hk => by
    have := hS k hk
    have hlt := Nat.lt_of_lt_of_le this.1 s1
    refine ⟨g2.fr.lt hlt, fun h => ?_, fun h => ?_⟩
    · rcases g2.newF k h with h | h
      · exact this.2.1 h
      · omega
    · rcases g2.newG k h with h | h
      · exact this.2.2 h
      · omega
  rw [hB (by rw [hDE])]
  try simp (maxDischargeDepth := 8) [↓bindV_some, ↓bindU_some, ↓condE_true, ↓condE_false, ↓pickE_true, ↓pickE_false, ↓pickE_or, ↓pickE_and, ↓grdE_true, ↓grdE_false, ↓grdE_tf, ↓grdE_ft, ↓grdE_undef, ↓nilE_pt, ↓thenK_normal, ↓thenK_exit, ↓thenK_ret, ↓thenK_goto, ↓thenK_panic, ↓blockK_exit, ↓blockK_normal, ↓blockK_ret, ↓blockK_goto, ↓blockK_panic, ↓loopK_normal, ↓loopK_exit, ↓loopK_ret, ↓loopK_goto, ↓loopK_panic, ↓topK_ret, ↓topK_normal, ↓topK_panic, ↓resVs_nil, ↓resVs_tmp, ↓resVs_cell, tup_one, tup_nil, tup_two, put_get, argE_get, ↓takeE_def, ↓heldE_nil, ↓heldE_cons, qNil_pt, qPick_bool, qGrd_bool, qGrd_undef, ↓letK_def, pBox_eq, pBin_add, pBin_sub, pBin_mul, pBin_eql, pBin_neq, pBin_lss, pBin_leq, pBin_gtr, pBin_geq, pUn_not, pUn_neg, eqB, neB, eqS, neS, pExtract0, pExtract1, pExtract2, max_int, min_int, sz_nw, sz_wr, sz_drew, mm_nw, fz_nw, mm_drew, fz_drew, fz_wr, sz_mkS, mm_mkS, fz_mkS, Fr.mkS, mm_wr_same, mm_wr_ne, wr_wr, bs_oneT, splice_full, gt_zero, gt_succ, gt_set, gt_bs, byte_eq0, byte_eq1, byte_n0, byte_n1, Fr.refl, Fr.nw, Fr.wr, Fr.drew, eix, hwj, -Int.natCast_add]
  exact hK _ _ ⟨j' + 1, F2, G2, rfl, by omega, t2, o2, p2, hS2, by simp [put_get, eix, eln, esl, e0, e1, e5, e7, e10, e11]⟩


theorem diskApart_law {w : World} {v0 v1 : Value} {l more : List (OpM × Value)} (h : IsOps w v0 l) (hm : IsOps w v1 more) :
    Ret P 8 #[v0, v1] w fun v w' => v = .bool true ∧ Fr [] w w' := by
  refine F8ok ?_
  unfold F8
  refine speaks17.call ?_
  rintro _ w1 ⟨rfl, hf1⟩
  try simp (maxDischargeDepth := 8) [↓bindV_some, ↓bindU_some, ↓condE_true, ↓condE_false, ↓pickE_true, ↓pickE_false, ↓pickE_or, ↓pickE_and, ↓grdE_true, ↓grdE_false, ↓grdE_tf, ↓grdE_ft, ↓grdE_undef, ↓nilE_pt, ↓thenK_normal, ↓thenK_exit, ↓thenK_ret, ↓thenK_goto, ↓thenK_panic, ↓blockK_exit, ↓blockK_normal, ↓blockK_ret, ↓blockK_goto, ↓blockK_panic, ↓loopK_normal, ↓loopK_exit, ↓loopK_ret, ↓loopK_goto, ↓loopK_panic, ↓topK_ret, ↓topK_normal, ↓topK_panic, ↓resVs_nil, ↓resVs_tmp, ↓resVs_cell, tup_one, tup_nil, tup_two, put_get, argE_get, ↓takeE_def, ↓heldE_nil, ↓heldE_cons, qNil_pt, qPick_bool, qGrd_bool, qGrd_undef, ↓letK_def, pBox_eq, pBin_add, pBin_sub, pBin_mul, pBin_eql, pBin_neq, pBin_lss, pBin_leq, pBin_gtr, pBin_geq, pUn_not, pUn_neg, eqB, neB, eqS, neS, pExtract0, pExtract1, pExtract2, max_int, min_int, sz_nw, sz_wr, sz_drew, mm_nw, fz_nw, mm_drew, fz_drew, fz_wr, sz_mkS, mm_mkS, fz_mkS, Fr.mkS, mm_wr_same, mm_wr_ne, wr_wr, bs_oneT, splice_full, gt_zero, gt_succ, gt_set, gt_bs, byte_eq0, byte_eq1, byte_n0, byte_n1, Fr.refl, Fr.nw, Fr.wr, Fr.drew]
  refine (big_spec (h.fr0 hf1)).call ?_
  rintro _ w2 ⟨⟨B1, rfl, hB1⟩, hf2⟩
  have g2 := hf1.trans0 hf2
  cases B1 with
  | true => simp (maxDischargeDepth := 8) [↓bindV_some, ↓bindU_some, ↓condE_true, ↓condE_false, ↓pickE_true, ↓pickE_false, ↓pickE_or, ↓pickE_and, ↓grdE_true, ↓grdE_false, ↓grdE_tf, ↓grdE_ft, ↓grdE_undef, ↓nilE_pt, ↓thenK_normal, ↓thenK_exit, ↓thenK_ret, ↓thenK_goto, ↓thenK_panic, ↓blockK_exit, ↓blockK_normal, ↓blockK_ret, ↓blockK_goto, ↓blockK_panic, ↓loopK_normal, ↓loopK_exit, ↓loopK_ret, ↓loopK_goto, ↓loopK_panic, ↓topK_ret, ↓topK_normal, ↓topK_panic, ↓resVs_nil, ↓resVs_tmp, ↓resVs_cell, tup_one, tup_nil, tup_two, put_get, argE_get, ↓takeE_def, ↓heldE_nil, ↓heldE_cons, qNil_pt, qPick_bool, qGrd_bool, qGrd_undef, ↓letK_def, pBox_eq, pBin_add, pBin_sub, pBin_mul, pBin_eql, pBin_neq, pBin_lss, pBin_leq, pBin_gtr, pBin_geq, pUn_not, pUn_neg, eqB, neB, eqS, neS, pExtract0, pExtract1, pExtract2, max_int, min_int, sz_nw, sz_wr, sz_drew, mm_nw, fz_nw, mm_drew, fz_drew, fz_wr, sz_mkS, mm_mkS, fz_mkS, Fr.mkS, mm_wr_same, mm_wr_ne, wr_wr, bs_oneT, splice_full, gt_zero, gt_succ, gt_set, gt_bs, byte_eq0, byte_eq1, byte_n0, byte_n1, Fr.refl, Fr.nw, Fr.wr, Fr.drew, g2]
  | false =>
  obtain ⟨b1, b2⟩ := hB1 rfl
  try simp (maxDischargeDepth := 8) [↓bindV_some, ↓bindU_some, ↓condE_true, ↓condE_false, ↓pickE_true, ↓pickE_false, ↓pickE_or, ↓pickE_and, ↓grdE_true, ↓grdE_false, ↓grdE_tf, ↓grdE_ft, ↓grdE_undef, ↓nilE_pt, ↓thenK_normal, ↓thenK_exit, ↓thenK_ret, ↓thenK_goto, ↓thenK_panic, ↓blockK_exit, ↓blockK_normal, ↓blockK_ret, ↓blockK_goto, ↓blockK_panic, ↓loopK_normal, ↓loopK_exit, ↓loopK_ret, ↓loopK_goto, ↓loopK_panic, ↓topK_ret, ↓topK_normal, ↓topK_panic, ↓resVs_nil, ↓resVs_tmp, ↓resVs_cell, tup_one, tup_nil, tup_two, put_get, argE_get, ↓takeE_def, ↓heldE_nil, ↓heldE_cons, qNil_pt, qPick_bool, qGrd_bool, qGrd_undef, ↓letK_def, pBox_eq, pBin_add, pBin_sub, pBin_mul, pBin_eql, pBin_neq, pBin_lss, pBin_leq, pBin_gtr, pBin_geq, pUn_not, pUn_neg, eqB, neB, eqS, neS, pExtract0, pExtract1, pExtract2, max_int, min_int, sz_nw, sz_wr, sz_drew, mm_nw, fz_nw, mm_drew, fz_drew, fz_wr, sz_mkS, mm_mkS, fz_mkS, Fr.mkS, mm_wr_same, mm_wr_ne, wr_wr, bs_oneT, splice_full, gt_zero, gt_succ, gt_set, gt_bs, byte_eq0, byte_eq1, byte_n0, byte_n1, Fr.refl, Fr.nw, Fr.wr, Fr.drew]
  refine (big_spec (hm.fr0 g2)).call ?_
  rintro _ w3 ⟨⟨B2, rfl, hB2⟩, hf3⟩
  have g3 := g2.trans0 hf3
  cases B2 with
  | true => simp (maxDischargeDepth := 8) [↓bindV_some, ↓bindU_some, ↓condE_true, ↓condE_false, ↓pickE_true, ↓pickE_false, ↓pickE_or, ↓pickE_and, ↓grdE_true, ↓grdE_false, ↓grdE_tf, ↓grdE_ft, ↓grdE_undef, ↓nilE_pt, ↓thenK_normal, ↓thenK_exit, ↓thenK_ret, ↓thenK_goto, ↓thenK_panic, ↓blockK_exit, ↓blockK_normal, ↓blockK_ret, ↓blockK_goto, ↓blockK_panic, ↓loopK_normal, ↓loopK_exit, ↓loopK_ret, ↓loopK_goto, ↓loopK_panic, ↓topK_ret, ↓topK_normal, ↓topK_panic, ↓resVs_nil, ↓resVs_tmp, ↓resVs_cell, tup_one, tup_nil, tup_two, put_get, argE_get, ↓takeE_def, ↓heldE_nil, ↓heldE_cons, qNil_pt, qPick_bool, qGrd_bool, qGrd_undef, ↓letK_def, pBox_eq, pBin_add, pBin_sub, pBin_mul, pBin_eql, pBin_neq, pBin_lss, pBin_leq, pBin_gtr, pBin_geq, pUn_not, pUn_neg, eqB, neB, eqS, neS, pExtract0, pExtract1, pExtract2, max_int, min_int, sz_nw, sz_wr, sz_drew, mm_nw, fz_nw, mm_drew, fz_drew, fz_wr, sz_mkS, mm_mkS, fz_mkS, Fr.mkS, mm_wr_same, mm_wr_ne, wr_wr, bs_oneT, splice_full, gt_zero, gt_succ, gt_set, gt_bs, byte_eq0, byte_eq1, byte_n0, byte_n1, Fr.refl, Fr.nw, Fr.wr, Fr.drew, g3]
  | false =>
  obtain ⟨c1, c2⟩ := hB2 rfl
  obtain ⟨a, ca, hv0⟩ := sl_of h.1
  obtain ⟨a', ca', hv1⟩ := sl_of hm.1
  try simp (maxDischargeDepth := 8) [↓bindV_some, ↓bindU_some, ↓condE_true, ↓condE_false, ↓pickE_true, ↓pickE_false, ↓pickE_or, ↓pickE_and, ↓grdE_true, ↓grdE_false, ↓grdE_tf, ↓grdE_ft, ↓grdE_undef, ↓nilE_pt, ↓thenK_normal, ↓thenK_exit, ↓thenK_ret, ↓thenK_goto, ↓thenK_panic, ↓blockK_exit, ↓blockK_normal, ↓blockK_ret, ↓blockK_goto, ↓blockK_panic, ↓loopK_normal, ↓loopK_exit, ↓loopK_ret, ↓loopK_goto, ↓loopK_panic, ↓topK_ret, ↓topK_normal, ↓topK_panic, ↓resVs_nil, ↓resVs_tmp, ↓resVs_cell, tup_one, tup_nil, tup_two, put_get, argE_get, ↓takeE_def, ↓heldE_nil, ↓heldE_cons, qNil_pt, qPick_bool, qGrd_bool, qGrd_undef, ↓letK_def, pBox_eq, pBin_add, pBin_sub, pBin_mul, pBin_eql, pBin_neq, pBin_lss, pBin_leq, pBin_gtr, pBin_geq, pUn_not, pUn_neg, eqB, neB, eqS, neS, pExtract0, pExtract1, pExtract2, max_int, min_int, sz_nw, sz_wr, sz_drew, mm_nw, fz_nw, mm_drew, fz_drew, fz_wr, sz_mkS, mm_mkS, fz_mkS, Fr.mkS, mm_wr_same, mm_wr_ne, wr_wr, bs_oneT, splice_full, gt_zero, gt_succ, gt_set, gt_bs, byte_eq0, byte_eq1, byte_n0, byte_n1, Fr.refl, Fr.nw, Fr.wr, Fr.drew]
  refine (new_spec (n := 8) (by omega) (by omega)).call ?_
  rintro _ w4 ⟨b, F, rfl, hd, hf4, hF⟩
  have g4 := g3.trans0 hf4
  try simp (maxDischargeDepth := 8) [↓bindV_some, ↓bindU_some, ↓condE_true, ↓condE_false, ↓pickE_true, ↓pickE_false, ↓pickE_or, ↓pickE_and, ↓grdE_true, ↓grdE_false, ↓grdE_tf, ↓grdE_ft, ↓grdE_undef, ↓nilE_pt, ↓thenK_normal, ↓thenK_exit, ↓thenK_ret, ↓thenK_goto, ↓thenK_panic, ↓blockK_exit, ↓blockK_normal, ↓blockK_ret, ↓blockK_goto, ↓blockK_panic, ↓loopK_normal, ↓loopK_exit, ↓loopK_ret, ↓loopK_goto, ↓loopK_panic, ↓topK_ret, ↓topK_normal, ↓topK_panic, ↓resVs_nil, ↓resVs_tmp, ↓resVs_cell, tup_one, tup_nil, tup_two, put_get, argE_get, ↓takeE_def, ↓heldE_nil, ↓heldE_cons, qNil_pt, qPick_bool, qGrd_bool, qGrd_undef, ↓letK_def, pBox_eq, pBin_add, pBin_sub, pBin_mul, pBin_eql, pBin_neq, pBin_lss, pBin_leq, pBin_gtr, pBin_geq, pUn_not, pUn_neg, eqB, neB, eqS, neS, pExtract0, pExtract1, pExtract2, max_int, min_int, sz_nw, sz_wr, sz_drew, mm_nw, fz_nw, mm_drew, fz_drew, fz_wr, sz_mkS, mm_mkS, fz_mkS, Fr.mkS, mm_wr_same, mm_wr_ne, wr_wr, bs_oneT, splice_full, gt_zero, gt_succ, gt_set, gt_bs, byte_eq0, byte_eq1, byte_n0, byte_n1, Fr.refl, Fr.nw, Fr.wr, Fr.drew]
  refine (rnew_spec (n := 8) (by omega) (by omega)).call ?_
  rintro _ w5 ⟨c, G, rfl, hr, hf5, hG⟩
  have g5 := g4.trans0 hf5
  have t5 : Two w5 b (newD 8) F c (newD 8) G := ⟨hd.fr0 hf5, hr, fun k hk hk2 => by have := hd.flt k hk; have := hG k hk2; omega⟩
  have o5 : Own w w5 (F ++ G) := ⟨g5, fun k hk => by
    rcases List.mem_append.1 hk with hk | hk
    · exact Nat.le_trans g3.size (hF k hk)
    · exact Nat.le_trans g4.size (hG k hk)⟩
  try simp (maxDischargeDepth := 8) [↓bindV_some, ↓bindU_some, ↓condE_true, ↓condE_false, ↓pickE_true, ↓pickE_false, ↓pickE_or, ↓pickE_and, ↓grdE_true, ↓grdE_false, ↓grdE_tf, ↓grdE_ft, ↓grdE_undef, ↓nilE_pt, ↓thenK_normal, ↓thenK_exit, ↓thenK_ret, ↓thenK_goto, ↓thenK_panic, ↓blockK_exit, ↓blockK_normal, ↓blockK_ret, ↓blockK_goto, ↓blockK_panic, ↓loopK_normal, ↓loopK_exit, ↓loopK_ret, ↓loopK_goto, ↓loopK_panic, ↓topK_ret, ↓topK_normal, ↓topK_panic, ↓resVs_nil, ↓resVs_tmp, ↓resVs_cell, tup_one, tup_nil, tup_two, put_get, argE_get, ↓takeE_def, ↓heldE_nil, ↓heldE_cons, qNil_pt, qPick_bool, qGrd_bool, qGrd_undef, ↓letK_def, pBox_eq, pBin_add, pBin_sub, pBin_mul, pBin_eql, pBin_neq, pBin_lss, pBin_leq, pBin_gtr, pBin_geq, pUn_not, pUn_neg, eqB, neB, eqS, neS, pExtract0, pExtract1, pExtract2, max_int, min_int, sz_nw, sz_wr, sz_drew, mm_nw, fz_nw, mm_drew, fz_drew, fz_wr, sz_mkS, mm_mkS, fz_mkS, Fr.mkS, mm_wr_same, mm_wr_ne, wr_wr, bs_oneT, splice_full, gt_zero, gt_succ, gt_set, gt_bs, byte_eq0, byte_eq1, byte_n0, byte_n1, Fr.refl, Fr.nw, Fr.wr, Fr.drew, hv0]
  refine loopE_of (ApI0 w b c (newD 8) (newD 8) [] (fun _ => True) l v0 v0 v1 (pt b 0) (pt c 0) undef undef) l.length ?_ ?_
  · exact ⟨0, F, G, by omega, by omega, t5, o5, trivial, by simp, by simp [put_get, argE_get, hv0]⟩
  intro m e w6 hI
  obtain ⟨j, F6, G6, hm6, hj, t6, o6, p6, s6, eix, eln, esl, e0, e1, e5, e7, e10, e11⟩ := id hI
  subst hm6
  by_cases hjl : j < l.length
  · exact apart_step0 rfl rfl h b1 ⟨by simp [newD], by simp [newD]⟩ ⟨by simp [newD], by simp [newD]⟩ (fun _ _ _ _ _ _ => trivial) hjl hI fun e' w'' hK => ⟨l.length - (j + 1), by omega, hK⟩
  have hje : j = l.length := by omega
  subst hje
  unfold F8B0
  have hlen : ∀ {w' : World} {b : Nat} {D : DD} {F : List Nat}, IsD w' b D F → D.firm.length = D.firm.length := fun _ => rfl
  obtain ⟨q1, q2⟩ := runD_props (newD 8) l (Nat.le_refl l.length)
  have q1' : (newD 8).pend.length = 0 := rfl
  have q2' : (newD 8).writes = 0 := rfl
  have hfl : (runD (newD 8) l l.length).firm.length = 8 := (runD_firm _ _ _).trans (by simp [newD])
  generalize runD (newD 8) l l.length = D1 at *
  try simp (maxDischargeDepth := 8) [↓bindV_some, ↓bindU_some, ↓condE_true, ↓condE_false, ↓pickE_true, ↓pickE_false, ↓pickE_or, ↓pickE_and, ↓grdE_true, ↓grdE_false, ↓grdE_tf, ↓grdE_ft, ↓grdE_undef, ↓nilE_pt, ↓thenK_normal, ↓thenK_exit, ↓thenK_ret, ↓thenK_goto, ↓thenK_panic, ↓blockK_exit, ↓blockK_normal, ↓blockK_ret, ↓blockK_goto, ↓blockK_panic, ↓loopK_normal, ↓loopK_exit, ↓loopK_ret, ↓loopK_goto, ↓loopK_panic, ↓topK_ret, ↓topK_normal, ↓topK_panic, ↓resVs_nil, ↓resVs_tmp, ↓resVs_cell, tup_one, tup_nil, tup_two, put_get, argE_get, ↓takeE_def, ↓heldE_nil, ↓heldE_cons, qNil_pt, qPick_bool, qGrd_bool, qGrd_undef, ↓letK_def, pBox_eq, pBin_add, pBin_sub, pBin_mul, pBin_eql, pBin_neq, pBin_lss, pBin_leq, pBin_gtr, pBin_geq, pUn_not, pUn_neg, eqB, neB, eqS, neS, pExtract0, pExtract1, pExtract2, max_int, min_int, sz_nw, sz_wr, sz_drew, mm_nw, fz_nw, mm_drew, fz_drew, fz_wr, sz_mkS, mm_mkS, fz_mkS, Fr.mkS, mm_wr_same, mm_wr_ne, wr_wr, bs_oneT, splice_full, gt_zero, gt_succ, gt_set, gt_bs, byte_eq0, byte_eq1, byte_n0, byte_n1, Fr.refl, Fr.nw, Fr.wr, Fr.drew, eix, eln, e5]
  refine (clone_spec t6.d (by omega)).call ?_
  rintro _ w7 ⟨bc, Fc, rfl, hdc, hf7, hFc⟩
  have t7 := t6.calm hf7
  have o7 := o6.calm hf7
  try simp (maxDischargeDepth := 8) [↓bindV_some, ↓bindU_some, ↓condE_true, ↓condE_false, ↓pickE_true, ↓pickE_false, ↓pickE_or, ↓pickE_and, ↓grdE_true, ↓grdE_false, ↓grdE_tf, ↓grdE_ft, ↓grdE_undef, ↓nilE_pt, ↓thenK_normal, ↓thenK_exit, ↓thenK_ret, ↓thenK_goto, ↓thenK_panic, ↓blockK_exit, ↓blockK_normal, ↓blockK_ret, ↓blockK_goto, ↓blockK_panic, ↓loopK_normal, ↓loopK_exit, ↓loopK_ret, ↓loopK_goto, ↓loopK_panic, ↓topK_ret, ↓topK_normal, ↓topK_panic, ↓resVs_nil, ↓resVs_tmp, ↓resVs_cell, tup_one, tup_nil, tup_two, put_get, argE_get, ↓takeE_def, ↓heldE_nil, ↓heldE_cons, qNil_pt, qPick_bool, qGrd_bool, qGrd_undef, ↓letK_def, pBox_eq, pBin_add, pBin_sub, pBin_mul, pBin_eql, pBin_neq, pBin_lss, pBin_leq, pBin_gtr, pBin_geq, pUn_not, pUn_neg, eqB, neB, eqS, neS, pExtract0, pExtract1, pExtract2, max_int, min_int, sz_nw, sz_wr, sz_drew, mm_nw, fz_nw, mm_drew, fz_drew, fz_wr, sz_mkS, mm_mkS, fz_mkS, Fr.mkS, mm_wr_same, mm_wr_ne, wr_wr, bs_oneT, splice_full, gt_zero, gt_succ, gt_set, gt_bs, byte_eq0, byte_eq1, byte_n0, byte_n1, Fr.refl, Fr.nw, Fr.wr, Fr.drew]
  refine (rnew_spec (n := 8) (by omega) (by omega)).call ?_
  rintro _ w8 ⟨co, H, rfl, hro, hf8, hH⟩
  have t8 := t7.calm hf8
  have o8 := o7.calm hf8
  have hdc8 := hdc.fr0 hf8
  have tt8 : Two w8 b D1 F6 co (newD 8) H := ⟨t8.d, hro, fun k hk hk2 => by have := t7.d.flt k hk; have := hH k hk2; omega⟩
  have oo8 : Own w w8 (F6 ++ H) := ⟨o8.fr, fun k hk => by
    rcases List.mem_append.1 hk with hk | hk
    · exact o8.own k (by simp [hk])
    · exact Nat.le_trans o7.fr.size (hH k hk)⟩
  have own3 : ∀ k ∈ G6 ++ Fc, sz w ≤ k := fun k hk => by
    rcases List.mem_append.1 hk with hk | hk
    · exact o6.own k (by simp [hk])
    · exact Nat.le_trans o6.fr.size (hFc k hk)
  have s8 : ∀ k ∈ G6 ++ Fc, k < sz w8 ∧ k ∉ F6 ∧ k ∉ H := fun k hk => by
    rcases List.mem_append.1 hk with hk | hk
    · have := t7.r.flt k hk
      exact ⟨t8.r.flt k hk, fun h => t6.apart k h hk, fun h => by have := hH k h; omega⟩
    · have := hdc.flt k hk
      have hge := hFc k hk
      exact ⟨hdc8.flt k hk, fun h => by have := t6.d.flt k h; omega, fun h => by have := hH k h; omega⟩
  have tw8 : Two w8 bc D1 Fc c D1 G6 := ⟨hdc8, t8.r, fun k hk hk2 => by have := t6.r.flt k hk2; have := hFc k hk; omega⟩
  try simp (maxDischargeDepth := 8) [↓bindV_some, ↓bindU_some, ↓condE_true, ↓condE_false, ↓pickE_true, ↓pickE_false, ↓pickE_or, ↓pickE_and, ↓grdE_true, ↓grdE_false, ↓grdE_tf, ↓grdE_ft, ↓grdE_undef, ↓nilE_pt, ↓thenK_normal, ↓thenK_exit, ↓thenK_ret, ↓thenK_goto, ↓thenK_panic, ↓blockK_exit, ↓blockK_normal, ↓blockK_ret, ↓blockK_goto, ↓blockK_panic, ↓loopK_normal, ↓loopK_exit, ↓loopK_ret, ↓loopK_goto, ↓loopK_panic, ↓topK_ret, ↓topK_normal, ↓topK_panic, ↓resVs_nil, ↓resVs_tmp, ↓resVs_cell, tup_one, tup_nil, tup_two, put_get, argE_get, ↓takeE_def, ↓heldE_nil, ↓heldE_cons, qNil_pt, qPick_bool, qGrd_bool, qGrd_undef, ↓letK_def, pBox_eq, pBin_add, pBin_sub, pBin_mul, pBin_eql, pBin_neq, pBin_lss, pBin_leq, pBin_gtr, pBin_geq, pUn_not, pUn_neg, eqB, neB, eqS, neS, pExtract0, pExtract1, pExtract2, max_int, min_int, sz_nw, sz_wr, sz_drew, mm_nw, fz_nw, mm_drew, fz_drew, fz_wr, sz_mkS, mm_mkS, fz_mkS, Fr.mkS, mm_wr_same, mm_wr_ne, wr_wr, bs_oneT, splice_full, gt_zero, gt_succ, gt_set, gt_bs, byte_eq0, byte_eq1, byte_n0, byte_n1, Fr.refl, Fr.nw, Fr.wr, Fr.drew, e1, hv1]
  refine loopE_of (ApI1 w b co D1 (newD 8) (G6 ++ Fc) (fun w' => Two w' bc D1 Fc c D1 G6) more v1 v0 v1 (pt b 0) (pt c 0) (pt bc 0) (pt co 0)) more.length ?_ ?_
  · exact ⟨0, F6, H, by omega, by omega, tt8, oo8, tw8, s8, by simp [put_get, e0, e1, e5, e7, hv1]⟩
  have hΦ1 : ∀ w1 w2 T, Two w1 bc D1 Fc c D1 G6 → Fr T w1 w2 → (∀ k ∈ G6 ++ Fc, k ∉ T) → Two w2 bc D1 Fc c D1 G6 := fun w1 w2 T ht hf hT =>
    ⟨ht.d.fr hf fun k hk => hT k (by simp [hk]), ht.r.fr hf fun k hk => hT k (by simp [hk]), ht.apart⟩
  clear hI t6 t7 t8 tt8 tw8 o6 o7 o8 oo8 hdc hdc8 hro s8 hr hd t5 o5
  intro m e w9 hI
  obtain ⟨j, F9, G9, hm9, hj, t9, o9, p9, s9, eix, eln, esl, e0, e1, e5, e7, e10, e11⟩ := id hI
  subst hm9
  by_cases hjl : j < more.length
  · exact apart_step1 rfl rfl hm c1 ⟨by omega, by omega⟩ ⟨by simp [newD], by simp [newD]⟩ hΦ1 hjl hI fun e' w'' hK => ⟨more.length - (j + 1), by omega, hK⟩
  have hje : j = more.length := by omega
  subst hje
  unfold F8B1
  try simp (maxDischargeDepth := 8) [↓bindV_some, ↓bindU_some, ↓condE_true, ↓condE_false, ↓pickE_true, ↓pickE_false, ↓pickE_or, ↓pickE_and, ↓grdE_true, ↓grdE_false, ↓grdE_tf, ↓grdE_ft, ↓grdE_undef, ↓nilE_pt, ↓thenK_normal, ↓thenK_exit, ↓thenK_ret, ↓thenK_goto, ↓thenK_panic, ↓blockK_exit, ↓blockK_normal, ↓blockK_ret, ↓blockK_goto, ↓blockK_panic, ↓loopK_normal, ↓loopK_exit, ↓loopK_ret, ↓loopK_goto, ↓loopK_panic, ↓topK_ret, ↓topK_normal, ↓topK_panic, ↓resVs_nil, ↓resVs_tmp, ↓resVs_cell, tup_one, tup_nil, tup_two, put_get, argE_get, ↓takeE_def, ↓heldE_nil, ↓heldE_cons, qNil_pt, qPick_bool, qGrd_bool, qGrd_undef, ↓letK_def, pBox_eq, pBin_add, pBin_sub, pBin_mul, pBin_eql, pBin_neq, pBin_lss, pBin_leq, pBin_gtr, pBin_geq, pUn_not, pUn_neg, eqB, neB, eqS, neS, pExtract0, pExtract1, pExtract2, max_int, min_int, sz_nw, sz_wr, sz_drew, mm_nw, fz_nw, mm_drew, fz_drew, fz_wr, sz_mkS, mm_mkS, fz_mkS, Fr.mkS, mm_wr_same, mm_wr_ne, wr_wr, bs_oneT, splice_full, gt_zero, gt_succ, gt_set, gt_bs, byte_eq0, byte_eq1, byte_n0, byte_n1, Fr.refl, Fr.nw, Fr.wr, Fr.drew, eix, eln, e10, e7]
  refine (same_spec p9.d p9.r).call ?_
  rintro _ w10 ⟨rfl, hf10⟩
  have t10 := t9.calm hf10
  have o10 := o9.calm hf10
  have p10 := p9.calm hf10
  have oo10 : Own w w10 (Fc ++ G6) := ⟨o10.fr, fun k hk => own3 k (by simpa [or_comm] using hk)⟩
  have s10 : ∀ k ∈ F9, k < sz w10 ∧ k ∉ Fc ∧ k ∉ G6 := fun k hk =>
    ⟨t10.d.flt k hk, fun h => (s9 k (by simp [h])).2.1 hk, fun h => (s9 k (by simp [h])).2.1 hk⟩
  try simp (maxDischargeDepth := 8) [↓bindV_some, ↓bindU_some, ↓condE_true, ↓condE_false, ↓pickE_true, ↓pickE_false, ↓pickE_or, ↓pickE_and, ↓grdE_true, ↓grdE_false, ↓grdE_tf, ↓grdE_ft, ↓grdE_undef, ↓nilE_pt, ↓thenK_normal, ↓thenK_exit, ↓thenK_ret, ↓thenK_goto, ↓thenK_panic, ↓blockK_exit, ↓blockK_normal, ↓blockK_ret, ↓blockK_goto, ↓blockK_panic, ↓loopK_normal, ↓loopK_exit, ↓loopK_ret, ↓loopK_goto, ↓loopK_panic, ↓topK_ret, ↓topK_normal, ↓topK_panic, ↓resVs_nil, ↓resVs_tmp, ↓resVs_cell, tup_one, tup_nil, tup_two, put_get, argE_get, ↓takeE_def, ↓heldE_nil, ↓heldE_cons, qNil_pt, qPick_bool, qGrd_bool, qGrd_undef, ↓letK_def, pBox_eq, pBin_add, pBin_sub, pBin_mul, pBin_eql, pBin_neq, pBin_lss, pBin_leq, pBin_gtr, pBin_geq, pUn_not, pUn_neg, eqB, neB, eqS, neS, pExtract0, pExtract1, pExtract2, max_int, min_int, sz_nw, sz_wr, sz_drew, mm_nw, fz_nw, mm_drew, fz_drew, fz_wr, sz_mkS, mm_mkS, fz_mkS, Fr.mkS, mm_wr_same, mm_wr_ne, wr_wr, bs_oneT, splice_full, gt_zero, gt_succ, gt_set, gt_bs, byte_eq0, byte_eq1, byte_n0, byte_n1, Fr.refl, Fr.nw, Fr.wr, Fr.drew, e1, hv1]
  refine loopE_of (ApI2 w bc c D1 D1 F9 (fun w' => IsD w' b (runD D1 more more.length) F9) more v1 v0 v1 (pt b 0) (pt c 0) (pt bc 0) (pt co 0)) more.length ?_ ?_
  · exact ⟨0, Fc, G6, by omega, by omega, p10, oo10, t10.d, s10, by simp [put_get, e0, e1, e5, e7, e10, e11, hv1]⟩
  clear hI t9 t10 o9 o10 p9 p10 oo10 s9 s10
  intro m e w11 hI
  obtain ⟨j, F11, G11, hm11, hj, t11, o11, p11, s11, eix, eln, esl, e0, e1, e5, e7, e10, e11⟩ := id hI
  subst hm11
  by_cases hjl : j < more.length
  · exact apart_step2 rfl rfl rfl hm c1 ⟨by omega, by omega⟩ ⟨by omega, by omega⟩ (fun _ _ _ h hf hT => h.fr hf hT) hjl hI fun e' w'' hK => ⟨more.length - (j + 1), by omega, hK⟩
  have hje : j = more.length := by omega
  subst hje
  unfold F8B2
  try simp (maxDischargeDepth := 8) [↓bindV_some, ↓bindU_some, ↓condE_true, ↓condE_false, ↓pickE_true, ↓pickE_false, ↓pickE_or, ↓pickE_and, ↓grdE_true, ↓grdE_false, ↓grdE_tf, ↓grdE_ft, ↓grdE_undef, ↓nilE_pt, ↓thenK_normal, ↓thenK_exit, ↓thenK_ret, ↓thenK_goto, ↓thenK_panic, ↓blockK_exit, ↓blockK_normal, ↓blockK_ret, ↓blockK_goto, ↓blockK_panic, ↓loopK_normal, ↓loopK_exit, ↓loopK_ret, ↓loopK_goto, ↓loopK_panic, ↓topK_ret, ↓topK_normal, ↓topK_panic, ↓resVs_nil, ↓resVs_tmp, ↓resVs_cell, tup_one, tup_nil, tup_two, put_get, argE_get, ↓takeE_def, ↓heldE_nil, ↓heldE_cons, qNil_pt, qPick_bool, qGrd_bool, qGrd_undef, ↓letK_def, pBox_eq, pBin_add, pBin_sub, pBin_mul, pBin_eql, pBin_neq, pBin_lss, pBin_leq, pBin_gtr, pBin_geq, pUn_not, pUn_neg, eqB, neB, eqS, neS, pExtract0, pExtract1, pExtract2, max_int, min_int, sz_nw, sz_wr, sz_drew, mm_nw, fz_nw, mm_drew, fz_drew, fz_wr, sz_mkS, mm_mkS, fz_mkS, Fr.mkS, mm_wr_same, mm_wr_ne, wr_wr, bs_oneT, splice_full, gt_zero, gt_succ, gt_set, gt_bs, byte_eq0, byte_eq1, byte_n0, byte_n1, Fr.refl, Fr.nw, Fr.wr, Fr.drew, eix, eln, e10, e7]
  refine (same_spec t11.d t11.r).call ?_
  rintro _ w12 ⟨rfl, hf12⟩
  try simp (maxDischargeDepth := 8) [↓bindV_some, ↓bindU_some, ↓condE_true, ↓condE_false, ↓pickE_true, ↓pickE_false, ↓pickE_or, ↓pickE_and, ↓grdE_true, ↓grdE_false, ↓grdE_tf, ↓grdE_ft, ↓grdE_undef, ↓nilE_pt, ↓thenK_normal, ↓thenK_exit, ↓thenK_ret, ↓thenK_goto, ↓thenK_panic, ↓blockK_exit, ↓blockK_normal, ↓blockK_ret, ↓blockK_goto, ↓blockK_panic, ↓loopK_normal, ↓loopK_exit, ↓loopK_ret, ↓loopK_goto, ↓loopK_panic, ↓topK_ret, ↓topK_normal, ↓topK_panic, ↓resVs_nil, ↓resVs_tmp, ↓resVs_cell, tup_one, tup_nil, tup_two, put_get, argE_get, ↓takeE_def, ↓heldE_nil, ↓heldE_cons, qNil_pt, qPick_bool, qGrd_bool, qGrd_undef, ↓letK_def, pBox_eq, pBin_add, pBin_sub, pBin_mul, pBin_eql, pBin_neq, pBin_lss, pBin_leq, pBin_gtr, pBin_geq, pUn_not, pUn_neg, eqB, neB, eqS, neS, pExtract0, pExtract1, pExtract2, max_int, min_int, sz_nw, sz_wr, sz_drew, mm_nw, fz_nw, mm_drew, fz_drew, fz_wr, sz_mkS, mm_mkS, fz_mkS, Fr.mkS, mm_wr_same, mm_wr_ne, wr_wr, bs_oneT, splice_full, gt_zero, gt_succ, gt_set, gt_bs, byte_eq0, byte_eq1, byte_n0, byte_n1, Fr.refl, Fr.nw, Fr.wr, Fr.drew, e5, e7]
  refine (same_spec (p11.fr0 hf12) (t11.r.fr0 hf12)).call ?_
  rintro _ w13 ⟨rfl, hf13⟩
  try simp (maxDischargeDepth := 8) [↓bindV_some, ↓bindU_some, ↓condE_true, ↓condE_false, ↓pickE_true, ↓pickE_false, ↓pickE_or, ↓pickE_and, ↓grdE_true, ↓grdE_false, ↓grdE_tf, ↓grdE_ft, ↓grdE_undef, ↓nilE_pt, ↓thenK_normal, ↓thenK_exit, ↓thenK_ret, ↓thenK_goto, ↓thenK_panic, ↓blockK_exit, ↓blockK_normal, ↓blockK_ret, ↓blockK_goto, ↓blockK_panic, ↓loopK_normal, ↓loopK_exit, ↓loopK_ret, ↓loopK_goto, ↓loopK_panic, ↓topK_ret, ↓topK_normal, ↓topK_panic, ↓resVs_nil, ↓resVs_tmp, ↓resVs_cell, tup_one, tup_nil, tup_two, put_get, argE_get, ↓takeE_def, ↓heldE_nil, ↓heldE_cons, qNil_pt, qPick_bool, qGrd_bool, qGrd_undef, ↓letK_def, pBox_eq, pBin_add, pBin_sub, pBin_mul, pBin_eql, pBin_neq, pBin_lss, pBin_leq, pBin_gtr, pBin_geq, pUn_not, pUn_neg, eqB, neB, eqS, neS, pExtract0, pExtract1, pExtract2, max_int, min_int, sz_nw, sz_wr, sz_drew, mm_nw, fz_nw, mm_drew, fz_drew, fz_wr, sz_mkS, mm_mkS, fz_mkS, Fr.mkS, mm_wr_same, mm_wr_ne, wr_wr, bs_oneT, splice_full, gt_zero, gt_succ, gt_set, gt_bs, byte_eq0, byte_eq1, byte_n0, byte_n1, Fr.refl, Fr.nw, Fr.wr, Fr.drew]
  exact (o11.fr.trans0 hf12).trans0 hf13
end Go.Proofs.Yticncfkpfpkfoaa
