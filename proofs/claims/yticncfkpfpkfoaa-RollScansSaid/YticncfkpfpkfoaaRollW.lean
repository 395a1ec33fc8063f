/- The document's one (f74). -/
import Derived.Test.YticncfkpfpkfoaaRollV
import Derived.Test.YticncfkpfpkfoaaRollU
set_option linter.unusedVariables false
set_option linter.unusedSimpArgs false
namespace Go.Proofs.Yticncfkpfpkfoaa
open Go

def ROneR (base : Nat) (r : Option (List UInt8 × Nat)) (x : Value) (w' : World) : Prop :=
  (r = none ∧ x = .tuple #[.slice none 0 0, i64 0]) ∨ ∃ b n ov, r = some (b, n) ∧ x = .tuple #[ov, i64 n] ∧ w'.ownsRow base 5 1 ov b.length (bs b)
def O1I (w : World) (v : Value) (S : List (List UInt8)) (n : Nat) (m : Nat) (e : Env) (w' : World) : Prop :=
  ∃ (i : Nat) (ov : Value), m = n - i ∧ i ≤ n ∧ Fr [] w w' ∧ (catP (S.take i)).length ≤ 60 * i ∧ w'.ownsRow (sz w) 5 1 ov (catP (S.take i)).length (bs (catP (S.take i))) ∧ e 0 = v ∧ e 6 = i64 n ∧ e 7 = ov ∧ e 8 = i64 i
def O2I (w3 : World) (v kv : Value) (S T : List (List UInt8)) (n : Nat) (ov : Value) (m : Nat) (e : Env) (w' : World) : Prop :=
  ∃ i : Nat, m = n - i ∧ i ≤ n ∧ Fr [] w3 w' ∧ (∀ k, k < i → T[k]? = S[k]?) ∧ e 0 = v ∧ e 6 = i64 n ∧ e 7 = ov ∧ e 11 = kv ∧ e 12 = i64 i
theorem catP_take {S : List (List UInt8)} {i : Nat} {s : List UInt8} (h : S[i]? = some s) : catP (S.take (i + 1)) = catP (S.take i) ++ (pay s).drop 1 := by
  unfold catP
  rw [List.take_add_one, h]
  simp
theorem refOne_spec {w : World} {v : Value} {S : List (List UInt8)} (h : RdV w v S.length (flat bs S)) (hS : ∀ s ∈ S, s.length = 64) (hl : S.length ≤ 4096) :
    Ret P 74 #[v] w fun x w' => ROneR (sz w) (oneM S) x w' ∧ Fr [] w w' := by
  refine F74ok ?_
  unfold F74
  obtain ⟨va, vc, hv⟩ := sl_of h
  have hlv : ∀ w, pBuiltin P .len #[76] 3 [v] w = some (i64 S.length, w) := fun w => by rw [hv]; exact len76
  by_cases h0 : S.length = 0
  · have c1 : ((S.length : Int) = 0) = True := eq_true (by omega)
    have c2 : (S.length = 0) = True := eq_true h0
    have hSn : S = [] := List.eq_nil_of_length_eq_zero h0
    have c3 : (S = []) = True := eq_true hSn
    try simp (maxDischargeDepth := 8) [↓bindV_some, ↓bindU_some, ↓condE_true, ↓condE_false, ↓pickE_true, ↓pickE_false, ↓pickE_or, ↓pickE_and, ↓grdE_true, ↓grdE_false, ↓grdE_tf, ↓grdE_ft, ↓grdE_undef, ↓nilE_pt, ↓thenK_normal, ↓thenK_exit, ↓thenK_ret, ↓thenK_goto, ↓thenK_panic, ↓blockK_exit, ↓blockK_normal, ↓blockK_ret, ↓blockK_goto, ↓blockK_panic, ↓loopK_normal, ↓loopK_exit, ↓loopK_ret, ↓loopK_goto, ↓loopK_panic, ↓topK_ret, ↓topK_normal, ↓topK_panic, ↓resVs_nil, ↓resVs_tmp, ↓resVs_cell, tup_one, tup_nil, tup_two, put_get, argE_get, ↓takeE_def, ↓heldE_nil, ↓heldE_cons, qNil_pt, qPick_bool, qGrd_bool, qGrd_undef, ↓letK_def, pBox_eq, pBin_add, pBin_sub, pBin_mul, pBin_eql, pBin_neq, pBin_lss, pBin_leq, pBin_gtr, pBin_geq, pUn_not, pUn_neg, eqB, neB, eqS, neS, pExtract0, pExtract1, pExtract2, max_int, min_int, sz_nw, sz_wr, sz_drew, mm_nw, fz_nw, mm_drew, fz_drew, fz_wr, sz_mkS, mm_mkS, fz_mkS, Fr.mkS, mm_wr_same, mm_wr_ne, wr_wr, bs_oneT, splice_full, gt_zero, gt_succ, gt_set, gt_bs, byte_eq0, byte_eq1, byte_n0, byte_n1, Fr.refl, Fr.nw, Fr.wr, Fr.drew, hlv, c1, c2, c3]
    exact .inl ⟨by rw [hSn]; rfl, rfl⟩
  have c1 : ((S.length : Int) = 0) = False := eq_false (by omega)
  have c2 : (S.length = 0) = False := eq_false h0
  have c3 : (S = []) = False := eq_false (fun hh => h0 (by rw [hh]; rfl))
  -- a sector of the row
  have sec_at : ∀ {w1 : World} {i : Nat} {s : List UInt8}, Fr [] w w1 → S[i]? = some s → ∃ sb so, (∀ w', pIndexAddr P 76 v (i64 i) w' = some (pt sb (so + i * 64), w')) ∧ pLoad P 25 (pt sb (so + i * 64)) w1 = some (sec s, w1) := by
    intro w1 i s hf hs
    have hi := (List.getElem?_eq_some_iff.1 hs).1
    obtain ⟨sb, so, sc, hsv2, hsb, hin, htk⟩ := flat_at (n := 64) (h.fr0 hf) (fun p hp => by rw [bs_length]; exact hS p hp) (by omega) hs
    refine ⟨sb, so, fun w' => ?_, by rw [ld25 hin, htk]⟩
    rw [hsv2]
    have := ia76 (w := w') (b := sb) (o := so) (n := S.length) (c := sc) (k := .i64) (j := (i : Int)) (by omega) (by omega)
    rw [this]; simp
  obtain ⟨s0, hs0⟩ : ∃ s, S[0]? = some s := ⟨_, List.getElem?_eq_getElem (by omega)⟩
  have hs064 := hS s0 (List.mem_of_getElem? hs0)
  obtain ⟨sb, so, hia, hld⟩ := sec_at (Fr.refl [] w) hs0
  have hia : ∀ w', pIndexAddr P 76 v (Value.int .i64 0) w' = some (pt sb (so + 0 * 64), w') := hia
  rw [Nat.zero_mul, Nat.add_zero] at hia hld
  try simp (maxDischargeDepth := 8) [↓bindV_some, ↓bindU_some, ↓condE_true, ↓condE_false, ↓pickE_true, ↓pickE_false, ↓pickE_or, ↓pickE_and, ↓grdE_true, ↓grdE_false, ↓grdE_tf, ↓grdE_ft, ↓grdE_undef, ↓nilE_pt, ↓thenK_normal, ↓thenK_exit, ↓thenK_ret, ↓thenK_goto, ↓thenK_panic, ↓blockK_exit, ↓blockK_normal, ↓blockK_ret, ↓blockK_goto, ↓blockK_panic, ↓loopK_normal, ↓loopK_exit, ↓loopK_ret, ↓loopK_goto, ↓loopK_panic, ↓topK_ret, ↓topK_normal, ↓topK_panic, ↓resVs_nil, ↓resVs_tmp, ↓resVs_cell, tup_one, tup_nil, tup_two, put_get, argE_get, ↓takeE_def, ↓heldE_nil, ↓heldE_cons, qNil_pt, qPick_bool, qGrd_bool, qGrd_undef, ↓letK_def, pBox_eq, pBin_add, pBin_sub, pBin_mul, pBin_eql, pBin_neq, pBin_lss, pBin_leq, pBin_gtr, pBin_geq, pUn_not, pUn_neg, eqB, neB, eqS, neS, pExtract0, pExtract1, pExtract2, max_int, min_int, sz_nw, sz_wr, sz_drew, mm_nw, fz_nw, mm_drew, fz_drew, fz_wr, sz_mkS, mm_mkS, fz_mkS, Fr.mkS, mm_wr_same, mm_wr_ne, wr_wr, bs_oneT, splice_full, gt_zero, gt_succ, gt_set, gt_bs, byte_eq0, byte_eq1, byte_n0, byte_n1, Fr.refl, Fr.nw, Fr.wr, Fr.drew, hlv, c1, c2, c3, hia, hld, -ld25]
  refine (refOpen_spec hs064).call ?_
  rintro _ w1 ⟨f1, x, rfl, hx1, hx2⟩
  have no : (¬ ∃ b k, oneM S = some (b, k)) → oneM S = none := fun hh => by
    cases ho : oneM S with
    | none => rfl
    | some p => exact absurd ⟨p.1, p.2, ho⟩ hh
  by_cases hw : isWhole s0
  · have hxr := hx1 hw
    have hxp := pay_length hs064 hw.2.2.1
    have hp61 := hw.2.2.1
    rw [← hxp] at hp61
    obtain ⟨xa, xc, hxv⟩ := sl_of hxr
    have hlx : ∀ w, pBuiltin P .len #[22] 3 [x] w = some (i64 (pay s0).length, w) := fun w => by rw [hxv]; exact len22
    by_cases hp1 : 1 ≤ (pay s0).length
    · have p1 : (((pay s0).length : Int) < 1) = False := eq_false (by omega)
      have p2 : ((pay s0).length < 1) = False := eq_false (by omega)
      have p3 : ((pay s0).length = 0) = False := eq_false (by omega)
      have p4 : (pay s0 = []) = False := eq_false (by intro h; rw [h] at hp1; simp at hp1)
      obtain ⟨ab, ao, ac, hxv2, q1, q2⟩ := rd_cell hxr (i := 0) hp1
      have hia2 : ∀ w', pIndexAddr P 22 x (Value.int .i64 0) w' = some (pt ab ao, w') := fun w' => by
        rw [hxv2]
        have := ia22 (w := w') (b := ab) (o := ao) (n := (pay s0).length) (c := ac) (k := .i64) (j := 0) (by omega) (by omega)
        rw [this]; simp
      rw [Nat.add_zero] at q1 q2
      have hl5 : ∀ {w'}, Fr [] w1 w' → pLoad P 5 (pt ab ao) w' = some (bv (gb (pay s0) 0), w') := fun {w'} hf => by
        have hlt : ab < sz w1 := by
          rcases id hxr with ⟨_, _, _, h1, _⟩ | ⟨b1, o1, c1, h1, _, _, h2, _⟩
          · omega
          · rw [hxv2] at h1
            simp only [Value.slice.injEq, Option.some.injEq, Addr.mk.injEq] at h1
            omega
        rw [ld5 (by rw [hf.mm hlt (by simp)]; exact q1), hf.mm hlt (by simp), q2]
      have hlb := (gb (pay s0) 0).toNat_lt
      obtain ⟨lf, hlf⟩ : ∃ lf, lf = leftOf s0 := ⟨_, rfl⟩
      have hlfb : lf = (gb (pay s0) 0).toNat := hlf
      have hcv : ∀ w, pConv P 5 3 (bv (gb (pay s0) 0)) w = some (i64 lf, w) := fun w => by
        have hwx : IntKind.i64.wrap ((gb (pay s0) 0).toNat : Int) = ((gb (pay s0) 0).toNat : Int) := wrap64 (by omega) (by omega)
        rw [hlfb]
        try simp (maxDischargeDepth := 8) [↓bindV_some, ↓bindU_some, ↓condE_true, ↓condE_false, ↓pickE_true, ↓pickE_false, ↓pickE_or, ↓pickE_and, ↓grdE_true, ↓grdE_false, ↓grdE_tf, ↓grdE_ft, ↓grdE_undef, ↓nilE_pt, ↓thenK_normal, ↓thenK_exit, ↓thenK_ret, ↓thenK_goto, ↓thenK_panic, ↓blockK_exit, ↓blockK_normal, ↓blockK_ret, ↓blockK_goto, ↓blockK_panic, ↓loopK_normal, ↓loopK_exit, ↓loopK_ret, ↓loopK_goto, ↓loopK_panic, ↓topK_ret, ↓topK_normal, ↓topK_panic, ↓resVs_nil, ↓resVs_tmp, ↓resVs_cell, tup_one, tup_nil, tup_two, put_get, argE_get, ↓takeE_def, ↓heldE_nil, ↓heldE_cons, qNil_pt, qPick_bool, qGrd_bool, qGrd_undef, ↓letK_def, pBox_eq, pBin_add, pBin_sub, pBin_mul, pBin_eql, pBin_neq, pBin_lss, pBin_leq, pBin_gtr, pBin_geq, pUn_not, pUn_neg, eqB, neB, eqS, neS, pExtract0, pExtract1, pExtract2, max_int, min_int, sz_nw, sz_wr, sz_drew, mm_nw, fz_nw, mm_drew, fz_drew, fz_wr, sz_mkS, mm_mkS, fz_mkS, Fr.mkS, mm_wr_same, mm_wr_ne, wr_wr, bs_oneT, splice_full, gt_zero, gt_succ, gt_set, gt_bs, byte_eq0, byte_eq1, byte_n0, byte_n1, Fr.refl, Fr.nw, Fr.wr, Fr.drew, bv, hwx]
      have hgt : ∀ w, pBin P .gtr 5 true (bv (gb (pay s0) 0)) (Value.int .u8 63) w = some (.bool (decide (63 < lf)), w) := fun w => by
        rw [hlfb]
        try simp (maxDischargeDepth := 8) [↓bindV_some, ↓bindU_some, ↓condE_true, ↓condE_false, ↓pickE_true, ↓pickE_false, ↓pickE_or, ↓pickE_and, ↓grdE_true, ↓grdE_false, ↓grdE_tf, ↓grdE_ft, ↓grdE_undef, ↓nilE_pt, ↓thenK_normal, ↓thenK_exit, ↓thenK_ret, ↓thenK_goto, ↓thenK_panic, ↓blockK_exit, ↓blockK_normal, ↓blockK_ret, ↓blockK_goto, ↓blockK_panic, ↓loopK_normal, ↓loopK_exit, ↓loopK_ret, ↓loopK_goto, ↓loopK_panic, ↓topK_ret, ↓topK_normal, ↓topK_panic, ↓resVs_nil, ↓resVs_tmp, ↓resVs_cell, tup_one, tup_nil, tup_two, put_get, argE_get, ↓takeE_def, ↓heldE_nil, ↓heldE_cons, qNil_pt, qPick_bool, qGrd_bool, qGrd_undef, ↓letK_def, pBox_eq, pBin_add, pBin_sub, pBin_mul, pBin_eql, pBin_neq, pBin_lss, pBin_leq, pBin_gtr, pBin_geq, pUn_not, pUn_neg, eqB, neB, eqS, neS, pExtract0, pExtract1, pExtract2, max_int, min_int, sz_nw, sz_wr, sz_drew, mm_nw, fz_nw, mm_drew, fz_drew, fz_wr, sz_mkS, mm_mkS, fz_mkS, Fr.mkS, mm_wr_same, mm_wr_ne, wr_wr, bs_oneT, splice_full, gt_zero, gt_succ, gt_set, gt_bs, byte_eq0, byte_eq1, byte_n0, byte_n1, Fr.refl, Fr.nw, Fr.wr, Fr.drew, bv]
        try omega
      have hl1 := hl5 (Fr.refl [] w1)
      clear hl5
      generalize hbyte : bv (gb (pay s0) 0) = byte at *
      have known : ∀ b k, oneM S = some (b, k) → k = lf + 1 ∧ k ≤ 64 ∧ k ≤ S.length ∧ k = need b.length ∧ S.take k = sectorsM b ∧ catP (S.take k) = b ∧ ∀ i s, i < k → S[i]? = some s → isWhole s ∧ 1 ≤ (pay s).length := fun b k ho => by
        obtain ⟨o1, o2, o3, o4, o5, o6⟩ := one_says hS ho
        have hk0 : 0 < k := by have := need_pos b.length; omega
        have := (o5 0 s0 hk0 hs0).2.2
        have := need_le o3
        refine ⟨by omega, by omega, o4, o2, o1, o6, fun i s hi hs => ?_⟩
        obtain ⟨a1, a2, _⟩ := o5 i s hi hs
        exact ⟨a1, a2⟩
      by_cases h63 : 63 < lf
      · have d1 : (63 < lf) = True := eq_true h63
        try simp (maxDischargeDepth := 8) [↓bindV_some, ↓bindU_some, ↓condE_true, ↓condE_false, ↓pickE_true, ↓pickE_false, ↓pickE_or, ↓pickE_and, ↓grdE_true, ↓grdE_false, ↓grdE_tf, ↓grdE_ft, ↓grdE_undef, ↓nilE_pt, ↓thenK_normal, ↓thenK_exit, ↓thenK_ret, ↓thenK_goto, ↓thenK_panic, ↓blockK_exit, ↓blockK_normal, ↓blockK_ret, ↓blockK_goto, ↓blockK_panic, ↓loopK_normal, ↓loopK_exit, ↓loopK_ret, ↓loopK_goto, ↓loopK_panic, ↓topK_ret, ↓topK_normal, ↓topK_panic, ↓resVs_nil, ↓resVs_tmp, ↓resVs_cell, tup_one, tup_nil, tup_two, put_get, argE_get, ↓takeE_def, ↓heldE_nil, ↓heldE_cons, qNil_pt, qPick_bool, qGrd_bool, qGrd_undef, ↓letK_def, pBox_eq, pBin_add, pBin_sub, pBin_mul, pBin_eql, pBin_neq, pBin_lss, pBin_leq, pBin_gtr, pBin_geq, pUn_not, pUn_neg, eqB, neB, eqS, neS, pExtract0, pExtract1, pExtract2, max_int, min_int, sz_nw, sz_wr, sz_drew, mm_nw, fz_nw, mm_drew, fz_drew, fz_wr, sz_mkS, mm_mkS, fz_mkS, Fr.mkS, mm_wr_same, mm_wr_ne, wr_wr, bs_oneT, splice_full, gt_zero, gt_succ, gt_set, gt_bs, byte_eq0, byte_eq1, byte_n0, byte_n1, Fr.refl, Fr.nw, Fr.wr, Fr.drew, hw, hlx, p1, p2, p3, p4, hia2, hl1, hgt, d1, -ld5]
        exact ⟨.inl ⟨no (fun ⟨b, k, ho⟩ => by have := known b k ho; omega), rfl⟩, f1⟩
      have d1 : (63 < lf) = False := eq_false h63
      obtain ⟨n, hn⟩ : ∃ n, n = lf + 1 := ⟨_, rfl⟩
      have hw1 : IntKind.i64.wrap ((lf : Int) + 1) = (n : Int) := by rw [wrap64 (by omega) (by omega)]; omega
      by_cases hnl : S.length < n
      · have d2 : ((S.length : Int) < n) = True := eq_true (by omega)
        have d3 : (S.length < n) = True := eq_true hnl
        try simp (maxDischargeDepth := 8) [↓bindV_some, ↓bindU_some, ↓condE_true, ↓condE_false, ↓pickE_true, ↓pickE_false, ↓pickE_or, ↓pickE_and, ↓grdE_true, ↓grdE_false, ↓grdE_tf, ↓grdE_ft, ↓grdE_undef, ↓nilE_pt, ↓thenK_normal, ↓thenK_exit, ↓thenK_ret, ↓thenK_goto, ↓thenK_panic, ↓blockK_exit, ↓blockK_normal, ↓blockK_ret, ↓blockK_goto, ↓blockK_panic, ↓loopK_normal, ↓loopK_exit, ↓loopK_ret, ↓loopK_goto, ↓loopK_panic, ↓topK_ret, ↓topK_normal, ↓topK_panic, ↓resVs_nil, ↓resVs_tmp, ↓resVs_cell, tup_one, tup_nil, tup_two, put_get, argE_get, ↓takeE_def, ↓heldE_nil, ↓heldE_cons, qNil_pt, qPick_bool, qGrd_bool, qGrd_undef, ↓letK_def, pBox_eq, pBin_add, pBin_sub, pBin_mul, pBin_eql, pBin_neq, pBin_lss, pBin_leq, pBin_gtr, pBin_geq, pUn_not, pUn_neg, eqB, neB, eqS, neS, pExtract0, pExtract1, pExtract2, max_int, min_int, sz_nw, sz_wr, sz_drew, mm_nw, fz_nw, mm_drew, fz_drew, fz_wr, sz_mkS, mm_mkS, fz_mkS, Fr.mkS, mm_wr_same, mm_wr_ne, wr_wr, bs_oneT, splice_full, gt_zero, gt_succ, gt_set, gt_bs, byte_eq0, byte_eq1, byte_n0, byte_n1, Fr.refl, Fr.nw, Fr.wr, Fr.drew, hw, hlx, p1, p2, p3, p4, hia2, hl1, hgt, d1, hcv, hw1, hlv, d2, d3, -ld5]
        exact ⟨.inl ⟨no (fun ⟨b, k, ho⟩ => by have := known b k ho; omega), rfl⟩, f1⟩
      have d2 : ((S.length : Int) < n) = False := eq_false (by omega)
      have d3 : (S.length < n) = False := eq_false hnl
      have b0 : ∀ w, pBuildSlice P 22 0 [] w = some (sl (sz w) 0 0 0, nw w [] 5) := fun w => by rw [bsl22 (by omega) (by simp)]; simp
      try simp (maxDischargeDepth := 8) [↓bindV_some, ↓bindU_some, ↓condE_true, ↓condE_false, ↓pickE_true, ↓pickE_false, ↓pickE_or, ↓pickE_and, ↓grdE_true, ↓grdE_false, ↓grdE_tf, ↓grdE_ft, ↓grdE_undef, ↓nilE_pt, ↓thenK_normal, ↓thenK_exit, ↓thenK_ret, ↓thenK_goto, ↓thenK_panic, ↓blockK_exit, ↓blockK_normal, ↓blockK_ret, ↓blockK_goto, ↓blockK_panic, ↓loopK_normal, ↓loopK_exit, ↓loopK_ret, ↓loopK_goto, ↓loopK_panic, ↓topK_ret, ↓topK_normal, ↓topK_panic, ↓resVs_nil, ↓resVs_tmp, ↓resVs_cell, tup_one, tup_nil, tup_two, put_get, argE_get, ↓takeE_def, ↓heldE_nil, ↓heldE_cons, qNil_pt, qPick_bool, qGrd_bool, qGrd_undef, ↓letK_def, pBox_eq, pBin_add, pBin_sub, pBin_mul, pBin_eql, pBin_neq, pBin_lss, pBin_leq, pBin_gtr, pBin_geq, pUn_not, pUn_neg, eqB, neB, eqS, neS, pExtract0, pExtract1, pExtract2, max_int, min_int, sz_nw, sz_wr, sz_drew, mm_nw, fz_nw, mm_drew, fz_drew, fz_wr, sz_mkS, mm_mkS, fz_mkS, Fr.mkS, mm_wr_same, mm_wr_ne, wr_wr, bs_oneT, splice_full, gt_zero, gt_succ, gt_set, gt_bs, byte_eq0, byte_eq1, byte_n0, byte_n1, Fr.refl, Fr.nw, Fr.wr, Fr.drew, hw, hlx, p1, p2, p3, p4, hia2, hl1, hgt, d1, hcv, hw1, hlv, d2, d3, b0, -ld5, -bsl22]
      have f2 : Fr [] w1 (nw w1 [] 5) := (Fr.refl [] w1).nw _ _
      have hown0 : (nw w1 [] 5).ownsRow (sz w) 5 1 (sl (sz w1) 0 0 0) 0 (bs []) := own_nw f1.size rfl (by unfold maxLen; omega)
      refine loopE_of (O1I w v S n) n ⟨0, sl (sz w1) 0 0 0, rfl, by omega, f1.trans0 f2, by simp [catP], by simpa [catP] using hown0, by simp [put_get, argE_get], by simp [put_get], by simp [put_get], by simp [put_get]⟩ ?_
      rintro m e w2 ⟨i, ov, hm, hi, hf, hcl, hown, e0, e6, e7, e8⟩
      subst hm
      unfold F74B0
      by_cases hin : i < n
      · have t1 : (i < n) = True := eq_true hin
        have t2 : ((i : Int) < n) = True := eq_true (by omega)
        obtain ⟨s, hs⟩ : ∃ s, S[i]? = some s := ⟨_, List.getElem?_eq_getElem (by omega)⟩
        have hs64 := hS s (List.mem_of_getElem? hs)
        obtain ⟨qb, qo, hib, hlb2⟩ := sec_at hf hs
        try simp (maxDischargeDepth := 8) [↓bindV_some, ↓bindU_some, ↓condE_true, ↓condE_false, ↓pickE_true, ↓pickE_false, ↓pickE_or, ↓pickE_and, ↓grdE_true, ↓grdE_false, ↓grdE_tf, ↓grdE_ft, ↓grdE_undef, ↓nilE_pt, ↓thenK_normal, ↓thenK_exit, ↓thenK_ret, ↓thenK_goto, ↓thenK_panic, ↓blockK_exit, ↓blockK_normal, ↓blockK_ret, ↓blockK_goto, ↓blockK_panic, ↓loopK_normal, ↓loopK_exit, ↓loopK_ret, ↓loopK_goto, ↓loopK_panic, ↓topK_ret, ↓topK_normal, ↓topK_panic, ↓resVs_nil, ↓resVs_tmp, ↓resVs_cell, tup_one, tup_nil, tup_two, put_get, argE_get, ↓takeE_def, ↓heldE_nil, ↓heldE_cons, qNil_pt, qPick_bool, qGrd_bool, qGrd_undef, ↓letK_def, pBox_eq, pBin_add, pBin_sub, pBin_mul, pBin_eql, pBin_neq, pBin_lss, pBin_leq, pBin_gtr, pBin_geq, pUn_not, pUn_neg, eqB, neB, eqS, neS, pExtract0, pExtract1, pExtract2, max_int, min_int, sz_nw, sz_wr, sz_drew, mm_nw, fz_nw, mm_drew, fz_drew, fz_wr, sz_mkS, mm_mkS, fz_mkS, Fr.mkS, mm_wr_same, mm_wr_ne, wr_wr, bs_oneT, splice_full, gt_zero, gt_succ, gt_set, gt_bs, byte_eq0, byte_eq1, byte_n0, byte_n1, Fr.refl, Fr.nw, Fr.wr, Fr.drew, letK_def, e0, e6, e8, t1, t2, hib, hlb2, -ld25]
        refine (refOpen_spec hs64).call ?_
        rintro _ w3 ⟨f3, y, rfl, hy1, hy2⟩
        have g3 := hf.trans0 f3
        by_cases hws : isWhole s
        · have hyr := hy1 hws
          have hyp := pay_length hs64 hws.2.2.1
          have hy61 := hws.2.2.1
          rw [← hyp] at hy61
          obtain ⟨ya, yc, hyv⟩ := sl_of hyr
          have hly : ∀ w, pBuiltin P .len #[22] 3 [y] w = some (i64 (pay s).length, w) := fun w => by rw [hyv]; exact len22
          by_cases hps : 1 ≤ (pay s).length
          · have u1 : (((pay s).length : Int) < 1) = False := eq_false (by omega)
            have u2 : ((pay s).length < 1) = False := eq_false (by omega)
            have u3 : ((pay s).length = 0) = False := eq_false (by omega)
            have u4 : (pay s = []) = False := eq_false (by intro h; rw [h] at hps; simp at hps)
            obtain ⟨T, hT, hTr, _⟩ := sl_from (t := 22) (lo := 1) sliceE22 hyr hps
            have hT : ∀ w', pSlice P 22 y (some (Value.int .i64 1)) none none w' = some (T, w') := hT
            have hdl : ((pay s).drop 1).length ≤ 60 := by rw [List.length_drop]; omega
            obtain ⟨ov', w4, hrun, hown4, hg4, _⟩ := append_own2 (P := P) (t := 22) (ty := 22) (sz w) sliceE22 hasZero5 cellsOf5 (by rw [zeroL5]; rfl) (by omega) (own_fr hown f3 (by simp)) (by have := g3.size; omega) hTr (by simp) bs_one
              (by unfold maxLen; omega) (by rw [bytesOf5]; omega)
            have hwi : IntKind.i64.wrap ((i : Int) + 1) = ((i + 1 : Nat) : Int) := wrap64 (by omega) (by omega)
            try simp (maxDischargeDepth := 8) [↓bindV_some, ↓bindU_some, ↓condE_true, ↓condE_false, ↓pickE_true, ↓pickE_false, ↓pickE_or, ↓pickE_and, ↓grdE_true, ↓grdE_false, ↓grdE_tf, ↓grdE_ft, ↓grdE_undef, ↓nilE_pt, ↓thenK_normal, ↓thenK_exit, ↓thenK_ret, ↓thenK_goto, ↓thenK_panic, ↓blockK_exit, ↓blockK_normal, ↓blockK_ret, ↓blockK_goto, ↓blockK_panic, ↓loopK_normal, ↓loopK_exit, ↓loopK_ret, ↓loopK_goto, ↓loopK_panic, ↓topK_ret, ↓topK_normal, ↓topK_panic, ↓resVs_nil, ↓resVs_tmp, ↓resVs_cell, tup_one, tup_nil, tup_two, put_get, argE_get, ↓takeE_def, ↓heldE_nil, ↓heldE_cons, qNil_pt, qPick_bool, qGrd_bool, qGrd_undef, ↓letK_def, pBox_eq, pBin_add, pBin_sub, pBin_mul, pBin_eql, pBin_neq, pBin_lss, pBin_leq, pBin_gtr, pBin_geq, pUn_not, pUn_neg, eqB, neB, eqS, neS, pExtract0, pExtract1, pExtract2, max_int, min_int, sz_nw, sz_wr, sz_drew, mm_nw, fz_nw, mm_drew, fz_drew, fz_wr, sz_mkS, mm_mkS, fz_mkS, Fr.mkS, mm_wr_same, mm_wr_ne, wr_wr, bs_oneT, splice_full, gt_zero, gt_succ, gt_set, gt_bs, byte_eq0, byte_eq1, byte_n0, byte_n1, Fr.refl, Fr.nw, Fr.wr, Fr.drew, hws, hly, u1, u2, u3, u4, hT, e7, e8, hrun, hwi, -Int.natCast_add]
            refine ⟨n - (i + 1), by omega, i + 1, ov', rfl, by omega, g3.trans (Fr.of_grown hg4) (fun k hk => .inr (own_lt hown k (by simpa using hk)).1), ?_, ?_, by simp [put_get, e0], by simp [put_get, e6], by simp [put_get], by simp [put_get]⟩
            · rw [catP_take hs, List.length_append]; omega
            · rw [catP_take hs, List.length_append, bs_append]; exact hown4
          · have u1 : (((pay s).length : Int) < 1) = True := eq_true (by omega)
            have u2 : ((pay s).length < 1) = True := eq_true (by omega)
            try simp (maxDischargeDepth := 8) [↓bindV_some, ↓bindU_some, ↓condE_true, ↓condE_false, ↓pickE_true, ↓pickE_false, ↓pickE_or, ↓pickE_and, ↓grdE_true, ↓grdE_false, ↓grdE_tf, ↓grdE_ft, ↓grdE_undef, ↓nilE_pt, ↓thenK_normal, ↓thenK_exit, ↓thenK_ret, ↓thenK_goto, ↓thenK_panic, ↓blockK_exit, ↓blockK_normal, ↓blockK_ret, ↓blockK_goto, ↓blockK_panic, ↓loopK_normal, ↓loopK_exit, ↓loopK_ret, ↓loopK_goto, ↓loopK_panic, ↓topK_ret, ↓topK_normal, ↓topK_panic, ↓resVs_nil, ↓resVs_tmp, ↓resVs_cell, tup_one, tup_nil, tup_two, put_get, argE_get, ↓takeE_def, ↓heldE_nil, ↓heldE_cons, qNil_pt, qPick_bool, qGrd_bool, qGrd_undef, ↓letK_def, pBox_eq, pBin_add, pBin_sub, pBin_mul, pBin_eql, pBin_neq, pBin_lss, pBin_leq, pBin_gtr, pBin_geq, pUn_not, pUn_neg, eqB, neB, eqS, neS, pExtract0, pExtract1, pExtract2, max_int, min_int, sz_nw, sz_wr, sz_drew, mm_nw, fz_nw, mm_drew, fz_drew, fz_wr, sz_mkS, mm_mkS, fz_mkS, Fr.mkS, mm_wr_same, mm_wr_ne, wr_wr, bs_oneT, splice_full, gt_zero, gt_succ, gt_set, gt_bs, byte_eq0, byte_eq1, byte_n0, byte_n1, Fr.refl, Fr.nw, Fr.wr, Fr.drew, hws, hly, u1, u2]
            exact ⟨.inl ⟨no (fun ⟨b, k, ho⟩ => by
              obtain ⟨a1, _, _, _, _, _, a7⟩ := known b k ho
              exact hps (a7 i s (by omega) hs).2), rfl⟩, g3⟩
        · have hy := hy2 hws
          subst hy
          try simp (maxDischargeDepth := 8) [↓bindV_some, ↓bindU_some, ↓condE_true, ↓condE_false, ↓pickE_true, ↓pickE_false, ↓pickE_or, ↓pickE_and, ↓grdE_true, ↓grdE_false, ↓grdE_tf, ↓grdE_ft, ↓grdE_undef, ↓nilE_pt, ↓thenK_normal, ↓thenK_exit, ↓thenK_ret, ↓thenK_goto, ↓thenK_panic, ↓blockK_exit, ↓blockK_normal, ↓blockK_ret, ↓blockK_goto, ↓blockK_panic, ↓loopK_normal, ↓loopK_exit, ↓loopK_ret, ↓loopK_goto, ↓loopK_panic, ↓topK_ret, ↓topK_normal, ↓topK_panic, ↓resVs_nil, ↓resVs_tmp, ↓resVs_cell, tup_one, tup_nil, tup_two, put_get, argE_get, ↓takeE_def, ↓heldE_nil, ↓heldE_cons, qNil_pt, qPick_bool, qGrd_bool, qGrd_undef, ↓letK_def, pBox_eq, pBin_add, pBin_sub, pBin_mul, pBin_eql, pBin_neq, pBin_lss, pBin_leq, pBin_gtr, pBin_geq, pUn_not, pUn_neg, eqB, neB, eqS, neS, pExtract0, pExtract1, pExtract2, max_int, min_int, sz_nw, sz_wr, sz_drew, mm_nw, fz_nw, mm_drew, fz_drew, fz_wr, sz_mkS, mm_mkS, fz_mkS, Fr.mkS, mm_wr_same, mm_wr_ne, wr_wr, bs_oneT, splice_full, gt_zero, gt_succ, gt_set, gt_bs, byte_eq0, byte_eq1, byte_n0, byte_n1, Fr.refl, Fr.nw, Fr.wr, Fr.drew, hws]
          exact ⟨.inl ⟨no (fun ⟨b, k, ho⟩ => by
            obtain ⟨a1, _, _, _, _, _, a7⟩ := known b k ho
            exact hws (a7 i s (by omega) hs).1), rfl⟩, g3⟩
      · have t1 : (i < n) = False := eq_false hin
        have t2 : ((i : Int) < n) = False := eq_false (by omega)
        have hie : i = n := by omega
        subst hie
        obtain ⟨out, hout⟩ : ∃ out, out = catP (S.take i) := ⟨_, rfl⟩
        rw [← hout] at hown hcl
        try simp (maxDischargeDepth := 8) [↓bindV_some, ↓bindU_some, ↓condE_true, ↓condE_false, ↓pickE_true, ↓pickE_false, ↓pickE_or, ↓pickE_and, ↓grdE_true, ↓grdE_false, ↓grdE_tf, ↓grdE_ft, ↓grdE_undef, ↓nilE_pt, ↓thenK_normal, ↓thenK_exit, ↓thenK_ret, ↓thenK_goto, ↓thenK_panic, ↓blockK_exit, ↓blockK_normal, ↓blockK_ret, ↓blockK_goto, ↓blockK_panic, ↓loopK_normal, ↓loopK_exit, ↓loopK_ret, ↓loopK_goto, ↓loopK_panic, ↓topK_ret, ↓topK_normal, ↓topK_panic, ↓resVs_nil, ↓resVs_tmp, ↓resVs_cell, tup_one, tup_nil, tup_two, put_get, argE_get, ↓takeE_def, ↓heldE_nil, ↓heldE_cons, qNil_pt, qPick_bool, qGrd_bool, qGrd_undef, ↓letK_def, pBox_eq, pBin_add, pBin_sub, pBin_mul, pBin_eql, pBin_neq, pBin_lss, pBin_leq, pBin_gtr, pBin_geq, pUn_not, pUn_neg, eqB, neB, eqS, neS, pExtract0, pExtract1, pExtract2, max_int, min_int, sz_nw, sz_wr, sz_drew, mm_nw, fz_nw, mm_drew, fz_drew, fz_wr, sz_mkS, mm_mkS, fz_mkS, Fr.mkS, mm_wr_same, mm_wr_ne, wr_wr, bs_oneT, splice_full, gt_zero, gt_succ, gt_set, gt_bs, byte_eq0, byte_eq1, byte_n0, byte_n1, Fr.refl, Fr.nw, Fr.wr, Fr.drew, e6, e7, e8, t1, t2]
        refine (sectors_spec (own_rd hown) (by omega)).call ?_
        rintro kv w3 ⟨hkv, f3⟩
        have g3 := hf.trans0 f3
        obtain ⟨ka, kc, hkvv⟩ := own_val hkv
        have hlk : ∀ w, pBuiltin P .len #[76] 3 [kv] w = some (i64 (need out.length), w) := fun w => by rw [hkvv]; exact len76
        have hown3 := own_fr hown f3 (by simp)
        by_cases hne : need out.length = i
        · have u1 : (((need out.length : Nat) : Int) = (i : Int)) = True := eq_true (by omega)
          have u2 : (need out.length = i) = True := eq_true hne
          try simp (maxDischargeDepth := 8) [↓bindV_some, ↓bindU_some, ↓condE_true, ↓condE_false, ↓pickE_true, ↓pickE_false, ↓pickE_or, ↓pickE_and, ↓grdE_true, ↓grdE_false, ↓grdE_tf, ↓grdE_ft, ↓grdE_undef, ↓nilE_pt, ↓thenK_normal, ↓thenK_exit, ↓thenK_ret, ↓thenK_goto, ↓thenK_panic, ↓blockK_exit, ↓blockK_normal, ↓blockK_ret, ↓blockK_goto, ↓blockK_panic, ↓loopK_normal, ↓loopK_exit, ↓loopK_ret, ↓loopK_goto, ↓loopK_panic, ↓topK_ret, ↓topK_normal, ↓topK_panic, ↓resVs_nil, ↓resVs_tmp, ↓resVs_cell, tup_one, tup_nil, tup_two, put_get, argE_get, ↓takeE_def, ↓heldE_nil, ↓heldE_cons, qNil_pt, qPick_bool, qGrd_bool, qGrd_undef, ↓letK_def, pBox_eq, pBin_add, pBin_sub, pBin_mul, pBin_eql, pBin_neq, pBin_lss, pBin_leq, pBin_gtr, pBin_geq, pUn_not, pUn_neg, eqB, neB, eqS, neS, pExtract0, pExtract1, pExtract2, max_int, min_int, sz_nw, sz_wr, sz_drew, mm_nw, fz_nw, mm_drew, fz_drew, fz_wr, sz_mkS, mm_mkS, fz_mkS, Fr.mkS, mm_wr_same, mm_wr_ne, wr_wr, bs_oneT, splice_full, gt_zero, gt_succ, gt_set, gt_bs, byte_eq0, byte_eq1, byte_n0, byte_n1, Fr.refl, Fr.nw, Fr.wr, Fr.drew, hlk, e6, u1, u2]
          have hkr := own_rd hkv
          rw [← sectorsM_len out] at hkr
          have hK64 : ∀ s ∈ sectorsM out, s.length = 64 := fun s hs => by
            obtain ⟨i, _, rfl⟩ := List.mem_map.1 hs
            exact sealOf_length (partS_len _ _ _)
          have hkl : (sectorsM out).length = i := by rw [sectorsM_len, hne]
          have ksec : ∀ {w1 : World} {j : Nat} {s : List UInt8}, Fr [] w3 w1 → (sectorsM out)[j]? = some s → ∃ sb so, (∀ w', pIndexAddr P 76 kv (i64 j) w' = some (pt sb (so + j * 64), w')) ∧ pLoad P 25 (pt sb (so + j * 64)) w1 = some (sec s, w1) := by
            intro w1 j s hf hs
            have hi := (List.getElem?_eq_some_iff.1 hs).1
            obtain ⟨sb, so, sc, hsv2, hsb, hin, htk⟩ := flat_at (n := 64) (hkr.fr0 hf) (fun p hp => by rw [bs_length]; exact hK64 p hp) (by omega) hs
            refine ⟨sb, so, fun w' => ?_, by rw [ld25 hin, htk]⟩
            rw [hsv2]
            have := ia76 (w := w') (b := sb) (o := so) (n := (sectorsM out).length) (c := sc) (k := .i64) (j := (j : Int)) (by omega) (by omega)
            rw [this]; simp
          refine loopE_of (O2I w3 v kv S (sectorsM out) i ov) i ⟨0, rfl, by omega, Fr.refl _ _, by intro k hk; omega, by simp [put_get, e0], by simp [put_get, e6], by simp [put_get, e7], by simp [put_get], by simp [put_get]⟩ ?_
          clear e0 e6 e7 e8
          rintro m e w4 ⟨j, hm, hj, hf4, heq, e0, e6, e7, e11, e12⟩
          subst hm
          unfold F74B1
          by_cases hjn : j < i
          · have t1 : (j < i) = True := eq_true hjn
            have t2 : ((j : Int) < i) = True := eq_true (by omega)
            obtain ⟨s, hs⟩ : ∃ s, S[j]? = some s := ⟨_, List.getElem?_eq_getElem (by omega)⟩
            obtain ⟨t, ht⟩ : ∃ t, (sectorsM out)[j]? = some t := ⟨_, List.getElem?_eq_getElem (by omega)⟩
            have hs64 := hS s (List.mem_of_getElem? hs)
            have ht64 := hK64 t (List.mem_of_getElem? ht)
            have hfd := hf4.drew
            obtain ⟨qb, qo, hib, hlb2⟩ := sec_at (g3.trans0 hfd) hs
            obtain ⟨rb, ro, hic, hlc⟩ := ksec hfd ht
            have hnes : ∀ w, pBin P .neq 25 false (sec t) (sec s) w = some (.bool (decide (t ≠ s)), w) := fun w => nes25 ht64 hs64
            have hwj : IntKind.i64.wrap ((j : Int) + 1) = ((j + 1 : Nat) : Int) := wrap64 (by omega) (by omega)
            by_cases hts : t = s
            · have d1 : decide (t ≠ s) = false := by simpa using hts
              rw [d1] at hnes
              try simp (maxDischargeDepth := 8) [↓bindV_some, ↓bindU_some, ↓condE_true, ↓condE_false, ↓pickE_true, ↓pickE_false, ↓pickE_or, ↓pickE_and, ↓grdE_true, ↓grdE_false, ↓grdE_tf, ↓grdE_ft, ↓grdE_undef, ↓nilE_pt, ↓thenK_normal, ↓thenK_exit, ↓thenK_ret, ↓thenK_goto, ↓thenK_panic, ↓blockK_exit, ↓blockK_normal, ↓blockK_ret, ↓blockK_goto, ↓blockK_panic, ↓loopK_normal, ↓loopK_exit, ↓loopK_ret, ↓loopK_goto, ↓loopK_panic, ↓topK_ret, ↓topK_normal, ↓topK_panic, ↓resVs_nil, ↓resVs_tmp, ↓resVs_cell, tup_one, tup_nil, tup_two, put_get, argE_get, ↓takeE_def, ↓heldE_nil, ↓heldE_cons, qNil_pt, qPick_bool, qGrd_bool, qGrd_undef, ↓letK_def, pBox_eq, pBin_add, pBin_sub, pBin_mul, pBin_eql, pBin_neq, pBin_lss, pBin_leq, pBin_gtr, pBin_geq, pUn_not, pUn_neg, eqB, neB, eqS, neS, pExtract0, pExtract1, pExtract2, max_int, min_int, sz_nw, sz_wr, sz_drew, mm_nw, fz_nw, mm_drew, fz_drew, fz_wr, sz_mkS, mm_mkS, fz_mkS, Fr.mkS, mm_wr_same, mm_wr_ne, wr_wr, bs_oneT, splice_full, gt_zero, gt_succ, gt_set, gt_bs, byte_eq0, byte_eq1, byte_n0, byte_n1, Fr.refl, Fr.nw, Fr.wr, Fr.drew, e0, e6, e11, e12, t1, t2, hib, hic, hlb2, hlc, hnes, hwj, -ld25, -nes25, -Int.natCast_add]
              refine ⟨i - (j + 1), by omega, j + 1, rfl, by omega, hfd, fun k hk => ?_, by simp [put_get, e0], by simp [put_get, e6], by simp [put_get, e7], by simp [put_get, e11], by simp [put_get]⟩
              by_cases hkj : k < j
              · exact heq k hkj
              · have : k = j := by omega
                subst this
                rw [ht, hs, hts]
            · have d1 : decide (t ≠ s) = true := by simpa using hts
              rw [d1] at hnes
              try simp (maxDischargeDepth := 8) [↓bindV_some, ↓bindU_some, ↓condE_true, ↓condE_false, ↓pickE_true, ↓pickE_false, ↓pickE_or, ↓pickE_and, ↓grdE_true, ↓grdE_false, ↓grdE_tf, ↓grdE_ft, ↓grdE_undef, ↓nilE_pt, ↓thenK_normal, ↓thenK_exit, ↓thenK_ret, ↓thenK_goto, ↓thenK_panic, ↓blockK_exit, ↓blockK_normal, ↓blockK_ret, ↓blockK_goto, ↓blockK_panic, ↓loopK_normal, ↓loopK_exit, ↓loopK_ret, ↓loopK_goto, ↓loopK_panic, ↓topK_ret, ↓topK_normal, ↓topK_panic, ↓resVs_nil, ↓resVs_tmp, ↓resVs_cell, tup_one, tup_nil, tup_two, put_get, argE_get, ↓takeE_def, ↓heldE_nil, ↓heldE_cons, qNil_pt, qPick_bool, qGrd_bool, qGrd_undef, ↓letK_def, pBox_eq, pBin_add, pBin_sub, pBin_mul, pBin_eql, pBin_neq, pBin_lss, pBin_leq, pBin_gtr, pBin_geq, pUn_not, pUn_neg, eqB, neB, eqS, neS, pExtract0, pExtract1, pExtract2, max_int, min_int, sz_nw, sz_wr, sz_drew, mm_nw, fz_nw, mm_drew, fz_drew, fz_wr, sz_mkS, mm_mkS, fz_mkS, Fr.mkS, mm_wr_same, mm_wr_ne, wr_wr, bs_oneT, splice_full, gt_zero, gt_succ, gt_set, gt_bs, byte_eq0, byte_eq1, byte_n0, byte_n1, Fr.refl, Fr.nw, Fr.wr, Fr.drew, e0, e6, e11, e12, t1, t2, hib, hic, hlb2, hlc, hnes, -ld25, -nes25]
              exact ⟨.inl ⟨no (fun ⟨b, k, ho⟩ => by
                obtain ⟨a1, _, _, a4, a5, a6, _⟩ := known b k ho
                have hki : k = i := by omega
                rw [hki] at a5 a6
                rw [hout, a6, ← a5, List.getElem?_take, if_pos hjn, hs] at ht
                exact hts (by simpa using ht.symm)), rfl⟩, g3.trans0 hfd⟩
          · have t1 : (j < i) = False := eq_false hjn
            have t2 : ((j : Int) < i) = False := eq_false (by omega)
            have hje : j = i := by omega
            subst hje
            have hso : S.take j = sectorsM out := by
              apply List.ext_getElem?
              intro k
              rw [List.getElem?_take]
              by_cases hk : k < j
              · rw [if_pos hk, heq k hk]
              · rw [if_neg hk, List.getElem?_eq_none (by omega)]
            have ho : oneM S = some (out, j) := by
              have := oneM_back (b := out) (by omega) (S.drop j)
              rw [← hso, List.take_append_drop, hne] at this
              exact this
            try simp (maxDischargeDepth := 8) [↓bindV_some, ↓bindU_some, ↓condE_true, ↓condE_false, ↓pickE_true, ↓pickE_false, ↓pickE_or, ↓pickE_and, ↓grdE_true, ↓grdE_false, ↓grdE_tf, ↓grdE_ft, ↓grdE_undef, ↓nilE_pt, ↓thenK_normal, ↓thenK_exit, ↓thenK_ret, ↓thenK_goto, ↓thenK_panic, ↓blockK_exit, ↓blockK_normal, ↓blockK_ret, ↓blockK_goto, ↓blockK_panic, ↓loopK_normal, ↓loopK_exit, ↓loopK_ret, ↓loopK_goto, ↓loopK_panic, ↓topK_ret, ↓topK_normal, ↓topK_panic, ↓resVs_nil, ↓resVs_tmp, ↓resVs_cell, tup_one, tup_nil, tup_two, put_get, argE_get, ↓takeE_def, ↓heldE_nil, ↓heldE_cons, qNil_pt, qPick_bool, qGrd_bool, qGrd_undef, ↓letK_def, pBox_eq, pBin_add, pBin_sub, pBin_mul, pBin_eql, pBin_neq, pBin_lss, pBin_leq, pBin_gtr, pBin_geq, pUn_not, pUn_neg, eqB, neB, eqS, neS, pExtract0, pExtract1, pExtract2, max_int, min_int, sz_nw, sz_wr, sz_drew, mm_nw, fz_nw, mm_drew, fz_drew, fz_wr, sz_mkS, mm_mkS, fz_mkS, Fr.mkS, mm_wr_same, mm_wr_ne, wr_wr, bs_oneT, splice_full, gt_zero, gt_succ, gt_set, gt_bs, byte_eq0, byte_eq1, byte_n0, byte_n1, Fr.refl, Fr.nw, Fr.wr, Fr.drew, e6, e7, e12, t1, t2]
            exact ⟨.inr ⟨out, j, ov, ho, rfl, own_fr hown3 hf4 (by simp)⟩, g3.trans0 hf4⟩
        · have u1 : (((need out.length : Nat) : Int) = (i : Int)) = False := eq_false (by omega)
          have u2 : (need out.length = i) = False := eq_false hne
          try simp (maxDischargeDepth := 8) [↓bindV_some, ↓bindU_some, ↓condE_true, ↓condE_false, ↓pickE_true, ↓pickE_false, ↓pickE_or, ↓pickE_and, ↓grdE_true, ↓grdE_false, ↓grdE_tf, ↓grdE_ft, ↓grdE_undef, ↓nilE_pt, ↓thenK_normal, ↓thenK_exit, ↓thenK_ret, ↓thenK_goto, ↓thenK_panic, ↓blockK_exit, ↓blockK_normal, ↓blockK_ret, ↓blockK_goto, ↓blockK_panic, ↓loopK_normal, ↓loopK_exit, ↓loopK_ret, ↓loopK_goto, ↓loopK_panic, ↓topK_ret, ↓topK_normal, ↓topK_panic, ↓resVs_nil, ↓resVs_tmp, ↓resVs_cell, tup_one, tup_nil, tup_two, put_get, argE_get, ↓takeE_def, ↓heldE_nil, ↓heldE_cons, qNil_pt, qPick_bool, qGrd_bool, qGrd_undef, ↓letK_def, pBox_eq, pBin_add, pBin_sub, pBin_mul, pBin_eql, pBin_neq, pBin_lss, pBin_leq, pBin_gtr, pBin_geq, pUn_not, pUn_neg, eqB, neB, eqS, neS, pExtract0, pExtract1, pExtract2, max_int, min_int, sz_nw, sz_wr, sz_drew, mm_nw, fz_nw, mm_drew, fz_drew, fz_wr, sz_mkS, mm_mkS, fz_mkS, Fr.mkS, mm_wr_same, mm_wr_ne, wr_wr, bs_oneT, splice_full, gt_zero, gt_succ, gt_set, gt_bs, byte_eq0, byte_eq1, byte_n0, byte_n1, Fr.refl, Fr.nw, Fr.wr, Fr.drew, hlk, e6, u1, u2]
          exact ⟨.inl ⟨no (fun ⟨b, k, ho⟩ => by
            obtain ⟨a1, _, _, a4, _, a6, _⟩ := known b k ho
            have hki : k = i := by omega
            rw [hki] at a6 a4
            rw [hout, a6] at hne
            exact hne a4.symm), rfl⟩, g3⟩
    · have p1 : (((pay s0).length : Int) < 1) = True := eq_true (by omega)
      have p2 : ((pay s0).length < 1) = True := eq_true (by omega)
      try simp (maxDischargeDepth := 8) [↓bindV_some, ↓bindU_some, ↓condE_true, ↓condE_false, ↓pickE_true, ↓pickE_false, ↓pickE_or, ↓pickE_and, ↓grdE_true, ↓grdE_false, ↓grdE_tf, ↓grdE_ft, ↓grdE_undef, ↓nilE_pt, ↓thenK_normal, ↓thenK_exit, ↓thenK_ret, ↓thenK_goto, ↓thenK_panic, ↓blockK_exit, ↓blockK_normal, ↓blockK_ret, ↓blockK_goto, ↓blockK_panic, ↓loopK_normal, ↓loopK_exit, ↓loopK_ret, ↓loopK_goto, ↓loopK_panic, ↓topK_ret, ↓topK_normal, ↓topK_panic, ↓resVs_nil, ↓resVs_tmp, ↓resVs_cell, tup_one, tup_nil, tup_two, put_get, argE_get, ↓takeE_def, ↓heldE_nil, ↓heldE_cons, qNil_pt, qPick_bool, qGrd_bool, qGrd_undef, ↓letK_def, pBox_eq, pBin_add, pBin_sub, pBin_mul, pBin_eql, pBin_neq, pBin_lss, pBin_leq, pBin_gtr, pBin_geq, pUn_not, pUn_neg, eqB, neB, eqS, neS, pExtract0, pExtract1, pExtract2, max_int, min_int, sz_nw, sz_wr, sz_drew, mm_nw, fz_nw, mm_drew, fz_drew, fz_wr, sz_mkS, mm_mkS, fz_mkS, Fr.mkS, mm_wr_same, mm_wr_ne, wr_wr, bs_oneT, splice_full, gt_zero, gt_succ, gt_set, gt_bs, byte_eq0, byte_eq1, byte_n0, byte_n1, Fr.refl, Fr.nw, Fr.wr, Fr.drew, hw, hlx, p1, p2]
      refine ⟨.inl ⟨no (fun ⟨b, k, ho⟩ => ?_), rfl⟩, f1⟩
      obtain ⟨o1, o2, o3, o4, o5, o6⟩ := one_says hS ho
      exact hp1 (o5 0 s0 (by have := need_pos b.length; omega) hs0).2.1
  · have hx := hx2 hw
    subst hx
    try simp (maxDischargeDepth := 8) [↓bindV_some, ↓bindU_some, ↓condE_true, ↓condE_false, ↓pickE_true, ↓pickE_false, ↓pickE_or, ↓pickE_and, ↓grdE_true, ↓grdE_false, ↓grdE_tf, ↓grdE_ft, ↓grdE_undef, ↓nilE_pt, ↓thenK_normal, ↓thenK_exit, ↓thenK_ret, ↓thenK_goto, ↓thenK_panic, ↓blockK_exit, ↓blockK_normal, ↓blockK_ret, ↓blockK_goto, ↓blockK_panic, ↓loopK_normal, ↓loopK_exit, ↓loopK_ret, ↓loopK_goto, ↓loopK_panic, ↓topK_ret, ↓topK_normal, ↓topK_panic, ↓resVs_nil, ↓resVs_tmp, ↓resVs_cell, tup_one, tup_nil, tup_two, put_get, argE_get, ↓takeE_def, ↓heldE_nil, ↓heldE_cons, qNil_pt, qPick_bool, qGrd_bool, qGrd_undef, ↓letK_def, pBox_eq, pBin_add, pBin_sub, pBin_mul, pBin_eql, pBin_neq, pBin_lss, pBin_leq, pBin_gtr, pBin_geq, pUn_not, pUn_neg, eqB, neB, eqS, neS, pExtract0, pExtract1, pExtract2, max_int, min_int, sz_nw, sz_wr, sz_drew, mm_nw, fz_nw, mm_drew, fz_drew, fz_wr, sz_mkS, mm_mkS, fz_mkS, Fr.mkS, mm_wr_same, mm_wr_ne, wr_wr, bs_oneT, splice_full, gt_zero, gt_succ, gt_set, gt_bs, byte_eq0, byte_eq1, byte_n0, byte_n1, Fr.refl, Fr.nw, Fr.wr, Fr.drew, hw]
    refine ⟨.inl ⟨no (fun ⟨b, k, ho⟩ => ?_), rfl⟩, f1⟩
    obtain ⟨o1, o2, o3, o4, o5, o6⟩ := one_says hS ho
    exact hw (o5 0 s0 (by have := need_pos b.length; omega) hs0).1
end Go.Proofs.Yticncfkpfpkfoaa
