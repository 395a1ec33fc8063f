/- The document's Scan (f51). -/
import Derived.Test.YticncfkpfpkfoaaRollW
import Derived.Test.YticncfkpfpkfoaaRollG
set_option linter.unusedVariables false
set_option linter.unusedSimpArgs false
namespace Go.Proofs.Yticncfkpfpkfoaa
open Go

theorem flat_drop {S : List (List UInt8)} : (∀ s ∈ S, s.length = 64) → ∀ k, (flat bs S).drop (k * 64) = flat bs (S.drop k) := by
  induction S with
  | nil => intro _ k; simp [flat]
  | cons s S ih =>
    intro h k
    cases k with
    | zero => simp
    | succ k =>
      have e : flat bs (s :: S) = bs s ++ flat bs S := by simp [flat]
      have hl : (bs s).length = 64 := by rw [bs_length]; exact h s List.mem_cons_self
      rw [e, show (k + 1) * 64 = (bs s).length + k * 64 by omega, List.drop_append, List.drop_eq_nil_of_le (by omega), List.nil_append, Nat.add_sub_cancel_left, ih (fun x hx => h x (List.mem_cons_of_mem _ hx))]
      rfl
theorem sl_from76 {w : World} {v : Value} {S : List (List UInt8)} {k : Nat} (h : RdV w v S.length (flat bs S)) (hS : ∀ s ∈ S, s.length = 64) (hk : k ≤ S.length) :
    ∃ T, (∀ w', pSlice P 76 v (some (i64 k)) none none w' = some (T, w')) ∧ RdV w T (S.drop k).length (flat bs (S.drop k)) := by
  rcases id h with ⟨a, c, rfl, h0, _⟩ | ⟨ab, ao, ac, rfl, hac, hmx, hlt, hin, hcs⟩
  · have hk0 : k = 0 := by omega
    subst hk0
    have hSn : S = [] := List.eq_nil_of_length_eq_zero h0
    subst hSn
    refine ⟨_, fun w' => pSlice_any (w := w') (a := a) (n := 0) (c := c) (lo := some (i64 (0 : Nat))) (hi := none) sliceE76 tyOk25 rfl rfl (by simp [bLo]) (by simp [bLo, bHi]) (by simp [bHi]) (by omega), ?_⟩
    exact .inl ⟨_, _, rfl, by simp, by simp [flat]⟩
  · refine ⟨_, fun w' => pSlice_any (w := w') (a := some ⟨ab, ao, none⟩) (n := S.length) (c := ac) (lo := some (i64 k)) (hi := none) sliceE76 tyOk25 rfl rfl (by simp [bLo]) (by simp [bLo, bHi]; omega) (by simp [bHi]; omega) hac, ?_⟩
    simp only [bLo, bHi, Int.toNat_natCast, cellsOf25, Option.map_some]
    by_cases h0 : S.length - k = 0
    · rw [h0]
      have : S.drop k = [] := List.drop_eq_nil_of_le (by omega)
      rw [this]
      exact .inl ⟨_, _, rfl, rfl, by simp [flat]⟩
    · rw [if_neg (by omega)]
      have hfl : (flat bs S).length = S.length * 64 := flat_length (n := 64) (fun s hs => by rw [bs_length]; exact hS s hs)
      have hfl2 : (flat bs (S.drop k)).length = (S.length - k) * 64 := by rw [flat_length (n := 64) (fun s hs => by rw [bs_length]; exact hS s (List.mem_of_mem_drop hs)), List.length_drop]
      have ha : (⟨ab, ao, none⟩ : Addr).add (k * 64) = ⟨ab, ao + k * 64, none⟩ := by
        by_cases hk0 : k = 0
        · subst hk0; simp [Addr.add]
        · simp [Addr.add]
          omega
      rw [ha, List.length_drop]
      have e1 : S.length * 64 = k * 64 + (S.length - k) * 64 := by rw [← Nat.add_mul]; congr 1; omega
      refine .inr ⟨ab, ao + k * 64, ac - k, rfl, by omega, by omega, hlt, by rw [hfl2]; rw [hfl] at hin; omega, ?_⟩
      rw [hfl2, ← flat_drop hS k, ← hcs, hfl, List.drop_take, List.drop_drop]
      congr 1
      omega
def RScanR (base : Nat) (S : List (List UInt8)) (x : Value) (w' : World) : Prop :=
  ∃ ov Lp, x = .tuple #[ov, i64 ((scanM S).2 : Int)] ∧ EntR base w' ov Lp ∧ Lp.map (·.1) = (scanM S).1
def RScI (w : World) (v : Value) (S : List (List UInt8)) (m : Nat) (e : Env) (w' : World) : Prop :=
  ∃ (at_ : Nat) (Lp : List (List UInt8 × Value)) (ov : Value), at_ ≤ S.length ∧ (S.drop at_).length ≤ m ∧ Lp.length ≤ at_ ∧ Fr [] w w' ∧
    scanM S = (Lp.map (·.1) ++ (scanGo m (S.drop at_) at_).1, (scanGo m (S.drop at_) at_).2) ∧ EntR (sz w) w' ov Lp ∧ e 0 = v ∧ e 4 = ov ∧ e 5 = i64 at_
theorem refScan_spec {w : World} {v : Value} {S : List (List UInt8)} (h : RdV w v S.length (flat bs S)) (hS : ∀ s ∈ S, s.length = 64) (hl : S.length ≤ 4096) :
    Ret P 51 #[v] w fun x w' => Fr [] w w' ∧ RScanR (sz w) S x w' := by
  refine F51ok ?_
  unfold F51
  obtain ⟨va, vc, hv⟩ := sl_of h
  have hlv : ∀ w, pBuiltin P .len #[76] 3 [v] w = some (i64 S.length, w) := fun w => by rw [hv]; exact len76
  have b0 : ∀ w, pBuildSlice P 67 0 [] w = some (sl (sz w) 0 0 0, nw w [] 22) := fun w => by rw [bsl67 (by omega) (by simp)]; simp
  try simp (maxDischargeDepth := 8) [↓bindV_some, ↓bindU_some, ↓condE_true, ↓condE_false, ↓pickE_true, ↓pickE_false, ↓pickE_or, ↓pickE_and, ↓grdE_true, ↓grdE_false, ↓grdE_tf, ↓grdE_ft, ↓grdE_undef, ↓nilE_pt, ↓thenK_normal, ↓thenK_exit, ↓thenK_ret, ↓thenK_goto, ↓thenK_panic, ↓blockK_exit, ↓blockK_normal, ↓blockK_ret, ↓blockK_goto, ↓blockK_panic, ↓loopK_normal, ↓loopK_exit, ↓loopK_ret, ↓loopK_goto, ↓loopK_panic, ↓topK_ret, ↓topK_normal, ↓topK_panic, ↓resVs_nil, ↓resVs_tmp, ↓resVs_cell, tup_one, tup_nil, tup_two, put_get, argE_get, ↓takeE_def, ↓heldE_nil, ↓heldE_cons, qNil_pt, qPick_bool, qGrd_bool, qGrd_undef, ↓letK_def, pBox_eq, pBin_add, pBin_sub, pBin_mul, pBin_eql, pBin_neq, pBin_lss, pBin_leq, pBin_gtr, pBin_geq, pUn_not, pUn_neg, eqB, neB, eqS, neS, pExtract0, pExtract1, pExtract2, max_int, min_int, sz_nw, sz_wr, sz_drew, mm_nw, fz_nw, mm_drew, fz_drew, fz_wr, sz_mkS, mm_mkS, fz_mkS, Fr.mkS, mm_wr_same, mm_wr_ne, wr_wr, bs_oneT, splice_full, gt_zero, gt_succ, gt_set, gt_bs, byte_eq0, byte_eq1, byte_n0, byte_n1, Fr.refl, Fr.nw, Fr.wr, Fr.drew, b0, -bsl67]
  have f0 : Fr [] w (nw w [] 22) := (Fr.refl [] w).nw _ _
  have hE0 : EntR (sz w) (nw w [] 22) (sl (sz w) 0 0 0) [] := ⟨own_nw (Nat.le_refl _) rfl (by unfold maxLen; omega), by simp, by simp⟩
  refine loopE_of (RScI w v S) S.length ⟨0, [], sl (sz w) 0 0 0, by omega, by simp, by simp, f0, by unfold scanM; simp, hE0, by simp [put_get, argE_get], by simp [put_get], by simp [put_get]⟩ ?_
  rintro m e w1 ⟨at_, Lp, ov, hat, hdl, hLa, hf, hsc, hE, e0, e4, e5⟩
  unfold F51B0
  by_cases hlt : at_ < S.length
  · have t1 : (at_ < S.length) = True := eq_true hlt
    have t2 : ((at_ : Int) < S.length) = True := eq_true (by omega)
    obtain ⟨T, hT, hTr⟩ := sl_from76 (h.fr0 hf) hS hat
    try simp (maxDischargeDepth := 8) [↓bindV_some, ↓bindU_some, ↓condE_true, ↓condE_false, ↓pickE_true, ↓pickE_false, ↓pickE_or, ↓pickE_and, ↓grdE_true, ↓grdE_false, ↓grdE_tf, ↓grdE_ft, ↓grdE_undef, ↓nilE_pt, ↓thenK_normal, ↓thenK_exit, ↓thenK_ret, ↓thenK_goto, ↓thenK_panic, ↓blockK_exit, ↓blockK_normal, ↓blockK_ret, ↓blockK_goto, ↓blockK_panic, ↓loopK_normal, ↓loopK_exit, ↓loopK_ret, ↓loopK_goto, ↓loopK_panic, ↓topK_ret, ↓topK_normal, ↓topK_panic, ↓resVs_nil, ↓resVs_tmp, ↓resVs_cell, tup_one, tup_nil, tup_two, put_get, argE_get, ↓takeE_def, ↓heldE_nil, ↓heldE_cons, qNil_pt, qPick_bool, qGrd_bool, qGrd_undef, ↓letK_def, pBox_eq, pBin_add, pBin_sub, pBin_mul, pBin_eql, pBin_neq, pBin_lss, pBin_leq, pBin_gtr, pBin_geq, pUn_not, pUn_neg, eqB, neB, eqS, neS, pExtract0, pExtract1, pExtract2, max_int, min_int, sz_nw, sz_wr, sz_drew, mm_nw, fz_nw, mm_drew, fz_drew, fz_wr, sz_mkS, mm_mkS, fz_mkS, Fr.mkS, mm_wr_same, mm_wr_ne, wr_wr, bs_oneT, splice_full, gt_zero, gt_succ, gt_set, gt_bs, byte_eq0, byte_eq1, byte_n0, byte_n1, Fr.refl, Fr.nw, Fr.wr, Fr.drew, letK_def, e0, e4, e5, hlv, t1, t2, hT]
    refine (refOne_spec hTr (fun s hs => hS s (List.mem_of_mem_drop hs)) (by rw [List.length_drop]; omega)).call ?_
    rintro _ w2 ⟨hR, f2⟩
    rcases hR with ⟨hno, rfl⟩ | ⟨bb, n, bv', hso, rfl, hbo⟩
    · rw [scanGo_none hno, List.append_nil] at hsc
      try simp (maxDischargeDepth := 8) [↓bindV_some, ↓bindU_some, ↓condE_true, ↓condE_false, ↓pickE_true, ↓pickE_false, ↓pickE_or, ↓pickE_and, ↓grdE_true, ↓grdE_false, ↓grdE_tf, ↓grdE_ft, ↓grdE_undef, ↓nilE_pt, ↓thenK_normal, ↓thenK_exit, ↓thenK_ret, ↓thenK_goto, ↓thenK_panic, ↓blockK_exit, ↓blockK_normal, ↓blockK_ret, ↓blockK_goto, ↓blockK_panic, ↓loopK_normal, ↓loopK_exit, ↓loopK_ret, ↓loopK_goto, ↓loopK_panic, ↓topK_ret, ↓topK_normal, ↓topK_panic, ↓resVs_nil, ↓resVs_tmp, ↓resVs_cell, tup_one, tup_nil, tup_two, put_get, argE_get, ↓takeE_def, ↓heldE_nil, ↓heldE_cons, qNil_pt, qPick_bool, qGrd_bool, qGrd_undef, ↓letK_def, pBox_eq, pBin_add, pBin_sub, pBin_mul, pBin_eql, pBin_neq, pBin_lss, pBin_leq, pBin_gtr, pBin_geq, pUn_not, pUn_neg, eqB, neB, eqS, neS, pExtract0, pExtract1, pExtract2, max_int, min_int, sz_nw, sz_wr, sz_drew, mm_nw, fz_nw, mm_drew, fz_drew, fz_wr, sz_mkS, mm_mkS, fz_mkS, Fr.mkS, mm_wr_same, mm_wr_ne, wr_wr, bs_oneT, splice_full, gt_zero, gt_succ, gt_set, gt_bs, byte_eq0, byte_eq1, byte_n0, byte_n1, Fr.refl, Fr.nw, Fr.wr, Fr.drew, e4, e5]
      exact ⟨hf.trans0 f2, ov, Lp, by rw [hsc], hE.fr f2 (by simp), by rw [hsc]⟩
    · obtain ⟨n0, n1⟩ := oneGo_pos _ 0 0 [] _ _ hso
      rw [Nat.zero_add, List.length_drop] at n1
      obtain ⟨m', rfl, hm'1, hm'2⟩ := scanGo_some (at_ := at_) hso hdl
      rw [hm'2] at hsc
      rw [List.drop_drop] at hsc hm'1
      have hE2 := hE.fr f2 (by simp)
      obtain ⟨ba, bc, hbv⟩ := own_val hbo
      have hsz := f2.size
      have hge := hf.size
      obtain ⟨x', w3, hrun, hE3, f3, hx3⟩ := hE2.snoc (v := bv') (b := bb) (by omega) (by omega) (by rw [hbv]; rfl) (own_rd hbo) (fun k hk => by
        obtain ⟨k1, k2⟩ := own_lt hbo k hk
        refine ⟨by omega, k2, fun hxk => ?_⟩
        have := (own_lt hE.own k hxk).2
        omega)
      have hb6 : ∀ w, pBuildSlice P 67 1 [(0, bv')] w = some (sl (sz w) 0 1 1, nw w [bv'] 22) := fun w => by rw [hbv]; exact b67
      have hn0 : ((n : Int) = 0) = False := eq_false (by omega)
      have hn0' : (n = 0) = False := eq_false (by omega)
      have hwa : IntKind.i64.wrap ((at_ : Int) + n) = ((at_ + n : Nat) : Int) := wrap64 (by omega) (by omega)
      try simp (maxDischargeDepth := 8) [↓bindV_some, ↓bindU_some, ↓condE_true, ↓condE_false, ↓pickE_true, ↓pickE_false, ↓pickE_or, ↓pickE_and, ↓grdE_true, ↓grdE_false, ↓grdE_tf, ↓grdE_ft, ↓grdE_undef, ↓nilE_pt, ↓thenK_normal, ↓thenK_exit, ↓thenK_ret, ↓thenK_goto, ↓thenK_panic, ↓blockK_exit, ↓blockK_normal, ↓blockK_ret, ↓blockK_goto, ↓blockK_panic, ↓loopK_normal, ↓loopK_exit, ↓loopK_ret, ↓loopK_goto, ↓loopK_panic, ↓topK_ret, ↓topK_normal, ↓topK_panic, ↓resVs_nil, ↓resVs_tmp, ↓resVs_cell, tup_one, tup_nil, tup_two, put_get, argE_get, ↓takeE_def, ↓heldE_nil, ↓heldE_cons, qNil_pt, qPick_bool, qGrd_bool, qGrd_undef, ↓letK_def, pBox_eq, pBin_add, pBin_sub, pBin_mul, pBin_eql, pBin_neq, pBin_lss, pBin_leq, pBin_gtr, pBin_geq, pUn_not, pUn_neg, eqB, neB, eqS, neS, pExtract0, pExtract1, pExtract2, max_int, min_int, sz_nw, sz_wr, sz_drew, mm_nw, fz_nw, mm_drew, fz_drew, fz_wr, sz_mkS, mm_mkS, fz_mkS, Fr.mkS, mm_wr_same, mm_wr_ne, wr_wr, bs_oneT, splice_full, gt_zero, gt_succ, gt_set, gt_bs, byte_eq0, byte_eq1, byte_n0, byte_n1, Fr.refl, Fr.nw, Fr.wr, Fr.drew, e4, e5, hn0, hn0', hb6, hrun, hwa, -bsl67, -Int.natCast_add]
      refine ⟨m', by omega, at_ + n, Lp ++ [(bb, bv')], x', by omega, hm'1, by simp; omega, (hf.trans0 f2).trans f3 (fun k hk => .inr (own_lt hE.own k (by simpa using hk)).1), ?_, hE3, by simp [put_get, e0], by simp [put_get], by simp [put_get]⟩
      rw [hsc]; simp
  · have t1 : (at_ < S.length) = False := eq_false hlt
    have t2 : ((at_ : Int) < S.length) = False := eq_false (by omega)
    have hnil : S.drop at_ = [] := List.drop_eq_nil_of_le (by omega)
    rw [hnil, scanGo_none oneM_nil, List.append_nil] at hsc
    try simp (maxDischargeDepth := 8) [↓bindV_some, ↓bindU_some, ↓condE_true, ↓condE_false, ↓pickE_true, ↓pickE_false, ↓pickE_or, ↓pickE_and, ↓grdE_true, ↓grdE_false, ↓grdE_tf, ↓grdE_ft, ↓grdE_undef, ↓nilE_pt, ↓thenK_normal, ↓thenK_exit, ↓thenK_ret, ↓thenK_goto, ↓thenK_panic, ↓blockK_exit, ↓blockK_normal, ↓blockK_ret, ↓blockK_goto, ↓blockK_panic, ↓loopK_normal, ↓loopK_exit, ↓loopK_ret, ↓loopK_goto, ↓loopK_panic, ↓topK_ret, ↓topK_normal, ↓topK_panic, ↓resVs_nil, ↓resVs_tmp, ↓resVs_cell, tup_one, tup_nil, tup_two, put_get, argE_get, ↓takeE_def, ↓heldE_nil, ↓heldE_cons, qNil_pt, qPick_bool, qGrd_bool, qGrd_undef, ↓letK_def, pBox_eq, pBin_add, pBin_sub, pBin_mul, pBin_eql, pBin_neq, pBin_lss, pBin_leq, pBin_gtr, pBin_geq, pUn_not, pUn_neg, eqB, neB, eqS, neS, pExtract0, pExtract1, pExtract2, max_int, min_int, sz_nw, sz_wr, sz_drew, mm_nw, fz_nw, mm_drew, fz_drew, fz_wr, sz_mkS, mm_mkS, fz_mkS, Fr.mkS, mm_wr_same, mm_wr_ne, wr_wr, bs_oneT, splice_full, gt_zero, gt_succ, gt_set, gt_bs, byte_eq0, byte_eq1, byte_n0, byte_n1, Fr.refl, Fr.nw, Fr.wr, Fr.drew, e0, e4, e5, hlv, t1, t2]
    exact ⟨hf, ov, Lp, by rw [hsc], hE, by rw [hsc]⟩
end Go.Proofs.Yticncfkpfpkfoaa
