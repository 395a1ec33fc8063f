/- The document's Write and Read, further. -/
import Derived.Test.YtfmcplkijjndlaaPackF3
set_option linter.unusedVariables false
set_option linter.unusedSimpArgs false
namespace Go.Proofs.Ytfmcplkijjndlaa
open Go

theorem pSlice_any {t e : TypeId} {a : Option Addr} {n c : Nat} {lo hi : Option Value} (hs : sliceE P t = some e) (he : tyOk P e = true) (hlo : isB lo = true) (hhi : isB hi = true)
    (h0 : 0 ≤ bLo lo) (h1 : bLo lo ≤ bHi n hi) (h2 : bHi n hi ≤ c) (hnc : n ≤ c) (w : World) :
    pSlice P t (.slice a n c) lo hi none w = some (.slice (if c = (bLo lo).toNat then a else a.map (·.add ((bLo lo).toNat * P.cellsOf e))) ((bHi n hi).toNat - (bLo lo).toNat) (c - (bLo lo).toNat), w) := by
  have hu := sliceE_und hs
  simp only [pSlice, runV, Instr.sliceAt, Sem.run_bind, run_underlying hu, Result.andThen_ok, Instr.slice, run_bounds hlo hhi h0 h1 h2 hnc, run_size he, Sem.run_pure]
theorem sl_lo {w : World} {v : Value} {B : List UInt8} {k : Nat} (h : RdV w v B.length (bs B)) (hk : k ≤ B.length) :
    ∃ S, (∀ w', pSlice P 40 v (some (i64 k)) none none w' = some (S, w')) ∧ RdV w S (B.drop k).length (bs (B.drop k)) := by
  have hl : (B.drop k).length = B.length - k := by simp
  rcases id h with ⟨a, c, rfl, h0, _⟩ | ⟨ab, ao, ac, rfl, hac, _⟩
  · have hk0 : k = 0 := by omega
    subst hk0
    have hB : B = [] := List.eq_nil_of_length_eq_zero h0
    subst hB
    refine ⟨_, fun w' => pSlice_any (w := w') (a := a) (n := 0) (c := c) (lo := some (i64 (0 : Nat))) (hi := none) sliceE40 tyOk5 rfl rfl (by simp [bLo]) (by simp [bLo, bHi]) (by simp [bHi]) (by omega), ?_⟩
    exact .inl ⟨_, _, rfl, by simp, by simp [bs]⟩
  · have hsub := rd_sub h rfl (lo := k) (hi := B.length) hk (Nat.le_refl _)
    have e1 : (B.drop k).take (B.length - k) = B.drop k := List.take_of_length_le (by omega)
    rw [e1] at hsub
    refine ⟨_, fun w' => ?_, hsub⟩
    rw [slL40 (by omega) (by omega) hac]
    simp

def IsRefs (w : World) (v : Value) (L : List PartR) : Prop := RdV w v L.length (flat refC L) ∧ ∀ p ∈ L, okR p
theorem IsRefs.fr0 {w w' : World} {v : Value} {L : List PartR} (h : IsRefs w v L) (hf : Fr [] w w') : IsRefs w' v L := ⟨h.1.fr0 hf, h.2⟩
theorem refC_len : ∀ (L : List PartR), ∀ p ∈ L, (refC p).length = 6 := fun _ _ _ => rfl
theorem refC_one {p : PartR} : ∀ v ∈ refC p, v.oneCell' = true := by
  have := refC_oneT p
  simpa using this
def encRs (L : List PartR) : List UInt8 := (L.map encR).flatten
theorem encRs_take {L : List PartR} {j : Nat} {p : PartR} (h : L[j]? = some p) : encRs (L.take (j + 1)) = encRs (L.take j) ++ encR p := by
  rw [List.take_add_one, h]; simp [encRs]
theorem encRs_take_le (L : List PartR) (j : Nat) : (encRs (L.take j)).length ≤ (encRs L).length := by
  have : encRs L = encRs (L.take j) ++ encRs (L.drop j) := by
    unfold encRs
    rw [← List.flatten_append, ← List.map_append, List.take_append_drop]
  rw [this, List.length_append]; omega
theorem rd_max {w : World} {v : Value} {n : Nat} {cs : List Value} (h : RdV w v n cs) : n ≤ 9223372036854775807 := h.len

def FwI (w : World) (v : Value) (L : List PartR) (m : Nat) (e : Env) (w' : World) : Prop :=
  ∃ (j : Nat) (ov : Value), m = L.length - j ∧ j ≤ L.length ∧ w'.ownsRow (sz w) 5 1 ov (encRs (L.take j)).length (bs (encRs (L.take j))) ∧ Fr [] w w' ∧ e 0 = v ∧ e 3 = ov ∧ e 4 = i64 j
theorem fwrite_spec {w : World} {v : Value} {L : List PartR} (h : IsRefs w v L) (hl : (encRs L).length ≤ 1000000000) : Ret P 43 #[v] w fun x w' => NewB w x (encRs L) w' := by
  refine F43ok ?_
  unfold F43
  obtain ⟨va, vc, hv⟩ := sl_of h.1
  have hmx := rd_max h.1
  have b2 : ∀ w, pBuildSlice P 40 0 [] w = some (sl (sz w) 0 0 0, nw w [] 5) := fun w => by rw [bsl40 (by omega) (by simp)]; simp
  try simp (maxDischargeDepth := 8) [↓bindV_some, ↓bindU_some, ↓condE_true, ↓condE_false, ↓pickE_true, ↓pickE_false, ↓pickE_or, ↓pickE_and, ↓grdE_true, ↓grdE_false, ↓grdE_tf, ↓grdE_ft, ↓grdE_undef, ↓nilE_pt, ↓thenK_normal, ↓thenK_exit, ↓thenK_ret, ↓thenK_goto, ↓thenK_panic, ↓blockK_exit, ↓blockK_normal, ↓blockK_ret, ↓blockK_goto, ↓blockK_panic, ↓loopK_normal, ↓loopK_exit, ↓loopK_ret, ↓loopK_goto, ↓loopK_panic, ↓topK_ret, ↓topK_normal, ↓topK_panic, ↓resVs_nil, ↓resVs_tmp, ↓resVs_cell, tup_one, tup_nil, tup_two, put_get, argE_get, ↓takeE_def, ↓heldE_nil, ↓heldE_cons, qNil_pt, qPick_bool, qGrd_bool, qGrd_undef, ↓letK_def, pBox_eq, pBin_add, pBin_sub, pBin_mul, pBin_eql, pBin_neq, pBin_lss, pBin_leq, pBin_gtr, pBin_geq, pUn_not, pUn_neg, eqB, neB, eqS, neS, pExtract0, pExtract1, pExtract2, max_int, min_int, sz_nw, sz_wr, sz_drew, mm_nw, fz_nw, mm_drew, fz_drew, fz_wr, sz_mkS, mm_mkS, fz_mkS, Fr.mkS, mm_wr_same, mm_wr_ne, wr_wr, bs_oneT, splice_full, gt_zero, gt_succ, gt_set, gt_bs, byte_eq0, byte_eq1, byte_n0, byte_n1, Fr.refl, Fr.nw, Fr.wr, Fr.drew, b2]
  refine loopE_of (FwI w v L) L.length ⟨0, sl (sz w) 0 0 0, by omega, by omega, ?_, (Fr.refl [] w).nw _ _, by simp [put_get, argE_get], by simp [put_get], by simp [put_get]⟩ ?_
  · exact own_nw (Nat.le_refl _) rfl (by unfold maxLen; omega)
  rintro m e w1 ⟨j, ov, hm, hj, hown, hf, e0, e3, e4⟩
  subst hm
  unfold F43B0
  subst hv
  by_cases hjl : j < L.length
  · have hji : (j : Int) < L.length := by omega
    obtain ⟨p, hp⟩ : ∃ p, L[j]? = some p := ⟨_, List.getElem?_eq_getElem hjl⟩
    have hok := h.2 p (List.mem_of_getElem? hp)
    obtain ⟨pb, po, pc, hv2, hpb, hin, htk⟩ := flat_at (h.fr0 hf).1 (refC_len L) (by omega) hp
    simp only [Value.slice.injEq] at hv2
    obtain ⟨rfl, _, rfl⟩ := hv2
    have hnext := encRs_take hp
    have hlen := encRs_take_le L (j + 1)
    rw [hnext, List.length_append] at hlen
    have hwj : IntKind.i64.wrap ((j : Int) + 1) = ((j + 1 : Nat) : Int) := wrap64 (by omega) (by omega)
    have hia : ∀ w', pIndexAddr P 48 (sl pb po L.length vc) (i64 j) w' = some (pt pb (po + j * 6), w') := fun w' => by
      have := ia48 (w := w') (b := pb) (o := po) (n := L.length) (c := vc) (k := .i64) (j := (j : Int)) (by omega) (by omega)
      rw [this]; simp
    try simp (maxDischargeDepth := 8) [↓bindV_some, ↓bindU_some, ↓condE_true, ↓condE_false, ↓pickE_true, ↓pickE_false, ↓pickE_or, ↓pickE_and, ↓grdE_true, ↓grdE_false, ↓grdE_tf, ↓grdE_ft, ↓grdE_undef, ↓nilE_pt, ↓thenK_normal, ↓thenK_exit, ↓thenK_ret, ↓thenK_goto, ↓thenK_panic, ↓blockK_exit, ↓blockK_normal, ↓blockK_ret, ↓blockK_goto, ↓blockK_panic, ↓loopK_normal, ↓loopK_exit, ↓loopK_ret, ↓loopK_goto, ↓loopK_panic, ↓topK_ret, ↓topK_normal, ↓topK_panic, ↓resVs_nil, ↓resVs_tmp, ↓resVs_cell, tup_one, tup_nil, tup_two, put_get, argE_get, ↓takeE_def, ↓heldE_nil, ↓heldE_cons, qNil_pt, qPick_bool, qGrd_bool, qGrd_undef, ↓letK_def, pBox_eq, pBin_add, pBin_sub, pBin_mul, pBin_eql, pBin_neq, pBin_lss, pBin_leq, pBin_gtr, pBin_geq, pUn_not, pUn_neg, eqB, neB, eqS, neS, pExtract0, pExtract1, pExtract2, max_int, min_int, sz_nw, sz_wr, sz_drew, mm_nw, fz_nw, mm_drew, fz_drew, fz_wr, sz_mkS, mm_mkS, fz_mkS, Fr.mkS, mm_wr_same, mm_wr_ne, wr_wr, bs_oneT, splice_full, gt_zero, gt_succ, gt_set, gt_bs, byte_eq0, byte_eq1, byte_n0, byte_n1, Fr.refl, Fr.nw, Fr.wr, Fr.drew, e0, e3, e4, hji, hjl, hia, hin, htk]
    refine (fone_spec hok).call ?_
    rintro x w2 ⟨hx, hf2⟩
    have hs2 := hf2.size
    obtain ⟨v', w3, hrun, hown', hg, _⟩ := append_own (P := P) (t := 40) (ty := 40) (sz w) sliceE40 hasZero5 cellsOf5 (by rw [zeroL5]; rfl) (by omega) (own_fr hown hf2 (by simp)) (by have := hf.size; omega) (own_rd hx) (by simp) bs_one
      (by unfold maxLen; omega) (by rw [bytesOf5]; omega)
    try simp (maxDischargeDepth := 8) [↓bindV_some, ↓bindU_some, ↓condE_true, ↓condE_false, ↓pickE_true, ↓pickE_false, ↓pickE_or, ↓pickE_and, ↓grdE_true, ↓grdE_false, ↓grdE_tf, ↓grdE_ft, ↓grdE_undef, ↓nilE_pt, ↓thenK_normal, ↓thenK_exit, ↓thenK_ret, ↓thenK_goto, ↓thenK_panic, ↓blockK_exit, ↓blockK_normal, ↓blockK_ret, ↓blockK_goto, ↓blockK_panic, ↓loopK_normal, ↓loopK_exit, ↓loopK_ret, ↓loopK_goto, ↓loopK_panic, ↓topK_ret, ↓topK_normal, ↓topK_panic, ↓resVs_nil, ↓resVs_tmp, ↓resVs_cell, tup_one, tup_nil, tup_two, put_get, argE_get, ↓takeE_def, ↓heldE_nil, ↓heldE_cons, qNil_pt, qPick_bool, qGrd_bool, qGrd_undef, ↓letK_def, pBox_eq, pBin_add, pBin_sub, pBin_mul, pBin_eql, pBin_neq, pBin_lss, pBin_leq, pBin_gtr, pBin_geq, pUn_not, pUn_neg, eqB, neB, eqS, neS, pExtract0, pExtract1, pExtract2, max_int, min_int, sz_nw, sz_wr, sz_drew, mm_nw, fz_nw, mm_drew, fz_drew, fz_wr, sz_mkS, mm_mkS, fz_mkS, Fr.mkS, mm_wr_same, mm_wr_ne, wr_wr, bs_oneT, splice_full, gt_zero, gt_succ, gt_set, gt_bs, byte_eq0, byte_eq1, byte_n0, byte_n1, Fr.refl, Fr.nw, Fr.wr, Fr.drew, e0, e3, e4, hrun, hwj, -Int.natCast_add]
    refine ⟨L.length - (j + 1), by omega, j + 1, v', rfl, by omega, ?_, (hf.trans0 hf2).trans (Fr.of_grown hg) (fun k hk => .inr (hown.lt k (by simpa using hk)).1), by simp [put_get, e0], by simp [put_get], by simp [put_get]⟩
    rw [hnext, List.length_append, bs_append]
    exact hown'
  · have hje : j = L.length := by omega
    subst hje
    rw [List.take_length] at hown
    try simp (maxDischargeDepth := 8) [↓bindV_some, ↓bindU_some, ↓condE_true, ↓condE_false, ↓pickE_true, ↓pickE_false, ↓pickE_or, ↓pickE_and, ↓grdE_true, ↓grdE_false, ↓grdE_tf, ↓grdE_ft, ↓grdE_undef, ↓nilE_pt, ↓thenK_normal, ↓thenK_exit, ↓thenK_ret, ↓thenK_goto, ↓thenK_panic, ↓blockK_exit, ↓blockK_normal, ↓blockK_ret, ↓blockK_goto, ↓blockK_panic, ↓loopK_normal, ↓loopK_exit, ↓loopK_ret, ↓loopK_goto, ↓loopK_panic, ↓topK_ret, ↓topK_normal, ↓topK_panic, ↓resVs_nil, ↓resVs_tmp, ↓resVs_cell, tup_one, tup_nil, tup_two, put_get, argE_get, ↓takeE_def, ↓heldE_nil, ↓heldE_cons, qNil_pt, qPick_bool, qGrd_bool, qGrd_undef, ↓letK_def, pBox_eq, pBin_add, pBin_sub, pBin_mul, pBin_eql, pBin_neq, pBin_lss, pBin_leq, pBin_gtr, pBin_geq, pUn_not, pUn_neg, eqB, neB, eqS, neS, pExtract0, pExtract1, pExtract2, max_int, min_int, sz_nw, sz_wr, sz_drew, mm_nw, fz_nw, mm_drew, fz_drew, fz_wr, sz_mkS, mm_mkS, fz_mkS, Fr.mkS, mm_wr_same, mm_wr_ne, wr_wr, bs_oneT, splice_full, gt_zero, gt_succ, gt_set, gt_bs, byte_eq0, byte_eq1, byte_n0, byte_n1, Fr.refl, Fr.nw, Fr.wr, Fr.drew, e0, e3, e4]
    exact ⟨hown, hf⟩

/-- What the document's Read answers. -/
def FreadR (w : World) (r : List PartP × Nat × Nat) (x : Value) (w' : World) : Prop :=
  ∃ ov, x = .tuple #[ov, i64 r.2.1, i64 r.2.2] ∧ w'.ownsRow (sz w) 75 6 ov r.1.length (flat refC (r.1.map plain)) ∧ Fr [] w w'
def FrI (w : World) (v : Value) (B K : List UInt8) (most : Int) (m : Nat) (e : Env) (w' : World) : Prop :=
  ∃ (j k : Nat) (acc : List PartP) (ov : Value), m = K.length - j ∧ j ≤ K.length ∧ acc.length = j ∧ k ≤ B.length ∧ readGo most (K.drop j) (B.drop k) k acc = readM B K most ∧
    w'.ownsRow (sz w) 75 6 ov j (flat refC (acc.map plain)) ∧ Fr [] w w' ∧ e 0 = v ∧ e 1 = strB K ∧ e 2 = i64 most ∧ e 9 = ov ∧ e 10 = i64 k ∧ e 11 = i64 j
theorem partM_le (kind : UInt8) (most : Int) (l : List UInt8) : (partM kind most l).2.1 ≤ l.length := by
  have hn := num_le l
  unfold partM
  split
  · exact hn
  · split
    · exact hn
    · split
      · show (floatM l).2.1 ≤ l.length
        unfold floatM
        by_cases h8 : l.length < 8
        · rw [placeM_short 8 0 l h8]; simp
        · have := placeM_long 8 0 l (by omega)
          rw [Prod.ext_iff] at this
          simp only at this
          simp only [this.2, ne_eq, not_true_eq_false, if_false]
          split <;> simp only [this.1] <;> omega
      · split
        · show (strM most l).2.1 ≤ l.length
          unfold strM
          simp only
          split
          · exact hn
          · split
            · exact hn
            · split
              · exact hn
              · simp only; omega
        · split
          · show (flagM l).2.1 ≤ l.length
            cases l with
            | nil => simp [flagM]
            | cons x r => simp only [flagM]; split <;> simp
          · simp
theorem fread_spec {w : World} {v : Value} {B K : List UInt8} {most : Int} (h : RdV w v B.length (bs B)) (hm : most < 9223372036854775808) (hm0 : -9223372036854775808 ≤ most) (hK : K.length ≤ 1000000) :
    Ret P 46 #[v, strB K, i64 most] w fun x w' => FreadR w (readM B K most) x w' := by
  refine F46ok ?_
  unfold F46
  have hmx := h.len
  have b2 : ∀ w, pBuildSlice P 48 0 [] w = some (sl (sz w) 0 0 0, nw w [] 75) := fun w => by rw [bsl48 (by omega) (by simp)]; simp
  have hlen : ∀ w, pBuiltin P .len #[9] 3 [strB K] w = some (i64 K.length, w) := fun w => len_strB und9
  try simp (maxDischargeDepth := 8) [↓bindV_some, ↓bindU_some, ↓condE_true, ↓condE_false, ↓pickE_true, ↓pickE_false, ↓pickE_or, ↓pickE_and, ↓grdE_true, ↓grdE_false, ↓grdE_tf, ↓grdE_ft, ↓grdE_undef, ↓nilE_pt, ↓thenK_normal, ↓thenK_exit, ↓thenK_ret, ↓thenK_goto, ↓thenK_panic, ↓blockK_exit, ↓blockK_normal, ↓blockK_ret, ↓blockK_goto, ↓blockK_panic, ↓loopK_normal, ↓loopK_exit, ↓loopK_ret, ↓loopK_goto, ↓loopK_panic, ↓topK_ret, ↓topK_normal, ↓topK_panic, ↓resVs_nil, ↓resVs_tmp, ↓resVs_cell, tup_one, tup_nil, tup_two, put_get, argE_get, ↓takeE_def, ↓heldE_nil, ↓heldE_cons, qNil_pt, qPick_bool, qGrd_bool, qGrd_undef, ↓letK_def, pBox_eq, pBin_add, pBin_sub, pBin_mul, pBin_eql, pBin_neq, pBin_lss, pBin_leq, pBin_gtr, pBin_geq, pUn_not, pUn_neg, eqB, neB, eqS, neS, pExtract0, pExtract1, pExtract2, max_int, min_int, sz_nw, sz_wr, sz_drew, mm_nw, fz_nw, mm_drew, fz_drew, fz_wr, sz_mkS, mm_mkS, fz_mkS, Fr.mkS, mm_wr_same, mm_wr_ne, wr_wr, bs_oneT, splice_full, gt_zero, gt_succ, gt_set, gt_bs, byte_eq0, byte_eq1, byte_n0, byte_n1, Fr.refl, Fr.nw, Fr.wr, Fr.drew, b2]
  refine loopE_of (FrI w v B K most) K.length ⟨0, 0, [], sl (sz w) 0 0 0, by omega, by omega, rfl, by omega, rfl, ?_, (Fr.refl [] w).nw _ _, by simp [put_get, argE_get], by simp [put_get, argE_get], by simp [put_get, argE_get], by simp [put_get], by simp [put_get], by simp [put_get]⟩ ?_
  · exact own_nw (Nat.le_refl _) rfl (by unfold maxLen; omega)
  rintro m e w1 ⟨j, k, acc, ov, hjm, hj, hacc, hkB, hgo, hown, hf, e0, e1, e2, e9, e10, e11⟩
  subst hjm
  unfold F46B0
  by_cases hjl : j < K.length
  · have hji : (j : Int) < K.length := by omega
    have hwj : IntKind.i64.wrap ((j : Int) + 1) = ((j + 1 : Nat) : Int) := wrap64 (by omega) (by omega)
    have hix : ∀ w, pIndex P 9 (strB K) (i64 j) w = some (bv (gb K j), w) := fun w => ix_strB und9 hjl
    obtain ⟨S, hsl, hS⟩ := sl_lo (h.fr0 hf) hkB
    have hKd : K.drop j = gb K j :: K.drop (j + 1) := drop_gb hjl
    rw [hKd] at hgo
    generalize gb K j = kind at *
    rw [readGo] at hgo
    have hple := partM_le kind most (B.drop k)
    rw [List.length_drop] at hple
    try simp (maxDischargeDepth := 8) [↓bindV_some, ↓bindU_some, ↓condE_true, ↓condE_false, ↓pickE_true, ↓pickE_false, ↓pickE_or, ↓pickE_and, ↓grdE_true, ↓grdE_false, ↓grdE_tf, ↓grdE_ft, ↓grdE_undef, ↓nilE_pt, ↓thenK_normal, ↓thenK_exit, ↓thenK_ret, ↓thenK_goto, ↓thenK_panic, ↓blockK_exit, ↓blockK_normal, ↓blockK_ret, ↓blockK_goto, ↓blockK_panic, ↓loopK_normal, ↓loopK_exit, ↓loopK_ret, ↓loopK_goto, ↓loopK_panic, ↓topK_ret, ↓topK_normal, ↓topK_panic, ↓resVs_nil, ↓resVs_tmp, ↓resVs_cell, tup_one, tup_nil, tup_two, put_get, argE_get, ↓takeE_def, ↓heldE_nil, ↓heldE_cons, qNil_pt, qPick_bool, qGrd_bool, qGrd_undef, ↓letK_def, pBox_eq, pBin_add, pBin_sub, pBin_mul, pBin_eql, pBin_neq, pBin_lss, pBin_leq, pBin_gtr, pBin_geq, pUn_not, pUn_neg, eqB, neB, eqS, neS, pExtract0, pExtract1, pExtract2, max_int, min_int, sz_nw, sz_wr, sz_drew, mm_nw, fz_nw, mm_drew, fz_drew, fz_wr, sz_mkS, mm_mkS, fz_mkS, Fr.mkS, mm_wr_same, mm_wr_ne, wr_wr, bs_oneT, splice_full, gt_zero, gt_succ, gt_set, gt_bs, byte_eq0, byte_eq1, byte_n0, byte_n1, Fr.refl, Fr.nw, Fr.wr, Fr.drew, e0, e1, e2, e9, e10, e11, hlen, hji, hjl, hix, hsl]
    obtain ⟨r, hr⟩ : ∃ r, r = partM kind most (B.drop k) := ⟨_, rfl⟩
    rw [← hr] at hgo hple
    have hspec : ∀ w', Fr [] w1 w' → Ret P 66 #[S, bv kind, i64 most] w' fun x w'' => FirstR w' r x w'' := fun w' hf' => by
      rw [hr]; exact ffirst_spec (hS.fr0 hf') hm hm0
    have hs6 : ∀ p l : List Value, l.length = 6 → p.length = 6 → splice l 0 p = p := fun p l hl hp => splice_full (by rw [hl, hp])
    have hpl : ∀ p, (refC p).length = 6 := fun _ => rfl
    refine drawE_of (fun e' w' => ∃ (q : PartR) (b : Nat), e' 12 = pt b 0 ∧ mm w' b = refC q ∧ (r.2.2 = 0 → q = plain r.1) ∧ e' 13 = i64 r.2.1 ∧ e' 14 = i64 r.2.2 ∧ Fr [] w1 w' ∧
      e' 0 = v ∧ e' 1 = strB K ∧ e' 2 = i64 most ∧ e' 9 = ov ∧ e' 10 = i64 k ∧ e' 11 = i64 j) ?_ ?_
    · intro kk kp hkk
      constructor
      · refine (hspec _ (Fr.refl [] w1).drew).call ?_
        rintro _ w2 ⟨q, rfl, hq, hf2⟩
        try simp (maxDischargeDepth := 8) [↓bindV_some, ↓bindU_some, ↓condE_true, ↓condE_false, ↓pickE_true, ↓pickE_false, ↓pickE_or, ↓pickE_and, ↓grdE_true, ↓grdE_false, ↓grdE_tf, ↓grdE_ft, ↓grdE_undef, ↓nilE_pt, ↓thenK_normal, ↓thenK_exit, ↓thenK_ret, ↓thenK_goto, ↓thenK_panic, ↓blockK_exit, ↓blockK_normal, ↓blockK_ret, ↓blockK_goto, ↓blockK_panic, ↓loopK_normal, ↓loopK_exit, ↓loopK_ret, ↓loopK_goto, ↓loopK_panic, ↓topK_ret, ↓topK_normal, ↓topK_panic, ↓resVs_nil, ↓resVs_tmp, ↓resVs_cell, tup_one, tup_nil, tup_two, put_get, argE_get, ↓takeE_def, ↓heldE_nil, ↓heldE_cons, qNil_pt, qPick_bool, qGrd_bool, qGrd_undef, ↓letK_def, pBox_eq, pBin_add, pBin_sub, pBin_mul, pBin_eql, pBin_neq, pBin_lss, pBin_leq, pBin_gtr, pBin_geq, pUn_not, pUn_neg, eqB, neB, eqS, neS, pExtract0, pExtract1, pExtract2, max_int, min_int, sz_nw, sz_wr, sz_drew, mm_nw, fz_nw, mm_drew, fz_drew, fz_wr, sz_mkS, mm_mkS, fz_mkS, Fr.mkS, mm_wr_same, mm_wr_ne, wr_wr, bs_oneT, splice_full, gt_zero, gt_succ, gt_set, gt_bs, byte_eq0, byte_eq1, byte_n0, byte_n1, Fr.refl, Fr.nw, Fr.wr, Fr.drew, hpl, hs6, refC_oneT]
        refine hkk _ _ ⟨q, sz w2, by simp [put_get], by simp [sz_nw, sz_wr, sz_drew, mm_nw, fz_nw, mm_drew, fz_drew, fz_wr, sz_mkS, mm_mkS, fz_mkS, Fr.mkS, mm_wr_same, mm_wr_ne, wr_wr, bs_oneT, splice_full, gt_zero, gt_succ, gt_set, gt_bs, byte_eq0, byte_eq1, byte_n0, byte_n1, Fr.refl, Fr.nw, Fr.wr, Fr.drew], hq, by simp [put_get], by simp [put_get], (((Fr.refl [] w1).drew.trans0 hf2).nw _ _).wr (.inr (by have := hf2.size; rw [sz_drew] at this; omega)) _, by simp [put_get, e0], by simp [put_get, e1], by simp [put_get, e2], by simp [put_get, e9], by simp [put_get, e10], by simp [put_get, e11]⟩
      · have hfa : ∀ t, Fr [] w1 (nw (drew w1) t 75) := fun t => (Fr.refl [] w1).drew.nw _ _
        refine (hspec _ (hfa _)).call ?_
        rintro _ w2 ⟨q, rfl, hq, hf2⟩
        skip
        have hs2 := hf2.size
        rw [sz_nw, sz_drew] at hs2
        have hz2 : fz w2 (sz w1) = false := by rw [hf2.fz (by simp [sz_nw, sz_wr, sz_drew, mm_nw, fz_nw, mm_drew, fz_drew, fz_wr, sz_mkS, mm_mkS, fz_mkS, Fr.mkS, mm_wr_same, mm_wr_ne, wr_wr, bs_oneT, splice_full, gt_zero, gt_succ, gt_set, gt_bs, byte_eq0, byte_eq1, byte_n0, byte_n1, Fr.refl, Fr.nw, Fr.wr, Fr.drew]) (by simp)]; simp [sz_nw, sz_wr, sz_drew, mm_nw, fz_nw, mm_drew, fz_drew, fz_wr, sz_mkS, mm_mkS, fz_mkS, Fr.mkS, mm_wr_same, mm_wr_ne, wr_wr, bs_oneT, splice_full, gt_zero, gt_succ, gt_set, gt_bs, byte_eq0, byte_eq1, byte_n0, byte_n1, Fr.refl, Fr.nw, Fr.wr, Fr.drew]
        have hl2 : (mm w2 (sz w1)).length = 6 := by rw [hf2.mm (by simp [sz_nw, sz_wr, sz_drew, mm_nw, fz_nw, mm_drew, fz_drew, fz_wr, sz_mkS, mm_mkS, fz_mkS, Fr.mkS, mm_wr_same, mm_wr_ne, wr_wr, bs_oneT, splice_full, gt_zero, gt_succ, gt_set, gt_bs, byte_eq0, byte_eq1, byte_n0, byte_n1, Fr.refl, Fr.nw, Fr.wr, Fr.drew]) (by simp)]; simp [sz_nw, sz_wr, sz_drew, mm_nw, fz_nw, mm_drew, fz_drew, fz_wr, sz_mkS, mm_mkS, fz_mkS, Fr.mkS, mm_wr_same, mm_wr_ne, wr_wr, bs_oneT, splice_full, gt_zero, gt_succ, gt_set, gt_bs, byte_eq0, byte_eq1, byte_n0, byte_n1, Fr.refl, Fr.nw, Fr.wr, Fr.drew]
        try simp (maxDischargeDepth := 8) [↓bindV_some, ↓bindU_some, ↓condE_true, ↓condE_false, ↓pickE_true, ↓pickE_false, ↓pickE_or, ↓pickE_and, ↓grdE_true, ↓grdE_false, ↓grdE_tf, ↓grdE_ft, ↓grdE_undef, ↓nilE_pt, ↓thenK_normal, ↓thenK_exit, ↓thenK_ret, ↓thenK_goto, ↓thenK_panic, ↓blockK_exit, ↓blockK_normal, ↓blockK_ret, ↓blockK_goto, ↓blockK_panic, ↓loopK_normal, ↓loopK_exit, ↓loopK_ret, ↓loopK_goto, ↓loopK_panic, ↓topK_ret, ↓topK_normal, ↓topK_panic, ↓resVs_nil, ↓resVs_tmp, ↓resVs_cell, tup_one, tup_nil, tup_two, put_get, argE_get, ↓takeE_def, ↓heldE_nil, ↓heldE_cons, qNil_pt, qPick_bool, qGrd_bool, qGrd_undef, ↓letK_def, pBox_eq, pBin_add, pBin_sub, pBin_mul, pBin_eql, pBin_neq, pBin_lss, pBin_leq, pBin_gtr, pBin_geq, pUn_not, pUn_neg, eqB, neB, eqS, neS, pExtract0, pExtract1, pExtract2, max_int, min_int, sz_nw, sz_wr, sz_drew, mm_nw, fz_nw, mm_drew, fz_drew, fz_wr, sz_mkS, mm_mkS, fz_mkS, Fr.mkS, mm_wr_same, mm_wr_ne, wr_wr, bs_oneT, splice_full, gt_zero, gt_succ, gt_set, gt_bs, byte_eq0, byte_eq1, byte_n0, byte_n1, Fr.refl, Fr.nw, Fr.wr, Fr.drew, hpl, hs6, refC_oneT, hz2, hl2]
        refine hkk _ _ ⟨q, sz w1, by simp [put_get], mm_wr_same hz2 _, hq, by simp [put_get], by simp [put_get], ((hfa _).trans0 hf2).wr (.inr (Nat.le_refl _)) _, by simp [put_get, e0], by simp [put_get, e1], by simp [put_get, e2], by simp [put_get, e9], by simp [put_get, e10], by simp [put_get, e11]⟩
    · rintro e' w2 ⟨q, b, a12, hmb, hq, a13, a14, hf2, a0, a1, a2, a9, a10, a11⟩
      have hwk : IntKind.i64.wrap ((k : Int) + r.2.1) = ((k + r.2.1 : Nat) : Int) := wrap64 (by omega) (by omega)
      obtain ⟨k2, hk2⟩ : ∃ k2, k2 = k + r.2.1 := ⟨_, rfl⟩
      rw [← hk2] at hwk hgo
      have g2 := hf.trans0 hf2
      by_cases hc : r.2.2 = 0
      · rw [if_neg (by simpa using hc)] at hgo
        have hbs : ∀ w, pBuildSlice P 48 1 [(0, .agg (refC q).toArray)] w = some (sl (sz w) 0 1 1, nw w (refC q) 75) := fun w => by
          rw [bsl48 (by omega) (by simp [refC])]; simp [refC, splice]
        have hown3 := own_fr hown (hf2.nw (refC q) 75) (by simp)
        have hrd : RdV (nw w2 (refC q) 75) (sl (sz w2) 0 1 1) 1 (refC q) := rd_new w2 (refC q) 75 (n := 1) (by unfold maxLen; omega)
        have hs1 := hf.size
        have hs2 := hf2.size
        obtain ⟨v', w3, hrun, hown', hg, _⟩ := append_own (P := P) (t := 48) (ty := 48) (sz w) sliceE48 hasZero75 cellsOf75 (by rw [zeroL75]; rfl) (by omega) hown3 (by rw [sz_nw]; omega) hrd rfl refC_one
          (by unfold maxLen; omega) (by rw [bytesOf75]; omega)
        have hc' : (r.2.2 = 0) = True := eq_true hc
        have ht6 : List.take 6 (refC q) = refC q := rfl
        try simp (maxDischargeDepth := 8) [↓bindV_some, ↓bindU_some, ↓condE_true, ↓condE_false, ↓pickE_true, ↓pickE_false, ↓pickE_or, ↓pickE_and, ↓grdE_true, ↓grdE_false, ↓grdE_tf, ↓grdE_ft, ↓grdE_undef, ↓nilE_pt, ↓thenK_normal, ↓thenK_exit, ↓thenK_ret, ↓thenK_goto, ↓thenK_panic, ↓blockK_exit, ↓blockK_normal, ↓blockK_ret, ↓blockK_goto, ↓blockK_panic, ↓loopK_normal, ↓loopK_exit, ↓loopK_ret, ↓loopK_goto, ↓loopK_panic, ↓topK_ret, ↓topK_normal, ↓topK_panic, ↓resVs_nil, ↓resVs_tmp, ↓resVs_cell, tup_one, tup_nil, tup_two, put_get, argE_get, ↓takeE_def, ↓heldE_nil, ↓heldE_cons, qNil_pt, qPick_bool, qGrd_bool, qGrd_undef, ↓letK_def, pBox_eq, pBin_add, pBin_sub, pBin_mul, pBin_eql, pBin_neq, pBin_lss, pBin_leq, pBin_gtr, pBin_geq, pUn_not, pUn_neg, eqB, neB, eqS, neS, pExtract0, pExtract1, pExtract2, max_int, min_int, sz_nw, sz_wr, sz_drew, mm_nw, fz_nw, mm_drew, fz_drew, fz_wr, sz_mkS, mm_mkS, fz_mkS, Fr.mkS, mm_wr_same, mm_wr_ne, wr_wr, bs_oneT, splice_full, gt_zero, gt_succ, gt_set, gt_bs, byte_eq0, byte_eq1, byte_n0, byte_n1, Fr.refl, Fr.nw, Fr.wr, Fr.drew, a12, a13, a14, a0, a9, a10, a11, hwk, hc', hmb, hpl, ht6, hbs, hrun, hwj, -Int.natCast_add]
        refine ⟨K.length - (j + 1), by omega, j + 1, k2, acc ++ [r.1], v', rfl, by omega, by simp [hacc], by omega, ?_, ?_, (g2.nw (refC q) 75).trans (Fr.of_grown hg) (fun c hc => .inr (hown.lt c (by simpa using hc)).1),
          by simp [put_get, a0], by simp [put_get, a1], by simp [put_get, a2], by simp [put_get], by simp [put_get], by simp [put_get]⟩
        · rw [← hgo, List.drop_drop, hk2]
        · have : flat refC ((acc ++ [r.1]).map plain) = flat refC (acc.map plain) ++ refC q := by
            rw [List.map_append, flat_append, hq hc]; simp [flat]
          rw [this]
          exact hown'
      · rw [if_pos hc] at hgo
        have hc' : (r.2.2 = 0) = False := eq_false hc
        try simp (maxDischargeDepth := 8) [↓bindV_some, ↓bindU_some, ↓condE_true, ↓condE_false, ↓pickE_true, ↓pickE_false, ↓pickE_or, ↓pickE_and, ↓grdE_true, ↓grdE_false, ↓grdE_tf, ↓grdE_ft, ↓grdE_undef, ↓nilE_pt, ↓thenK_normal, ↓thenK_exit, ↓thenK_ret, ↓thenK_goto, ↓thenK_panic, ↓blockK_exit, ↓blockK_normal, ↓blockK_ret, ↓blockK_goto, ↓blockK_panic, ↓loopK_normal, ↓loopK_exit, ↓loopK_ret, ↓loopK_goto, ↓loopK_panic, ↓topK_ret, ↓topK_normal, ↓topK_panic, ↓resVs_nil, ↓resVs_tmp, ↓resVs_cell, tup_one, tup_nil, tup_two, put_get, argE_get, ↓takeE_def, ↓heldE_nil, ↓heldE_cons, qNil_pt, qPick_bool, qGrd_bool, qGrd_undef, ↓letK_def, pBox_eq, pBin_add, pBin_sub, pBin_mul, pBin_eql, pBin_neq, pBin_lss, pBin_leq, pBin_gtr, pBin_geq, pUn_not, pUn_neg, eqB, neB, eqS, neS, pExtract0, pExtract1, pExtract2, max_int, min_int, sz_nw, sz_wr, sz_drew, mm_nw, fz_nw, mm_drew, fz_drew, fz_wr, sz_mkS, mm_mkS, fz_mkS, Fr.mkS, mm_wr_same, mm_wr_ne, wr_wr, bs_oneT, splice_full, gt_zero, gt_succ, gt_set, gt_bs, byte_eq0, byte_eq1, byte_n0, byte_n1, Fr.refl, Fr.nw, Fr.wr, Fr.drew, a12, a13, a14, a0, a9, a10, a11, hwk, hc', -Int.natCast_add]
        rw [← hgo]
        exact ⟨.slice none 0 0, rfl, World.ownsRow_nil _ _ _ _, g2⟩
  · have hje : j = K.length := by omega
    subst hje
    rw [List.drop_length, readGo, List.length_drop] at hgo
    obtain ⟨va, vc, hv⟩ := sl_of h
    subst hv
    by_cases hlt : k < B.length
    · have c1 : ((k : Int) < B.length) = True := eq_true (by omega)
      have c2 : (k < B.length) = True := eq_true hlt
      rw [if_pos (by omega)] at hgo
      try simp (maxDischargeDepth := 8) [↓bindV_some, ↓bindU_some, ↓condE_true, ↓condE_false, ↓pickE_true, ↓pickE_false, ↓pickE_or, ↓pickE_and, ↓grdE_true, ↓grdE_false, ↓grdE_tf, ↓grdE_ft, ↓grdE_undef, ↓nilE_pt, ↓thenK_normal, ↓thenK_exit, ↓thenK_ret, ↓thenK_goto, ↓thenK_panic, ↓blockK_exit, ↓blockK_normal, ↓blockK_ret, ↓blockK_goto, ↓blockK_panic, ↓loopK_normal, ↓loopK_exit, ↓loopK_ret, ↓loopK_goto, ↓loopK_panic, ↓topK_ret, ↓topK_normal, ↓topK_panic, ↓resVs_nil, ↓resVs_tmp, ↓resVs_cell, tup_one, tup_nil, tup_two, put_get, argE_get, ↓takeE_def, ↓heldE_nil, ↓heldE_cons, qNil_pt, qPick_bool, qGrd_bool, qGrd_undef, ↓letK_def, pBox_eq, pBin_add, pBin_sub, pBin_mul, pBin_eql, pBin_neq, pBin_lss, pBin_leq, pBin_gtr, pBin_geq, pUn_not, pUn_neg, eqB, neB, eqS, neS, pExtract0, pExtract1, pExtract2, max_int, min_int, sz_nw, sz_wr, sz_drew, mm_nw, fz_nw, mm_drew, fz_drew, fz_wr, sz_mkS, mm_mkS, fz_mkS, Fr.mkS, mm_wr_same, mm_wr_ne, wr_wr, bs_oneT, splice_full, gt_zero, gt_succ, gt_set, gt_bs, byte_eq0, byte_eq1, byte_n0, byte_n1, Fr.refl, Fr.nw, Fr.wr, Fr.drew, e0, e1, e9, e10, e11, hlen, c1, c2]
      rw [← hgo]
      exact ⟨.slice none 0 0, rfl, World.ownsRow_nil _ _ _ _, hf⟩
    · have c1 : ((k : Int) < B.length) = False := eq_false (by omega)
      have c2 : (k < B.length) = False := eq_false hlt
      rw [if_neg (by omega)] at hgo
      try simp (maxDischargeDepth := 8) [↓bindV_some, ↓bindU_some, ↓condE_true, ↓condE_false, ↓pickE_true, ↓pickE_false, ↓pickE_or, ↓pickE_and, ↓grdE_true, ↓grdE_false, ↓grdE_tf, ↓grdE_ft, ↓grdE_undef, ↓nilE_pt, ↓thenK_normal, ↓thenK_exit, ↓thenK_ret, ↓thenK_goto, ↓thenK_panic, ↓blockK_exit, ↓blockK_normal, ↓blockK_ret, ↓blockK_goto, ↓blockK_panic, ↓loopK_normal, ↓loopK_exit, ↓loopK_ret, ↓loopK_goto, ↓loopK_panic, ↓topK_ret, ↓topK_normal, ↓topK_panic, ↓resVs_nil, ↓resVs_tmp, ↓resVs_cell, tup_one, tup_nil, tup_two, put_get, argE_get, ↓takeE_def, ↓heldE_nil, ↓heldE_cons, qNil_pt, qPick_bool, qGrd_bool, qGrd_undef, ↓letK_def, pBox_eq, pBin_add, pBin_sub, pBin_mul, pBin_eql, pBin_neq, pBin_lss, pBin_leq, pBin_gtr, pBin_geq, pUn_not, pUn_neg, eqB, neB, eqS, neS, pExtract0, pExtract1, pExtract2, max_int, min_int, sz_nw, sz_wr, sz_drew, mm_nw, fz_nw, mm_drew, fz_drew, fz_wr, sz_mkS, mm_mkS, fz_mkS, Fr.mkS, mm_wr_same, mm_wr_ne, wr_wr, bs_oneT, splice_full, gt_zero, gt_succ, gt_set, gt_bs, byte_eq0, byte_eq1, byte_n0, byte_n1, Fr.refl, Fr.nw, Fr.wr, Fr.drew, e0, e1, e9, e10, e11, hlen, c1, c2]
      rw [← hgo]
      rw [← hacc] at hown
      exact ⟨ov, rfl, hown, hf⟩
end Go.Proofs.Ytfmcplkijjndlaa
