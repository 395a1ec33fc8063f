/- The document's numbers as bytes: what its functions compute. -/
import Derived.Test.YtfmcplkijjndlaaPackR2
import Derived.Test.YtfmcplkijjndlaaWRef02
set_option linter.unusedVariables false
set_option linter.unusedSimpArgs false
namespace Go.Proofs.Ytfmcplkijjndlaa
open Go

theorem pRemU {t : TypeId} {lit : Bool} {w : World} {a k : Nat} {k' : Int} (hk : k' = (k : Int)) (h0 : 0 < k) : pBin P .rem t lit (u64 a) (.int .u64 k') w = some (u64 (a % k), w) := by
  subst hk
  rw [pBin_rem (by omega)]
  congr 3
theorem pQuoU {t : TypeId} {lit : Bool} {w : World} {a k : Nat} {k' : Int} (hk : k' = (k : Int)) (h0 : 0 < k) (ha : a < 2 * H63) : pBin P .quo t lit (u64 a) (.int .u64 k') w = some (u64 (a / k), w) := by
  subst hk
  rw [pBin_quo (by omega)]
  congr 3
  have : ((a : Int).tdiv (k : Int)) = ((a / k : Nat) : Int) := rfl
  rw [this]
  exact wrapu (Nat.lt_of_le_of_lt (Nat.div_le_self _ _) ha)
theorem pMulU {t : TypeId} {lit : Bool} {w : World} {a k : Nat} {k' : Int} (hk : k' = (k : Int)) (h : a * k < 2 * H63) : pBin P .mul t lit (u64 a) (.int .u64 k') w = some (u64 (a * k), w) := by
  subst hk
  rw [pBin_mul]
  congr 3
  have : (a : Int) * (k : Int) = ((a * k : Nat) : Int) := by push_cast; rfl
  rw [this]
  exact wrapu h
theorem pAddU {t : TypeId} {lit : Bool} {w : World} {a k : Nat} {k' : Int} (hk : k' = (k : Int)) (h : a + k < 2 * H63) : pBin P .add t lit (u64 a) (.int .u64 k') w = some (u64 (a + k), w) := by
  subst hk
  rw [pBin_add]
  congr 3
  exact wrapu h
theorem pSubU {t : TypeId} {lit : Bool} {w : World} {a k : Nat} {k' : Int} (hk : k' = (k : Int)) (h : k ≤ a) (ha : a < 2 * H63) : pBin P .sub t lit (u64 a) (.int .u64 k') w = some (u64 (a - k), w) := by
  subst hk
  rw [pBin_sub]
  congr 3
  have : (a : Int) - (k : Int) = ((a - k : Nat) : Int) := by omega
  rw [this]
  exact wrapu (by omega)
theorem own_nw {w : World} {base e size : Nat} {l : List Value} {n : Nat} (hb : base ≤ sz w) (hl : l.length = n * size) (hn : n ≤ maxLen) : (nw w l e).ownsRow base e size (sl (sz w) 0 n n) n l := by
  refine ⟨hl, .inr ⟨sz w, n, l.toArray, rfl, hb, ?_, Nat.le_refl _, hn, by simpa using hl, by simp [← hl]⟩⟩
  unfold nw sz
  simp
/-- Bytes that were just made, apart from all that was. -/
def NewB (w : World) (v : Value) (l : List UInt8) (w' : World) : Prop := w'.ownsRow (sz w) 5 1 v l.length (bs l) ∧ Fr [] w w'
theorem bsl40_one {w : World} {x : UInt8} : pBuildSlice P 40 1 [(0, bv x)] w = some (sl (sz w) 0 1 1, nw w [bv x] 5) := by
  rw [bsl40 (by omega) (by simp)]; simp [splice]
theorem digits_le {n : Nat} (h : n < 2 * H63) : (digits n).length ≤ 10 := by
  have e : (128 : Nat) ^ (9 + 1) = 1180591620717411303424 := by decide
  refine digits_len 9 n ?_
  rw [e]
  unfold H63 at h
  omega
theorem fdigits_spec : ∀ (n : Nat), n < 2 * H63 → ∀ {w : World}, Ret P 78 #[u64 n] w fun v w' => NewB w v (digits n) w' := by
  intro n
  induction n using Nat.strongRecOn with
  | _ n ih =>
    intro hn w
    refine F78ok ?_
    unfold F78
    obtain ⟨x, hx⟩ : ∃ x, x = UInt8.ofNat n := ⟨_, rfl⟩
    have hw8 : IntKind.u8.wrap (n : Int) = (x.toNat : Int) := by rw [hx]; exact wrap8_mod n
    by_cases h : n < 128
    · rw [digits_lt h, ← hx]
      have hi : (n : Int) < 128 := by omega
      try simp (maxDischargeDepth := 8) [↓bindV_some, ↓bindU_some, ↓condE_true, ↓condE_false, ↓pickE_true, ↓pickE_false, ↓pickE_or, ↓pickE_and, ↓grdE_true, ↓grdE_false, ↓grdE_tf, ↓grdE_ft, ↓grdE_undef, ↓nilE_pt, ↓thenK_normal, ↓thenK_exit, ↓thenK_ret, ↓thenK_goto, ↓thenK_panic, ↓blockK_exit, ↓blockK_normal, ↓blockK_ret, ↓blockK_goto, ↓blockK_panic, ↓loopK_normal, ↓loopK_exit, ↓loopK_ret, ↓loopK_goto, ↓loopK_panic, ↓topK_ret, ↓topK_normal, ↓topK_panic, ↓resVs_nil, ↓resVs_tmp, ↓resVs_cell, tup_one, tup_nil, tup_two, put_get, argE_get, ↓takeE_def, ↓heldE_nil, ↓heldE_cons, qNil_pt, qPick_bool, qGrd_bool, qGrd_undef, ↓letK_def, pBox_eq, pBin_add, pBin_sub, pBin_mul, pBin_eql, pBin_neq, pBin_lss, pBin_leq, pBin_gtr, pBin_geq, pUn_not, pUn_neg, eqB, neB, eqS, neS, pExtract0, pExtract1, pExtract2, max_int, min_int, sz_nw, sz_wr, sz_drew, mm_nw, fz_nw, mm_drew, fz_drew, fz_wr, sz_mkS, mm_mkS, fz_mkS, Fr.mkS, mm_wr_same, mm_wr_ne, wr_wr, bs_oneT, splice_full, gt_zero, gt_succ, gt_set, gt_bs, byte_eq0, byte_eq1, byte_n0, byte_n1, Fr.refl, Fr.nw, Fr.wr, Fr.drew, h, hi, hw8]
      have := own_nw (w := w) (base := sz w) (e := 5) (size := 1) (l := [bv x]) (n := 1) (Nat.le_refl _) rfl (by unfold maxLen; omega)
      exact ⟨this, (Fr.refl [] w).nw _ _⟩
    · rw [digits_ge h]
      have hi : ¬ (n : Int) < 128 := by omega
      obtain ⟨y, hy⟩ : ∃ y, y = UInt8.ofNat (n % 128 + 128) := ⟨_, rfl⟩
      obtain ⟨z, hz⟩ : ∃ z, z = UInt8.ofNat (n % 128) := ⟨_, rfl⟩
      rw [← hy]
      have hrem : ∀ w, pBin P .rem 25 true (u64 n) (Value.int .u64 128) w = some (u64 (n % 128), w) := fun w => pRemU (k := 128) rfl (by omega)
      have hquo : ∀ w, pBin P .quo 25 true (u64 n) (Value.int .u64 128) w = some (u64 (n / 128), w) := fun w => pQuoU (k := 128) rfl (by omega) hn
      have hcv : ∀ w, pConv P 25 5 (u64 (n % 128)) w = some (bv z, w) := fun w => by
        rw [pConv_int tyOk25 intK5, wrap8_mod, hz]
      have hadd : ∀ w, pBin P .add 5 true (bv z) (Value.int .u8 128) w = some (bv y, w) := fun w => by
        rw [pBin_add]
        congr 3
        have e1 : (z.toNat : Int) + 128 = ((n % 128 + 128 : Nat) : Int) := by rw [hz, UInt8.toNat_ofNat']; omega
        rw [e1, wrap8_mod, hy]
      obtain ⟨q, hq⟩ : ∃ q, q = n / 128 := ⟨_, rfl⟩
      rw [← hq] at hquo ⊢
      obtain ⟨r, hr⟩ : ∃ r, r = n % 128 := ⟨_, rfl⟩
      rw [← hr] at hrem hcv
      try simp (maxDischargeDepth := 8) [↓bindV_some, ↓bindU_some, ↓condE_true, ↓condE_false, ↓pickE_true, ↓pickE_false, ↓pickE_or, ↓pickE_and, ↓grdE_true, ↓grdE_false, ↓grdE_tf, ↓grdE_ft, ↓grdE_undef, ↓nilE_pt, ↓thenK_normal, ↓thenK_exit, ↓thenK_ret, ↓thenK_goto, ↓thenK_panic, ↓blockK_exit, ↓blockK_normal, ↓blockK_ret, ↓blockK_goto, ↓blockK_panic, ↓loopK_normal, ↓loopK_exit, ↓loopK_ret, ↓loopK_goto, ↓loopK_panic, ↓topK_ret, ↓topK_normal, ↓topK_panic, ↓resVs_nil, ↓resVs_tmp, ↓resVs_cell, tup_one, tup_nil, tup_two, put_get, argE_get, ↓takeE_def, ↓heldE_nil, ↓heldE_cons, qNil_pt, qPick_bool, qGrd_bool, qGrd_undef, ↓letK_def, pBox_eq, pBin_add, pBin_sub, pBin_mul, pBin_eql, pBin_neq, pBin_lss, pBin_leq, pBin_gtr, pBin_geq, pUn_not, pUn_neg, eqB, neB, eqS, neS, pExtract0, pExtract1, pExtract2, max_int, min_int, sz_nw, sz_wr, sz_drew, mm_nw, fz_nw, mm_drew, fz_drew, fz_wr, sz_mkS, mm_mkS, fz_mkS, Fr.mkS, mm_wr_same, mm_wr_ne, wr_wr, bs_oneT, splice_full, gt_zero, gt_succ, gt_set, gt_bs, byte_eq0, byte_eq1, byte_n0, byte_n1, Fr.refl, Fr.nw, Fr.wr, Fr.drew, h, hi, hw8, hrem, hquo, hcv, hadd, bsl40_one]
      have own1 : (nw w [bv y] 5).ownsRow (sz w) 5 1 (sl (sz w) 0 1 1) 1 [bv y] := own_nw (Nat.le_refl _) rfl (by unfold maxLen; omega)
      have hql : q < n := by omega
      refine (ih q hql (by omega)).call ?_
      rintro v2 w2 ⟨own2, hf2⟩
      have hd10 := digits_le (n := q) (by omega)
      obtain ⟨v', w3, hrun, hown', hg, _⟩ := append_own (P := P) (t := 40) (ty := 40) (sz w) sliceE40 hasZero5 cellsOf5 (by rw [zeroL5]; rfl) (by omega) (own_fr own1 hf2 (by simp)) (by have := hf2.size; rw [sz_nw] at this; omega) (own_rd own2) (by simp) bs_one
        (by unfold maxLen; omega) (by rw [bytesOf5]; omega)
      try simp (maxDischargeDepth := 8) [↓bindV_some, ↓bindU_some, ↓condE_true, ↓condE_false, ↓pickE_true, ↓pickE_false, ↓pickE_or, ↓pickE_and, ↓grdE_true, ↓grdE_false, ↓grdE_tf, ↓grdE_ft, ↓grdE_undef, ↓nilE_pt, ↓thenK_normal, ↓thenK_exit, ↓thenK_ret, ↓thenK_goto, ↓thenK_panic, ↓blockK_exit, ↓blockK_normal, ↓blockK_ret, ↓blockK_goto, ↓blockK_panic, ↓loopK_normal, ↓loopK_exit, ↓loopK_ret, ↓loopK_goto, ↓loopK_panic, ↓topK_ret, ↓topK_normal, ↓topK_panic, ↓resVs_nil, ↓resVs_tmp, ↓resVs_cell, tup_one, tup_nil, tup_two, put_get, argE_get, ↓takeE_def, ↓heldE_nil, ↓heldE_cons, qNil_pt, qPick_bool, qGrd_bool, qGrd_undef, ↓letK_def, pBox_eq, pBin_add, pBin_sub, pBin_mul, pBin_eql, pBin_neq, pBin_lss, pBin_leq, pBin_gtr, pBin_geq, pUn_not, pUn_neg, eqB, neB, eqS, neS, pExtract0, pExtract1, pExtract2, max_int, min_int, sz_nw, sz_wr, sz_drew, mm_nw, fz_nw, mm_drew, fz_drew, fz_wr, sz_mkS, mm_mkS, fz_mkS, Fr.mkS, mm_wr_same, mm_wr_ne, wr_wr, bs_oneT, splice_full, gt_zero, gt_succ, gt_set, gt_bs, byte_eq0, byte_eq1, byte_n0, byte_n1, Fr.refl, Fr.nw, Fr.wr, Fr.drew, hrun]
      refine ⟨?_, ?_⟩
      · have e : [bv y] ++ bs (digits q) = bs (y :: digits q) := rfl
        rw [e] at hown'
        have e2 : 1 + (digits q).length = (y :: digits q).length := by simp; omega
        rw [e2] at hown'
        exact hown'
      · exact (((Fr.refl [] w).nw [bv y] 5).trans0 hf2).trans (Fr.of_grown hg) (fun k hk => .inr (by simp [Value.ownBlock] at hk; omega))

theorem fzig_spec {w : World} {n : Int} (h0 : -9223372036854775808 ≤ n) (h1 : n < 9223372036854775808) : Ret P 79 #[i64 n] w fun v w' => v = u64 (zig n) ∧ Fr [] w w' := by
  refine F79ok ?_
  unfold F79
  by_cases hn : n < 0
  · have e1 : IntKind.i64.wrap (n + 1) = n + 1 := wrap64 (by omega) (by omega)
    have e2 : IntKind.i64.wrap (0 - (n + 1)) = 0 - (n + 1) := wrap64 (by omega) (by omega)
    obtain ⟨m, hm⟩ : ∃ m : Nat, 0 - (n + 1) = (m : Int) := ⟨(-(n + 1)).toNat, by omega⟩
    have hneg : ∀ w, pUn P .neg (i64 (n + 1)) w = some (i64 m, w) := fun w => by rw [pUn_neg, e2, hm]
    have hcv : ∀ w, pConv P 2 25 (i64 m) w = some (u64 m, w) := fun w => by rw [pConv_int tyOk2 intK25, wrapu (by unfold H63; omega)]
    have hmu : ∀ w, pBin P .mul 25 true (u64 m) (.int .u64 2) w = some (u64 (m * 2), w) := fun w => pMulU (k := 2) rfl (by unfold H63; omega)
    obtain ⟨m2, hm2⟩ : ∃ m2, m2 = m * 2 := ⟨_, rfl⟩
    rw [← hm2] at hmu
    have had : ∀ w, pBin P .add 25 true (u64 m2) (.int .u64 1) w = some (u64 (m2 + 1), w) := fun w => pAddU (k := 1) rfl (by unfold H63; omega)
    have hz : zig n = m2 + 1 := by unfold zig; rw [if_pos hn]; omega
    rw [hz]
    obtain ⟨m3, hm3⟩ : ∃ m3, m3 = m2 + 1 := ⟨_, rfl⟩
    rw [← hm3] at had ⊢
    obtain ⟨s, hs⟩ : ∃ s, s = n + 1 := ⟨_, rfl⟩
    have e1 : IntKind.i64.wrap (n + 1) = s := e1.trans hs.symm
    rw [← hs] at hneg
    try simp (maxDischargeDepth := 8) [↓bindV_some, ↓bindU_some, ↓condE_true, ↓condE_false, ↓pickE_true, ↓pickE_false, ↓pickE_or, ↓pickE_and, ↓grdE_true, ↓grdE_false, ↓grdE_tf, ↓grdE_ft, ↓grdE_undef, ↓nilE_pt, ↓thenK_normal, ↓thenK_exit, ↓thenK_ret, ↓thenK_goto, ↓thenK_panic, ↓blockK_exit, ↓blockK_normal, ↓blockK_ret, ↓blockK_goto, ↓blockK_panic, ↓loopK_normal, ↓loopK_exit, ↓loopK_ret, ↓loopK_goto, ↓loopK_panic, ↓topK_ret, ↓topK_normal, ↓topK_panic, ↓resVs_nil, ↓resVs_tmp, ↓resVs_cell, tup_one, tup_nil, tup_two, put_get, argE_get, ↓takeE_def, ↓heldE_nil, ↓heldE_cons, qNil_pt, qPick_bool, qGrd_bool, qGrd_undef, ↓letK_def, pBox_eq, pBin_add, pBin_sub, pBin_mul, pBin_eql, pBin_neq, pBin_lss, pBin_leq, pBin_gtr, pBin_geq, pUn_not, pUn_neg, eqB, neB, eqS, neS, pExtract0, pExtract1, pExtract2, max_int, min_int, sz_nw, sz_wr, sz_drew, mm_nw, fz_nw, mm_drew, fz_drew, fz_wr, sz_mkS, mm_mkS, fz_mkS, Fr.mkS, mm_wr_same, mm_wr_ne, wr_wr, bs_oneT, splice_full, gt_zero, gt_succ, gt_set, gt_bs, byte_eq0, byte_eq1, byte_n0, byte_n1, Fr.refl, Fr.nw, Fr.wr, Fr.drew, hn, e1, hneg, hcv, hmu, had]
  · obtain ⟨m, rfl⟩ : ∃ m : Nat, n = (m : Int) := ⟨n.toNat, by omega⟩
    have hcv : ∀ w, pConv P 2 25 (i64 m) w = some (u64 m, w) := fun w => by rw [pConv_int tyOk2 intK25, wrapu (by unfold H63; omega)]
    have hmu : ∀ w, pBin P .mul 25 true (u64 m) (.int .u64 2) w = some (u64 (m * 2), w) := fun w => pMulU (k := 2) rfl (by unfold H63; omega)
    have hz : zig (m : Int) = m * 2 := by unfold zig; rw [if_neg hn]; omega
    rw [hz]
    obtain ⟨m2, hm2⟩ : ∃ m2, m2 = m * 2 := ⟨_, rfl⟩
    rw [← hm2] at hmu ⊢
    try simp (maxDischargeDepth := 8) [↓bindV_some, ↓bindU_some, ↓condE_true, ↓condE_false, ↓pickE_true, ↓pickE_false, ↓pickE_or, ↓pickE_and, ↓grdE_true, ↓grdE_false, ↓grdE_tf, ↓grdE_ft, ↓grdE_undef, ↓nilE_pt, ↓thenK_normal, ↓thenK_exit, ↓thenK_ret, ↓thenK_goto, ↓thenK_panic, ↓blockK_exit, ↓blockK_normal, ↓blockK_ret, ↓blockK_goto, ↓blockK_panic, ↓loopK_normal, ↓loopK_exit, ↓loopK_ret, ↓loopK_goto, ↓loopK_panic, ↓topK_ret, ↓topK_normal, ↓topK_panic, ↓resVs_nil, ↓resVs_tmp, ↓resVs_cell, tup_one, tup_nil, tup_two, put_get, argE_get, ↓takeE_def, ↓heldE_nil, ↓heldE_cons, qNil_pt, qPick_bool, qGrd_bool, qGrd_undef, ↓letK_def, pBox_eq, pBin_add, pBin_sub, pBin_mul, pBin_eql, pBin_neq, pBin_lss, pBin_leq, pBin_gtr, pBin_geq, pUn_not, pUn_neg, eqB, neB, eqS, neS, pExtract0, pExtract1, pExtract2, max_int, min_int, sz_nw, sz_wr, sz_drew, mm_nw, fz_nw, mm_drew, fz_drew, fz_wr, sz_mkS, mm_mkS, fz_mkS, Fr.mkS, mm_wr_same, mm_wr_ne, wr_wr, bs_oneT, splice_full, gt_zero, gt_succ, gt_set, gt_bs, byte_eq0, byte_eq1, byte_n0, byte_n1, Fr.refl, Fr.nw, Fr.wr, Fr.drew, hn, hcv, hmu]
theorem fzag_spec {w : World} {n : Nat} (hn : n < 2 * H63) : Ret P 83 #[u64 n] w fun v w' => v = i64 (zag n) ∧ Fr [] w w' := by
  refine F83ok ?_
  unfold F83
  have hH : 2 * H63 = 18446744073709551616 := by decide
  have hrem : ∀ w, pBin P .rem 25 true (u64 n) (Value.int .u64 2) w = some (u64 (n % 2), w) := fun w => pRemU (k := 2) rfl (by omega)
  have hquo : ∀ w, pBin P .quo 25 true (u64 n) (Value.int .u64 2) w = some (u64 (n / 2), w) := fun w => pQuoU (k := 2) rfl (by omega) hn
  have hcv : ∀ w, pConv P 25 2 (u64 (n / 2)) w = some (i64 (n / 2 : Nat), w) := fun w => by rw [pConv_int tyOk25 intK2, wrap64 (by omega) (by omega)]
  unfold zag
  by_cases hp : n % 2 = 1
  · rw [if_pos hp]
    obtain ⟨q, hq⟩ : ∃ q, q = n / 2 := ⟨_, rfl⟩
    rw [← hq] at hquo hcv ⊢
    have hneg : ∀ w, pUn P .neg (i64 (q : Nat)) w = some (i64 (-(q : Int)), w) := fun w => by rw [pUn_neg, wrap64 (by omega) (by omega)]; congr 3; omega
    obtain ⟨s, hs⟩ : ∃ s : Int, s = -(q : Int) := ⟨_, rfl⟩
    rw [← hs] at hneg ⊢
    have hw : IntKind.i64.wrap (s - 1) = s - 1 := wrap64 (by omega) (by omega)
    try simp (maxDischargeDepth := 8) [↓bindV_some, ↓bindU_some, ↓condE_true, ↓condE_false, ↓pickE_true, ↓pickE_false, ↓pickE_or, ↓pickE_and, ↓grdE_true, ↓grdE_false, ↓grdE_tf, ↓grdE_ft, ↓grdE_undef, ↓nilE_pt, ↓thenK_normal, ↓thenK_exit, ↓thenK_ret, ↓thenK_goto, ↓thenK_panic, ↓blockK_exit, ↓blockK_normal, ↓blockK_ret, ↓blockK_goto, ↓blockK_panic, ↓loopK_normal, ↓loopK_exit, ↓loopK_ret, ↓loopK_goto, ↓loopK_panic, ↓topK_ret, ↓topK_normal, ↓topK_panic, ↓resVs_nil, ↓resVs_tmp, ↓resVs_cell, tup_one, tup_nil, tup_two, put_get, argE_get, ↓takeE_def, ↓heldE_nil, ↓heldE_cons, qNil_pt, qPick_bool, qGrd_bool, qGrd_undef, ↓letK_def, pBox_eq, pBin_add, pBin_sub, pBin_mul, pBin_eql, pBin_neq, pBin_lss, pBin_leq, pBin_gtr, pBin_geq, pUn_not, pUn_neg, eqB, neB, eqS, neS, pExtract0, pExtract1, pExtract2, max_int, min_int, sz_nw, sz_wr, sz_drew, mm_nw, fz_nw, mm_drew, fz_drew, fz_wr, sz_mkS, mm_mkS, fz_mkS, Fr.mkS, mm_wr_same, mm_wr_ne, wr_wr, bs_oneT, splice_full, gt_zero, gt_succ, gt_set, gt_bs, byte_eq0, byte_eq1, byte_n0, byte_n1, Fr.refl, Fr.nw, Fr.wr, Fr.drew, hrem, hp, hquo, hcv, hneg, hw]
  · rw [if_neg hp]
    obtain ⟨q, hq⟩ : ∃ q, q = n / 2 := ⟨_, rfl⟩
    rw [← hq] at hquo hcv ⊢
    have hp2 : n % 2 = 0 := by omega
    try simp (maxDischargeDepth := 8) [↓bindV_some, ↓bindU_some, ↓condE_true, ↓condE_false, ↓pickE_true, ↓pickE_false, ↓pickE_or, ↓pickE_and, ↓grdE_true, ↓grdE_false, ↓grdE_tf, ↓grdE_ft, ↓grdE_undef, ↓nilE_pt, ↓thenK_normal, ↓thenK_exit, ↓thenK_ret, ↓thenK_goto, ↓thenK_panic, ↓blockK_exit, ↓blockK_normal, ↓blockK_ret, ↓blockK_goto, ↓blockK_panic, ↓loopK_normal, ↓loopK_exit, ↓loopK_ret, ↓loopK_goto, ↓loopK_panic, ↓topK_ret, ↓topK_normal, ↓topK_panic, ↓resVs_nil, ↓resVs_tmp, ↓resVs_cell, tup_one, tup_nil, tup_two, put_get, argE_get, ↓takeE_def, ↓heldE_nil, ↓heldE_cons, qNil_pt, qPick_bool, qGrd_bool, qGrd_undef, ↓letK_def, pBox_eq, pBin_add, pBin_sub, pBin_mul, pBin_eql, pBin_neq, pBin_lss, pBin_leq, pBin_gtr, pBin_geq, pUn_not, pUn_neg, eqB, neB, eqS, neS, pExtract0, pExtract1, pExtract2, max_int, min_int, sz_nw, sz_wr, sz_drew, mm_nw, fz_nw, mm_drew, fz_drew, fz_wr, sz_mkS, mm_mkS, fz_mkS, Fr.mkS, mm_wr_same, mm_wr_ne, wr_wr, bs_oneT, splice_full, gt_zero, gt_succ, gt_set, gt_bs, byte_eq0, byte_eq1, byte_n0, byte_n1, Fr.refl, Fr.nw, Fr.wr, Fr.drew, hrem, hp2, hquo, hcv]

def PlI (w : World) (m : Nat) (k : Nat) (j : Nat) (e : Env) (w' : World) : Prop :=
  ∃ s : Int, j ≤ 8 ∧ s = (j : Int) - 1 ∧ mm w' (sz w) = bs (zb j ++ (placeB k).drop j) ∧ fz w' (sz w) = false ∧ w'.ownsRow (sz w) 5 1 (sl (sz w) 0 8 8) 8 (bs (zb j ++ (placeB k).drop j)) ∧ Fr [] w w' ∧
    e 0 = u64 (k / 256 ^ (8 - j)) ∧ e 3 = sl (sz w) 0 8 8 ∧ e 4 = i64 s
theorem placeB_set {k j : Nat} (h : j < 8) : (zb (j + 1) ++ (placeB k).drop (j + 1)).set j (UInt8.ofNat (k / 256 ^ (8 - (j + 1)))) = zb j ++ (placeB k).drop j := by
  have : j = 0 ∨ j = 1 ∨ j = 2 ∨ j = 3 ∨ j = 4 ∨ j = 5 ∨ j = 6 ∨ j = 7 := by omega
  rcases this with rfl | rfl | rfl | rfl | rfl | rfl | rfl | rfl <;> simp [placeB, zb, List.replicate]
theorem own_set {w : World} {base e size : Nat} {b n c : Nat} {xs : List Value} (h : w.ownsRow base e size (sl b 0 n c) n xs) (hnc : n = c) (hpos : 0 < n) {i : Nat} {x : Value} (hi : i < xs.length) : mm w b = xs ∧ fz w b = false ∧ (wr w b (xs.set i x)).ownsRow base e size (sl b 0 n c) n (xs.set i x) := by
  obtain ⟨hl, h | ⟨g, cap, cur, hv, hb, hg, hnc2, hcm, hcs, ht⟩⟩ := h
  · obtain ⟨h, h0⟩ := h; simp at h
  · simp only [Value.slice.injEq, Option.some.injEq, Addr.mk.injEq] at hv
    obtain ⟨⟨rfl, _, _⟩, _, rfl⟩ := hv
    subst hnc
    have hcur : cur.toList = xs := by rw [← ht, List.take_of_length_le (by simp [hcs])]
    have hm : mm w b = xs := by unfold mm; rw [hg]; exact hcur
    refine ⟨hm, by unfold fz; rw [hg]; simp, by simpa using hl, .inr ⟨b, n, (xs.set i x).toArray, rfl, hb, ?_, Nat.le_refl _, hcm, by simp [hl], List.take_of_length_le (by simp [hl])⟩⟩
    rw [heap_wr, if_pos rfl, hg]
    rfl
theorem fplace_spec {w : World} {k : Nat} (hk : k < 2 * H63) : Ret P 80 #[u64 k] w fun v w' => NewB w v (placeB k) w' := by
  refine F80ok ?_
  unfold F80
  have hmk : ∀ w, pMake P 40 (Value.int .i64 8) (Value.int .i64 8) w = some (sl (sz w) 0 8 8, nw w (bs (zb 8)) 5) := fun w => by
    have := pMake_eq (P := P) (t := 40) (w := w) (n := 8) sliceE40 hasZero5 tyOk5 (by rw [zeroL5, cellsOf5]; rfl) (by rw [bytesOf5]; omega) (by omega)
    rw [zeroL5] at this
    exact this
  try simp (maxDischargeDepth := 8) [↓bindV_some, ↓bindU_some, ↓condE_true, ↓condE_false, ↓pickE_true, ↓pickE_false, ↓pickE_or, ↓pickE_and, ↓grdE_true, ↓grdE_false, ↓grdE_tf, ↓grdE_ft, ↓grdE_undef, ↓nilE_pt, ↓thenK_normal, ↓thenK_exit, ↓thenK_ret, ↓thenK_goto, ↓thenK_panic, ↓blockK_exit, ↓blockK_normal, ↓blockK_ret, ↓blockK_goto, ↓blockK_panic, ↓loopK_normal, ↓loopK_exit, ↓loopK_ret, ↓loopK_goto, ↓loopK_panic, ↓topK_ret, ↓topK_normal, ↓topK_panic, ↓resVs_nil, ↓resVs_tmp, ↓resVs_cell, tup_one, tup_nil, tup_two, put_get, argE_get, ↓takeE_def, ↓heldE_nil, ↓heldE_cons, qNil_pt, qPick_bool, qGrd_bool, qGrd_undef, ↓letK_def, pBox_eq, pBin_add, pBin_sub, pBin_mul, pBin_eql, pBin_neq, pBin_lss, pBin_leq, pBin_gtr, pBin_geq, pUn_not, pUn_neg, eqB, neB, eqS, neS, pExtract0, pExtract1, pExtract2, max_int, min_int, sz_nw, sz_wr, sz_drew, mm_nw, fz_nw, mm_drew, fz_drew, fz_wr, sz_mkS, mm_mkS, fz_mkS, Fr.mkS, mm_wr_same, mm_wr_ne, wr_wr, bs_oneT, splice_full, gt_zero, gt_succ, gt_set, gt_bs, byte_eq0, byte_eq1, byte_n0, byte_n1, Fr.refl, Fr.nw, Fr.wr, Fr.drew, hmk]
  have ho : (nw w (bs (zb 8)) 5).ownsRow (sz w) 5 1 (sl (sz w) 0 8 8) 8 (bs (zb 8)) := own_nw (Nat.le_refl _) rfl (by unfold maxLen; omega)
  refine loopE_of (PlI w 8 k) 8 ⟨7, by omega, by omega, by simp [sz_nw, sz_wr, sz_drew, mm_nw, fz_nw, mm_drew, fz_drew, fz_wr, sz_mkS, mm_mkS, fz_mkS, Fr.mkS, mm_wr_same, mm_wr_ne, wr_wr, bs_oneT, splice_full, gt_zero, gt_succ, gt_set, gt_bs, byte_eq0, byte_eq1, byte_n0, byte_n1, Fr.refl, Fr.nw, Fr.wr, Fr.drew, placeB], by simp [sz_nw, sz_wr, sz_drew, mm_nw, fz_nw, mm_drew, fz_drew, fz_wr, sz_mkS, mm_mkS, fz_mkS, Fr.mkS, mm_wr_same, mm_wr_ne, wr_wr, bs_oneT, splice_full, gt_zero, gt_succ, gt_set, gt_bs, byte_eq0, byte_eq1, byte_n0, byte_n1, Fr.refl, Fr.nw, Fr.wr, Fr.drew], by simpa [placeB] using ho, (Fr.refl [] w).nw _ _, by simp [put_get, argE_get], by simp [put_get], by simp [put_get]⟩ ?_
  rintro j e w1 ⟨s, hj, hs, hm, hz, hown, hf, e0, e3, e4⟩
  unfold F80B0
  cases j with
  | zero =>
    have hge : ¬ (0 : Int) ≤ s := by omega
    try simp (maxDischargeDepth := 8) [↓bindV_some, ↓bindU_some, ↓condE_true, ↓condE_false, ↓pickE_true, ↓pickE_false, ↓pickE_or, ↓pickE_and, ↓grdE_true, ↓grdE_false, ↓grdE_tf, ↓grdE_ft, ↓grdE_undef, ↓nilE_pt, ↓thenK_normal, ↓thenK_exit, ↓thenK_ret, ↓thenK_goto, ↓thenK_panic, ↓blockK_exit, ↓blockK_normal, ↓blockK_ret, ↓blockK_goto, ↓blockK_panic, ↓loopK_normal, ↓loopK_exit, ↓loopK_ret, ↓loopK_goto, ↓loopK_panic, ↓topK_ret, ↓topK_normal, ↓topK_panic, ↓resVs_nil, ↓resVs_tmp, ↓resVs_cell, tup_one, tup_nil, tup_two, put_get, argE_get, ↓takeE_def, ↓heldE_nil, ↓heldE_cons, qNil_pt, qPick_bool, qGrd_bool, qGrd_undef, ↓letK_def, pBox_eq, pBin_add, pBin_sub, pBin_mul, pBin_eql, pBin_neq, pBin_lss, pBin_leq, pBin_gtr, pBin_geq, pUn_not, pUn_neg, eqB, neB, eqS, neS, pExtract0, pExtract1, pExtract2, max_int, min_int, sz_nw, sz_wr, sz_drew, mm_nw, fz_nw, mm_drew, fz_drew, fz_wr, sz_mkS, mm_mkS, fz_mkS, Fr.mkS, mm_wr_same, mm_wr_ne, wr_wr, bs_oneT, splice_full, gt_zero, gt_succ, gt_set, gt_bs, byte_eq0, byte_eq1, byte_n0, byte_n1, Fr.refl, Fr.nw, Fr.wr, Fr.drew, e3, e4, hge]
    have e8 : (placeB k).length = 8 := rfl
    have : zb 0 ++ (placeB k).drop 0 = placeB k := rfl
    rw [this] at hown
    exact ⟨hown, hf⟩
  | succ j =>
    have hge : (0 : Int) ≤ s := by omega
    have hs8 : s < 8 := by omega
    have hsn : s.toNat = j := by omega
    obtain ⟨q, hq⟩ : ∃ q, q = k / 256 ^ (8 - (j + 1)) := ⟨_, rfl⟩
    have hqk : q ≤ k := by rw [hq]; exact Nat.div_le_self _ _
    rw [← hq] at e0
    obtain ⟨x, hx⟩ : ∃ x, x = UInt8.ofNat q := ⟨_, rfl⟩
    have hrem : ∀ w, pBin P .rem 25 true (u64 q) (Value.int .u64 256) w = some (u64 (q % 256), w) := fun w => pRemU (k := 256) rfl (by omega)
    have hquo : ∀ w, pBin P .quo 25 true (u64 q) (Value.int .u64 256) w = some (u64 (q / 256), w) := fun w => pQuoU (k := 256) rfl (by omega) (by omega)
    have hcv : ∀ w, pConv P 25 5 (u64 (q % 256)) w = some (bv x, w) := fun w => by
      rw [pConv_int tyOk25 intK5, wrap8_mod, hx]
      have : UInt8.ofNat (q % 256) = UInt8.ofNat q := by
        apply UInt8.toNat_inj.1
        simp [UInt8.toNat_ofNat']
      rw [this]
    have hwr : IntKind.i64.wrap (s - 1) = s - 1 := wrap64 (by omega) (by omega)
    obtain ⟨r, hr⟩ : ∃ r, r = q % 256 := ⟨_, rfl⟩
    rw [← hr] at hrem hcv
    obtain ⟨q2, hq2⟩ : ∃ q2, q2 = q / 256 := ⟨_, rfl⟩
    rw [← hq2] at hquo
    have hl8 : (bs (zb (j + 1) ++ (placeB k).drop (j + 1))).length = 8 := by
      have : (placeB k).length = 8 := rfl
      simp [this]; omega
    obtain ⟨_, _, hown2⟩ := own_set hown rfl (by omega) (i := j) (x := bv x) (by rw [hl8]; omega)
    have hset : (bs (zb (j + 1) ++ (placeB k).drop (j + 1))).set j (bv x) = bs (zb j ++ (placeB k).drop j) := by
      rw [bs_set, hx, hq, placeB_set (by omega)]
    rw [hset] at hown2
    have hj8 : j < 8 := by omega
    have hsidx : ∀ w, pIndexAddr P 40 (sl (sz w1) 0 8 8) (i64 s) w = some (pt (sz w1) j, w) := fun w => by
      have := ia40 (w := w) (b := sz w1) (o := 0) (n := 8) (c := 8) (k := .i64) (j := s) hge (by omega)
      rw [this, hsn]; simp
    have hsidx : ∀ w', pIndexAddr P 40 (sl (sz w) 0 8 8) (i64 s) w' = some (pt (sz w) j, w') := fun w' => by
      have := ia40 (w := w') (b := sz w) (o := 0) (n := 8) (c := 8) (k := .i64) (j := s) hge (by omega)
      rw [this, hsn]; simp
    generalize hL : bs (zb (j + 1) ++ (placeB k).drop (j + 1)) = L at *
    try simp (maxDischargeDepth := 8) [↓bindV_some, ↓bindU_some, ↓condE_true, ↓condE_false, ↓pickE_true, ↓pickE_false, ↓pickE_or, ↓pickE_and, ↓grdE_true, ↓grdE_false, ↓grdE_tf, ↓grdE_ft, ↓grdE_undef, ↓nilE_pt, ↓thenK_normal, ↓thenK_exit, ↓thenK_ret, ↓thenK_goto, ↓thenK_panic, ↓blockK_exit, ↓blockK_normal, ↓blockK_ret, ↓blockK_goto, ↓blockK_panic, ↓loopK_normal, ↓loopK_exit, ↓loopK_ret, ↓loopK_goto, ↓loopK_panic, ↓topK_ret, ↓topK_normal, ↓topK_panic, ↓resVs_nil, ↓resVs_tmp, ↓resVs_cell, tup_one, tup_nil, tup_two, put_get, argE_get, ↓takeE_def, ↓heldE_nil, ↓heldE_cons, qNil_pt, qPick_bool, qGrd_bool, qGrd_undef, ↓letK_def, pBox_eq, pBin_add, pBin_sub, pBin_mul, pBin_eql, pBin_neq, pBin_lss, pBin_leq, pBin_gtr, pBin_geq, pUn_not, pUn_neg, eqB, neB, eqS, neS, pExtract0, pExtract1, pExtract2, max_int, min_int, sz_nw, sz_wr, sz_drew, mm_nw, fz_nw, mm_drew, fz_drew, fz_wr, sz_mkS, mm_mkS, fz_mkS, Fr.mkS, mm_wr_same, mm_wr_ne, wr_wr, bs_oneT, splice_full, gt_zero, gt_succ, gt_set, gt_bs, byte_eq0, byte_eq1, byte_n0, byte_n1, Fr.refl, Fr.nw, Fr.wr, Fr.drew, e0, e3, e4, hge, hrem, hcv, hsidx, hz, hm, hl8, hj8, hset, hquo, hwr]
    refine ⟨j, by omega, s - 1, by omega, by omega, mm_wr_same hz _, by rw [fz_wr, hz], hown2, hf.wr (.inr (Nat.le_refl _)) _, ?_, by simp [put_get, e3], by simp [put_get]⟩
    have e1 : 256 ^ (8 - j) = 256 ^ (8 - (j + 1)) * 256 := by rw [← Nat.pow_succ]; congr 1; omega
    simp only [put_get]
    simp [hq2, hq, e1, Nat.div_div_eq_div_mul]

/-- Is there a number at a place? -/
def isPlace (k : Nat) : Bool := decide (key (backB k) = k)
theorem fnumber_spec {w : World} {k : Nat} (hk : k < 2 * H63) : Ret P 81 #[u64 k] w fun v w' => v = .bool (isPlace k) ∧ Fr [] w w' := by
  refine F81ok ?_
  unfold F81
  have hH : H63 = 9223372036854775808 := rfl
  have hI : INF = 9218868437227405312 := rfl
  have hN : NAN = 9221120237041090561 := rfl
  by_cases hlo : k < 9223372036854775808
  · have c1 : ((9223372036854775808 : Int) ≤ (k : Int)) = False := eq_false (by omega)
    have c2 : (9223372036854775808 ≤ k) = False := eq_false (by omega)
    have hs1 : ∀ w, pBin P .sub 25 true (Value.int .u64 9223372036854775808) (Value.int .u64 1) w = some (u64 9223372036854775807, w) := fun w => pSubU (a := 9223372036854775808) (k := 1) rfl (by omega) (by decide)
    have hs2 : ∀ w, pBin P .sub 25 false (u64 9223372036854775807) (u64 k) w = some (u64 (9223372036854775807 - k), w) := fun w => pSubU (a := 9223372036854775807) rfl (by omega) (by decide)
    obtain ⟨d, hd⟩ : ∃ d, d = 9223372036854775807 - k := ⟨_, rfl⟩
    rw [← hd] at hs2
    have hs1' : ∀ w, pBin P .sub 25 true (Value.int .u64 9223372036854775808) (Value.int .u64 1) w = some (Value.int .u64 9223372036854775807, w) := hs1
    have hs2' : ∀ w, pBin P .sub 25 false (Value.int .u64 9223372036854775807) (u64 k) w = some (u64 d, w) := hs2
    have hle : ∀ w, pBin P .leq 25 false (u64 d) (Value.int .u64 9218868437227405312) w = some (.bool (isPlace k), w) := fun w => by
      rw [pBin_leq]
      congr 3
      unfold isPlace
      rw [decide_eq_decide]
      have hb : backB k = 18446744073709551615 - k := by unfold backB; rw [if_pos (by omega)]
      have hmod : (18446744073709551615 - k) % 9223372036854775808 = d := by omega
      have hn : isN (backB k) = decide (9218868437227405312 < d) := by unfold isN; rw [hb, hI, hH, hmod]
      by_cases hg : 9218868437227405312 < d
      · have h1 : isN (backB k) = true := by rw [hn]; simpa using hg
        have h2 : key (backB k) = NAN + H63 := by unfold key canon; rw [if_pos h1, hN, hH]; decide
        rw [h2]
        constructor
        · intro h; omega
        · intro h; omega
      · have h1 : isN (backB k) = false := by rw [hn]; simpa using hg
        have hc : canon (backB k) = backB k := by unfold canon; rw [if_neg (by rw [h1]; simp)]
        have h2 : key (backB k) = k := by unfold key; rw [hc, hb, if_neg (by omega)]; omega
        constructor
        · intro _; exact h2
        · intro _; omega
    try simp (maxDischargeDepth := 8) [↓bindV_some, ↓bindU_some, ↓condE_true, ↓condE_false, ↓pickE_true, ↓pickE_false, ↓pickE_or, ↓pickE_and, ↓grdE_true, ↓grdE_false, ↓grdE_tf, ↓grdE_ft, ↓grdE_undef, ↓nilE_pt, ↓thenK_normal, ↓thenK_exit, ↓thenK_ret, ↓thenK_goto, ↓thenK_panic, ↓blockK_exit, ↓blockK_normal, ↓blockK_ret, ↓blockK_goto, ↓blockK_panic, ↓loopK_normal, ↓loopK_exit, ↓loopK_ret, ↓loopK_goto, ↓loopK_panic, ↓topK_ret, ↓topK_normal, ↓topK_panic, ↓resVs_nil, ↓resVs_tmp, ↓resVs_cell, tup_one, tup_nil, tup_two, put_get, argE_get, ↓takeE_def, ↓heldE_nil, ↓heldE_cons, qNil_pt, qPick_bool, qGrd_bool, qGrd_undef, ↓letK_def, pBox_eq, pBin_add, pBin_sub, pBin_mul, pBin_eql, pBin_neq, pBin_lss, pBin_leq, pBin_gtr, pBin_geq, pUn_not, pUn_neg, eqB, neB, eqS, neS, pExtract0, pExtract1, pExtract2, max_int, min_int, sz_nw, sz_wr, sz_drew, mm_nw, fz_nw, mm_drew, fz_drew, fz_wr, sz_mkS, mm_mkS, fz_mkS, Fr.mkS, mm_wr_same, mm_wr_ne, wr_wr, bs_oneT, splice_full, gt_zero, gt_succ, gt_set, gt_bs, byte_eq0, byte_eq1, byte_n0, byte_n1, Fr.refl, Fr.nw, Fr.wr, Fr.drew, c1, c2, hs1', hs2', hle]
  · have c1 : ((9223372036854775808 : Int) ≤ (k : Int)) = True := eq_true (by omega)
    have c2 : (9223372036854775808 ≤ k) = True := eq_true (by omega)
    obtain ⟨d, hd⟩ : ∃ d, d = k - 9223372036854775808 := ⟨_, rfl⟩
    have hs2 : ∀ w, pBin P .sub 25 false (u64 k) (Value.int .u64 9223372036854775808) w = some (u64 d, w) := fun w => by
      rw [hd]; exact pSubU (k := 9223372036854775808) rfl (by omega) hk
    have had : ∀ w, pBin P .add 25 true (Value.int .u64 9218868437227405312) (Value.int .u64 2251799813685249) w = some (Value.int .u64 9221120237041090561, w) := fun w => pAddU (a := 9218868437227405312) (k := 2251799813685249) rfl (by decide)
    have hb : backB k = d := by unfold backB; rw [if_neg (by omega), hH]; omega
    have hmod : d % 9223372036854775808 = d := by omega
    have hn : isN (backB k) = decide (9218868437227405312 < d) := by unfold isN; rw [hb, hI, hH, hmod]
    by_cases hg : 9218868437227405312 < d
    · have h1 : isN (backB k) = true := by rw [hn]; simpa using hg
      have h2 : key (backB k) = NAN + H63 := by unfold key canon; rw [if_pos h1, hN, hH]; decide
      have c3 : ((d : Int) ≤ 9218868437227405312) = False := eq_false (by omega)
      have c4 : (d ≤ 9218868437227405312) = False := eq_false (by omega)
      by_cases he : d = 9221120237041090561
      · have hp : isPlace k = true := by unfold isPlace; rw [h2, hN, hH]; simp; omega
        subst he
        try simp (maxDischargeDepth := 8) [↓bindV_some, ↓bindU_some, ↓condE_true, ↓condE_false, ↓pickE_true, ↓pickE_false, ↓pickE_or, ↓pickE_and, ↓grdE_true, ↓grdE_false, ↓grdE_tf, ↓grdE_ft, ↓grdE_undef, ↓nilE_pt, ↓thenK_normal, ↓thenK_exit, ↓thenK_ret, ↓thenK_goto, ↓thenK_panic, ↓blockK_exit, ↓blockK_normal, ↓blockK_ret, ↓blockK_goto, ↓blockK_panic, ↓loopK_normal, ↓loopK_exit, ↓loopK_ret, ↓loopK_goto, ↓loopK_panic, ↓topK_ret, ↓topK_normal, ↓topK_panic, ↓resVs_nil, ↓resVs_tmp, ↓resVs_cell, tup_one, tup_nil, tup_two, put_get, argE_get, ↓takeE_def, ↓heldE_nil, ↓heldE_cons, qNil_pt, qPick_bool, qGrd_bool, qGrd_undef, ↓letK_def, pBox_eq, pBin_add, pBin_sub, pBin_mul, pBin_eql, pBin_neq, pBin_lss, pBin_leq, pBin_gtr, pBin_geq, pUn_not, pUn_neg, eqB, neB, eqS, neS, pExtract0, pExtract1, pExtract2, max_int, min_int, sz_nw, sz_wr, sz_drew, mm_nw, fz_nw, mm_drew, fz_drew, fz_wr, sz_mkS, mm_mkS, fz_mkS, Fr.mkS, mm_wr_same, mm_wr_ne, wr_wr, bs_oneT, splice_full, gt_zero, gt_succ, gt_set, gt_bs, byte_eq0, byte_eq1, byte_n0, byte_n1, Fr.refl, Fr.nw, Fr.wr, Fr.drew, c1, c2, hs2, had, c3, c4, hp]
      · have hp : isPlace k = false := by unfold isPlace; rw [h2, hN, hH]; simp; omega
        have c5 : ((d : Int) = 9221120237041090561) = False := eq_false (by omega)
        try simp (maxDischargeDepth := 8) [↓bindV_some, ↓bindU_some, ↓condE_true, ↓condE_false, ↓pickE_true, ↓pickE_false, ↓pickE_or, ↓pickE_and, ↓grdE_true, ↓grdE_false, ↓grdE_tf, ↓grdE_ft, ↓grdE_undef, ↓nilE_pt, ↓thenK_normal, ↓thenK_exit, ↓thenK_ret, ↓thenK_goto, ↓thenK_panic, ↓blockK_exit, ↓blockK_normal, ↓blockK_ret, ↓blockK_goto, ↓blockK_panic, ↓loopK_normal, ↓loopK_exit, ↓loopK_ret, ↓loopK_goto, ↓loopK_panic, ↓topK_ret, ↓topK_normal, ↓topK_panic, ↓resVs_nil, ↓resVs_tmp, ↓resVs_cell, tup_one, tup_nil, tup_two, put_get, argE_get, ↓takeE_def, ↓heldE_nil, ↓heldE_cons, qNil_pt, qPick_bool, qGrd_bool, qGrd_undef, ↓letK_def, pBox_eq, pBin_add, pBin_sub, pBin_mul, pBin_eql, pBin_neq, pBin_lss, pBin_leq, pBin_gtr, pBin_geq, pUn_not, pUn_neg, eqB, neB, eqS, neS, pExtract0, pExtract1, pExtract2, max_int, min_int, sz_nw, sz_wr, sz_drew, mm_nw, fz_nw, mm_drew, fz_drew, fz_wr, sz_mkS, mm_mkS, fz_mkS, Fr.mkS, mm_wr_same, mm_wr_ne, wr_wr, bs_oneT, splice_full, gt_zero, gt_succ, gt_set, gt_bs, byte_eq0, byte_eq1, byte_n0, byte_n1, Fr.refl, Fr.nw, Fr.wr, Fr.drew, c1, c2, hs2, had, c3, c4, c5, he, hp]
    · have h1 : isN (backB k) = false := by rw [hn]; simpa using hg
      have hc : canon (backB k) = backB k := by unfold canon; rw [if_neg (by rw [h1]; simp)]
      have h2 : key (backB k) = k := by unfold key; rw [hc, hb, if_pos (by omega), hH]; omega
      have hp : isPlace k = true := by unfold isPlace; rw [h2]; simp
      have c3 : ((d : Int) ≤ 9218868437227405312) = True := eq_true (by omega)
      have c4 : (d ≤ 9218868437227405312) = True := eq_true (by omega)
      try simp (maxDischargeDepth := 8) [↓bindV_some, ↓bindU_some, ↓condE_true, ↓condE_false, ↓pickE_true, ↓pickE_false, ↓pickE_or, ↓pickE_and, ↓grdE_true, ↓grdE_false, ↓grdE_tf, ↓grdE_ft, ↓grdE_undef, ↓nilE_pt, ↓thenK_normal, ↓thenK_exit, ↓thenK_ret, ↓thenK_goto, ↓thenK_panic, ↓blockK_exit, ↓blockK_normal, ↓blockK_ret, ↓blockK_goto, ↓blockK_panic, ↓loopK_normal, ↓loopK_exit, ↓loopK_ret, ↓loopK_goto, ↓loopK_panic, ↓topK_ret, ↓topK_normal, ↓topK_panic, ↓resVs_nil, ↓resVs_tmp, ↓resVs_cell, tup_one, tup_nil, tup_two, put_get, argE_get, ↓takeE_def, ↓heldE_nil, ↓heldE_cons, qNil_pt, qPick_bool, qGrd_bool, qGrd_undef, ↓letK_def, pBox_eq, pBin_add, pBin_sub, pBin_mul, pBin_eql, pBin_neq, pBin_lss, pBin_leq, pBin_gtr, pBin_geq, pUn_not, pUn_neg, eqB, neB, eqS, neS, pExtract0, pExtract1, pExtract2, max_int, min_int, sz_nw, sz_wr, sz_drew, mm_nw, fz_nw, mm_drew, fz_drew, fz_wr, sz_mkS, mm_mkS, fz_mkS, Fr.mkS, mm_wr_same, mm_wr_ne, wr_wr, bs_oneT, splice_full, gt_zero, gt_succ, gt_set, gt_bs, byte_eq0, byte_eq1, byte_n0, byte_n1, Fr.refl, Fr.nw, Fr.wr, Fr.drew, c1, c2, hs2, had, c3, c4, hp]

theorem rd_cell {w : World} {v : Value} {B : List UInt8} (h : RdV w v B.length (bs B)) {i : Nat} (hi : i < B.length) : ∃ ab ao ac, v = sl ab ao B.length ac ∧ ao + i < (mm w ab).length ∧ gt (mm w ab) (ao + i) = bv (gb B i) := by
  rcases id h with ⟨_, _, _, h0, _⟩ | ⟨ab, ao, ac, rfl, _⟩
  · omega
  · obtain ⟨h1, h2⟩ := h.cell (j := i) (by simpa using hi)
    exact ⟨ab, ao, ac, rfl, h1, h2.trans (gt_bs hi)⟩

def NuI (w : World) (v : Value) (B : List UInt8) (m : Nat) (e : Env) (w' : World) : Prop :=
  ∃ (i n : Nat), m = B.length - i ∧ i ≤ B.length ∧ i ≤ 9 ∧ n < 128 ^ i ∧ Fr [] w w' ∧ numGo n i (B.drop i) = num B ∧ e 0 = v ∧ e 5 = u64 n ∧ e 6 = u64 (128 ^ i) ∧ e 7 = i64 i

theorem fnum_spec {w : World} {v : Value} {B : List UInt8} (h : RdV w v B.length (bs B)) :
    Ret P 82 #[v] w fun r w' => r = .tuple #[u64 (num B).1, i64 (num B).2.1, i64 (num B).2.2] ∧ Fr [] w w' := by
  refine F82ok ?_
  unfold F82
  obtain ⟨va, vc, hv⟩ := sl_of h
  refine loopE_of (NuI w v B) B.length ⟨0, 0, rfl, by omega, by omega, by omega, Fr.refl _ _, rfl, by simp [put_get, argE_get], by simp [put_get], by simp [put_get], by simp [put_get]⟩ ?_
  rintro m e w1 ⟨i, n, hm, hi, hi9, hn, hf, hnum, e0, e5, e6, e7⟩
  subst hm
  unfold F82B0
  have hlen := h.len
  by_cases hk : i < B.length
  · have hki : (i : Int) < B.length := by omega
    rw [drop_gb hk] at hnum
    obtain ⟨ab, ao, ac, hv2, hc1, hc2⟩ := rd_cell (h.fr0 hf) hk
    subst hv2
    generalize gb B i = x at *
    have hx := x.toNat_lt
    have hwi : IntKind.i64.wrap ((i : Int) + 1) = ((i + 1 : Nat) : Int) := wrap64 (by omega) (by omega)
    obtain ⟨i1, hi1⟩ : ∃ i1 : Int, i1 = ((i + 1 : Nat) : Int) := ⟨_, rfl⟩
    rw [← hi1] at hwi
    have hia : ∀ w', pIndexAddr P 40 (sl ab ao B.length ac) (i64 i) w' = some (pt ab (ao + i), w') := fun w' => by
      have := ia40 (w := w') (b := ab) (o := ao) (n := B.length) (c := ac) (k := .i64) (j := (i : Int)) (by omega) (by omega)
      rw [this]; simp
    by_cases hbad : i = 9 ∧ 1 < x.toNat
    · have hz : numGo n i (x :: B.drop (i + 1)) = (0, 10, 1) := by rw [numGo, if_pos hbad]
      have a1 : ((i : Int) = 9) = True := eq_true (by omega)
      have a1' : (i = 9) = True := eq_true hbad.1
      have a2 : (1 < x.toNat) = True := eq_true hbad.2
      have a3 : ((1 : Int) < x.toNat) = True := eq_true (by omega)
      rw [← hnum, hz]
      try simp (maxDischargeDepth := 8) [↓bindV_some, ↓bindU_some, ↓condE_true, ↓condE_false, ↓pickE_true, ↓pickE_false, ↓pickE_or, ↓pickE_and, ↓grdE_true, ↓grdE_false, ↓grdE_tf, ↓grdE_ft, ↓grdE_undef, ↓nilE_pt, ↓thenK_normal, ↓thenK_exit, ↓thenK_ret, ↓thenK_goto, ↓thenK_panic, ↓blockK_exit, ↓blockK_normal, ↓blockK_ret, ↓blockK_goto, ↓blockK_panic, ↓loopK_normal, ↓loopK_exit, ↓loopK_ret, ↓loopK_goto, ↓loopK_panic, ↓topK_ret, ↓topK_normal, ↓topK_panic, ↓resVs_nil, ↓resVs_tmp, ↓resVs_cell, tup_one, tup_nil, tup_two, put_get, argE_get, ↓takeE_def, ↓heldE_nil, ↓heldE_cons, qNil_pt, qPick_bool, qGrd_bool, qGrd_undef, ↓letK_def, pBox_eq, pBin_add, pBin_sub, pBin_mul, pBin_eql, pBin_neq, pBin_lss, pBin_leq, pBin_gtr, pBin_geq, pUn_not, pUn_neg, eqB, neB, eqS, neS, pExtract0, pExtract1, pExtract2, max_int, min_int, sz_nw, sz_wr, sz_drew, mm_nw, fz_nw, mm_drew, fz_drew, fz_wr, sz_mkS, mm_mkS, fz_mkS, Fr.mkS, mm_wr_same, mm_wr_ne, wr_wr, bs_oneT, splice_full, gt_zero, gt_succ, gt_set, gt_bs, byte_eq0, byte_eq1, byte_n0, byte_n1, Fr.refl, Fr.nw, Fr.wr, Fr.drew, e0, e7, hki, hk, hia, hc1, hc2, a1, a1', a2, a3]
      exact hf
    · have hz0 : numGo n i (x :: B.drop (i + 1)) = if x.toNat < 128 then (if x.toNat = 0 ∧ 0 < i then (0, i + 1, 4) else (n + x.toNat * 128 ^ i, i + 1, 0)) else numGo (n + (x.toNat % 128) * 128 ^ i) (i + 1) (B.drop (i + 1)) := by
        rw [numGo, if_neg hbad]
      have hb9 : 128 ^ i ≤ 128 ^ 9 := Nat.pow_le_pow_right (by omega) hi9
      have hb9' : (128 : Nat) ^ 9 = H63 := by decide
      have hy : x.toNat % 128 * 128 ^ i < 2 * H63 ∧ n + x.toNat % 128 * 128 ^ i < 2 * H63 := by
        by_cases hi9 : i = 9
        · subst hi9
          have hx1 : x.toNat % 128 ≤ 1 := by
            have : ¬ 1 < x.toNat := fun h => hbad ⟨rfl, h⟩
            omega
          have := Nat.mul_le_mul_right (128 ^ 9) hx1
          have hH : 0 < H63 := by decide
          omega
        · have h8 : 128 ^ i ≤ 128 ^ 8 := Nat.pow_le_pow_right (by omega) (by omega)
          have h1 : x.toNat % 128 * 128 ^ i ≤ 127 * 128 ^ 8 := Nat.mul_le_mul (by omega) h8
          have h2 : 127 * 128 ^ 8 + 128 ^ 8 < 2 * H63 := by decide
          omega
      have hrem : ∀ w, pBin P .rem 5 true (bv x) (Value.int .u8 128) w = some (.int .u8 (x.toNat % 128 : Nat), w) := fun w => by rw [pBin_rem (by omega)]; congr 3
      have hcv : ∀ w, pConv P 5 25 (.int .u8 (x.toNat % 128 : Nat)) w = some (u64 (x.toNat % 128), w) := fun w => by
        rw [pConv_int tyOk5 intK25, wrapu (by unfold H63; omega)]
      have hmu : ∀ w, pBin P .mul 25 false (u64 (x.toNat % 128)) (u64 (128 ^ i)) w = some (u64 (x.toNat % 128 * 128 ^ i), w) := fun w => pMulU rfl hy.1
      have had : ∀ w, pBin P .add 25 false (u64 n) (u64 (x.toNat % 128 * 128 ^ i)) w = some (u64 (n + x.toNat % 128 * 128 ^ i), w) := fun w => pAddU rfl hy.2
      obtain ⟨wt, hwt⟩ : ∃ wt : Int, wt = IntKind.u64.wrap (((128 ^ i : Nat) : Int) * 128) := ⟨_, rfl⟩
      have hmw : ∀ w, pBin P .mul 25 true (u64 (128 ^ i)) (Value.int .u64 128) w = some (.int .u64 wt, w) := fun w => by rw [pBin_mul, hwt]
      have hwt2 : i < 9 → wt = ((128 ^ (i + 1) : Nat) : Int) := fun h9 => by
        have h8 : 128 ^ (i + 1) ≤ 128 ^ 9 := Nat.pow_le_pow_right (by omega) (by omega)
        have e1 : ((128 ^ i : Nat) : Int) * 128 = ((128 ^ (i + 1) : Nat) : Int) := by rw [Nat.pow_succ]; push_cast; rfl
        rw [hwt, e1, wrapu (by omega)]
      obtain ⟨n', hn'⟩ : ∃ n', n' = n + (x.toNat % 128) * 128 ^ i := ⟨_, rfl⟩
      rw [← hn'] at had hz0
      generalize x.toNat % 128 * 128 ^ i = y at hmu had
      generalize hp : 128 ^ i = p at *
      obtain ⟨r, hr⟩ : ∃ r, r = x.toNat % 128 := ⟨_, rfl⟩
      have hrr := hr
      rw [← hr] at hrem hcv hmu
      have A : (((i : Int) = 9) = True ∧ (i = 9) = True ∧ (1 < x.toNat) = False ∧ ((1 : Int) < x.toNat) = False) ∨ (((i : Int) = 9) = False ∧ (i = 9) = False ∧ (i = i) ∧ (i = i)) := by
        by_cases h9 : i = 9
        · have h1 : ¬ 1 < x.toNat := fun h => hbad ⟨h9, h⟩
          exact .inl ⟨eq_true (by omega), eq_true h9, eq_false h1, eq_false (by omega)⟩
        · exact .inr ⟨eq_false (by omega), eq_false h9, rfl, rfl⟩
      rcases A with ⟨a1, a2, a3, a4⟩ | ⟨a1, a2, a3, a4⟩
      all_goals
        by_cases hx128 : x.toNat < 128
        · have b1 : ((x.toNat : Int) < 128) = True := eq_true (by omega)
          have b2 : (x.toNat < 128) = True := eq_true hx128
          rw [if_pos hx128] at hz0
          by_cases hzero : x.toNat = 0 ∧ 0 < i
          · rw [if_pos hzero] at hz0
            have c1 : (x = 0) = True := eq_true (UInt8.toNat_inj.1 (by rw [hzero.1]; rfl))
            have c2 : ((0 : Int) < i) = True := eq_true (by omega)
            have c3 : (0 < i) = True := eq_true (by omega)
            rw [← hnum, hz0]
            try simp (maxDischargeDepth := 8) [↓bindV_some, ↓bindU_some, ↓condE_true, ↓condE_false, ↓pickE_true, ↓pickE_false, ↓pickE_or, ↓pickE_and, ↓grdE_true, ↓grdE_false, ↓grdE_tf, ↓grdE_ft, ↓grdE_undef, ↓nilE_pt, ↓thenK_normal, ↓thenK_exit, ↓thenK_ret, ↓thenK_goto, ↓thenK_panic, ↓blockK_exit, ↓blockK_normal, ↓blockK_ret, ↓blockK_goto, ↓blockK_panic, ↓loopK_normal, ↓loopK_exit, ↓loopK_ret, ↓loopK_goto, ↓loopK_panic, ↓topK_ret, ↓topK_normal, ↓topK_panic, ↓resVs_nil, ↓resVs_tmp, ↓resVs_cell, tup_one, tup_nil, tup_two, put_get, argE_get, ↓takeE_def, ↓heldE_nil, ↓heldE_cons, qNil_pt, qPick_bool, qGrd_bool, qGrd_undef, ↓letK_def, pBox_eq, pBin_add, pBin_sub, pBin_mul, pBin_eql, pBin_neq, pBin_lss, pBin_leq, pBin_gtr, pBin_geq, pUn_not, pUn_neg, eqB, neB, eqS, neS, pExtract0, pExtract1, pExtract2, max_int, min_int, sz_nw, sz_wr, sz_drew, mm_nw, fz_nw, mm_drew, fz_drew, fz_wr, sz_mkS, mm_mkS, fz_mkS, Fr.mkS, mm_wr_same, mm_wr_ne, wr_wr, bs_oneT, splice_full, gt_zero, gt_succ, gt_set, gt_bs, byte_eq0, byte_eq1, byte_n0, byte_n1, Fr.refl, Fr.nw, Fr.wr, Fr.drew, e0, e5, e6, e7, hki, hk, hia, hc1, hc2, a1, a2, a3, a4, b1, b2, c1, c2, c3, hrem, hcv, hmu, had, hmw, hwi]
            exact ⟨by omega, hf⟩
          · rw [if_neg hzero] at hz0
            have hn2 : n + x.toNat * p = n' := by rw [hn', Nat.mod_eq_of_lt hx128]
            rw [hn2] at hz0
            rw [← hnum, hz0]
            by_cases hx0 : x = 0
            · have c1 : (x = 0) = True := eq_true hx0
              have hi0 : i = 0 := by
                rcases Nat.eq_zero_or_pos i with h | h
                · exact h
                · exact absurd ⟨by rw [hx0]; rfl, h⟩ hzero
              have c2 : ((0 : Int) < i) = False := eq_false (by omega)
              have c3 : (0 < i) = False := eq_false (by omega)
              try simp (maxDischargeDepth := 8) [↓bindV_some, ↓bindU_some, ↓condE_true, ↓condE_false, ↓pickE_true, ↓pickE_false, ↓pickE_or, ↓pickE_and, ↓grdE_true, ↓grdE_false, ↓grdE_tf, ↓grdE_ft, ↓grdE_undef, ↓nilE_pt, ↓thenK_normal, ↓thenK_exit, ↓thenK_ret, ↓thenK_goto, ↓thenK_panic, ↓blockK_exit, ↓blockK_normal, ↓blockK_ret, ↓blockK_goto, ↓blockK_panic, ↓loopK_normal, ↓loopK_exit, ↓loopK_ret, ↓loopK_goto, ↓loopK_panic, ↓topK_ret, ↓topK_normal, ↓topK_panic, ↓resVs_nil, ↓resVs_tmp, ↓resVs_cell, tup_one, tup_nil, tup_two, put_get, argE_get, ↓takeE_def, ↓heldE_nil, ↓heldE_cons, qNil_pt, qPick_bool, qGrd_bool, qGrd_undef, ↓letK_def, pBox_eq, pBin_add, pBin_sub, pBin_mul, pBin_eql, pBin_neq, pBin_lss, pBin_leq, pBin_gtr, pBin_geq, pUn_not, pUn_neg, eqB, neB, eqS, neS, pExtract0, pExtract1, pExtract2, max_int, min_int, sz_nw, sz_wr, sz_drew, mm_nw, fz_nw, mm_drew, fz_drew, fz_wr, sz_mkS, mm_mkS, fz_mkS, Fr.mkS, mm_wr_same, mm_wr_ne, wr_wr, bs_oneT, splice_full, gt_zero, gt_succ, gt_set, gt_bs, byte_eq0, byte_eq1, byte_n0, byte_n1, Fr.refl, Fr.nw, Fr.wr, Fr.drew, e0, e5, e6, e7, hki, hk, hia, hc1, hc2, a1, a2, a3, a4, b1, b2, c1, c2, c3, hrem, hcv, hmu, had, hmw, hwi]
              exact ⟨by omega, hf⟩
            · have c1 : (x = 0) = False := eq_false hx0
              try simp (maxDischargeDepth := 8) [↓bindV_some, ↓bindU_some, ↓condE_true, ↓condE_false, ↓pickE_true, ↓pickE_false, ↓pickE_or, ↓pickE_and, ↓grdE_true, ↓grdE_false, ↓grdE_tf, ↓grdE_ft, ↓grdE_undef, ↓nilE_pt, ↓thenK_normal, ↓thenK_exit, ↓thenK_ret, ↓thenK_goto, ↓thenK_panic, ↓blockK_exit, ↓blockK_normal, ↓blockK_ret, ↓blockK_goto, ↓blockK_panic, ↓loopK_normal, ↓loopK_exit, ↓loopK_ret, ↓loopK_goto, ↓loopK_panic, ↓topK_ret, ↓topK_normal, ↓topK_panic, ↓resVs_nil, ↓resVs_tmp, ↓resVs_cell, tup_one, tup_nil, tup_two, put_get, argE_get, ↓takeE_def, ↓heldE_nil, ↓heldE_cons, qNil_pt, qPick_bool, qGrd_bool, qGrd_undef, ↓letK_def, pBox_eq, pBin_add, pBin_sub, pBin_mul, pBin_eql, pBin_neq, pBin_lss, pBin_leq, pBin_gtr, pBin_geq, pUn_not, pUn_neg, eqB, neB, eqS, neS, pExtract0, pExtract1, pExtract2, max_int, min_int, sz_nw, sz_wr, sz_drew, mm_nw, fz_nw, mm_drew, fz_drew, fz_wr, sz_mkS, mm_mkS, fz_mkS, Fr.mkS, mm_wr_same, mm_wr_ne, wr_wr, bs_oneT, splice_full, gt_zero, gt_succ, gt_set, gt_bs, byte_eq0, byte_eq1, byte_n0, byte_n1, Fr.refl, Fr.nw, Fr.wr, Fr.drew, e0, e5, e6, e7, hki, hk, hia, hc1, hc2, a1, a2, a3, a4, b1, b2, c1, hrem, hcv, hmu, had, hmw, hwi]
              exact ⟨by omega, hf⟩
        · have b1 : ((x.toNat : Int) < 128) = False := eq_false (by omega)
          have b2 : (x.toNat < 128) = False := eq_false hx128
          rw [if_neg hx128] at hz0
          have hi8 : i < 9 := by
            rcases Nat.lt_or_ge i 9 with h | h
            · exact h
            · exact absurd ⟨by omega, by omega⟩ hbad
          have hn2 : n' < 128 ^ (i + 1) := by
            have h1 : x.toNat % 128 * p ≤ 127 * p := Nat.mul_le_mul_right _ (by omega)
            have h2 : 128 ^ (i + 1) = 128 * p := by rw [Nat.pow_succ, Nat.mul_comm, hp]
            omega
          try simp (maxDischargeDepth := 8) [↓bindV_some, ↓bindU_some, ↓condE_true, ↓condE_false, ↓pickE_true, ↓pickE_false, ↓pickE_or, ↓pickE_and, ↓grdE_true, ↓grdE_false, ↓grdE_tf, ↓grdE_ft, ↓grdE_undef, ↓nilE_pt, ↓thenK_normal, ↓thenK_exit, ↓thenK_ret, ↓thenK_goto, ↓thenK_panic, ↓blockK_exit, ↓blockK_normal, ↓blockK_ret, ↓blockK_goto, ↓blockK_panic, ↓loopK_normal, ↓loopK_exit, ↓loopK_ret, ↓loopK_goto, ↓loopK_panic, ↓topK_ret, ↓topK_normal, ↓topK_panic, ↓resVs_nil, ↓resVs_tmp, ↓resVs_cell, tup_one, tup_nil, tup_two, put_get, argE_get, ↓takeE_def, ↓heldE_nil, ↓heldE_cons, qNil_pt, qPick_bool, qGrd_bool, qGrd_undef, ↓letK_def, pBox_eq, pBin_add, pBin_sub, pBin_mul, pBin_eql, pBin_neq, pBin_lss, pBin_leq, pBin_gtr, pBin_geq, pUn_not, pUn_neg, eqB, neB, eqS, neS, pExtract0, pExtract1, pExtract2, max_int, min_int, sz_nw, sz_wr, sz_drew, mm_nw, fz_nw, mm_drew, fz_drew, fz_wr, sz_mkS, mm_mkS, fz_mkS, Fr.mkS, mm_wr_same, mm_wr_ne, wr_wr, bs_oneT, splice_full, gt_zero, gt_succ, gt_set, gt_bs, byte_eq0, byte_eq1, byte_n0, byte_n1, Fr.refl, Fr.nw, Fr.wr, Fr.drew, e0, e5, e6, e7, hki, hk, hia, hc1, hc2, a1, a2, a3, a4, b1, b2, hrem, hcv, hmu, had, hmw, hwi]
          refine ⟨B.length - (i + 1), by omega, i + 1, n', rfl, by omega, by omega, hn2, hf, ?_, by simp [put_get, e0], by simp [put_get], by simp [put_get, hwt2 hi8], by simp [put_get, hi1]⟩
          rw [← hnum, hz0]
  · have hki : ¬ (i : Int) < B.length := by omega
    have hie : i = B.length := by omega
    rw [List.drop_eq_nil_of_le (by omega)] at hnum
    simp only [numGo] at hnum
    rw [← hnum]
    subst hv
    try simp (maxDischargeDepth := 8) [↓bindV_some, ↓bindU_some, ↓condE_true, ↓condE_false, ↓pickE_true, ↓pickE_false, ↓pickE_or, ↓pickE_and, ↓grdE_true, ↓grdE_false, ↓grdE_tf, ↓grdE_ft, ↓grdE_undef, ↓nilE_pt, ↓thenK_normal, ↓thenK_exit, ↓thenK_ret, ↓thenK_goto, ↓thenK_panic, ↓blockK_exit, ↓blockK_normal, ↓blockK_ret, ↓blockK_goto, ↓blockK_panic, ↓loopK_normal, ↓loopK_exit, ↓loopK_ret, ↓loopK_goto, ↓loopK_panic, ↓topK_ret, ↓topK_normal, ↓topK_panic, ↓resVs_nil, ↓resVs_tmp, ↓resVs_cell, tup_one, tup_nil, tup_two, put_get, argE_get, ↓takeE_def, ↓heldE_nil, ↓heldE_cons, qNil_pt, qPick_bool, qGrd_bool, qGrd_undef, ↓letK_def, pBox_eq, pBin_add, pBin_sub, pBin_mul, pBin_eql, pBin_neq, pBin_lss, pBin_leq, pBin_gtr, pBin_geq, pUn_not, pUn_neg, eqB, neB, eqS, neS, pExtract0, pExtract1, pExtract2, max_int, min_int, sz_nw, sz_wr, sz_drew, mm_nw, fz_nw, mm_drew, fz_drew, fz_wr, sz_mkS, mm_mkS, fz_mkS, Fr.mkS, mm_wr_same, mm_wr_ne, wr_wr, bs_oneT, splice_full, gt_zero, gt_succ, gt_set, gt_bs, byte_eq0, byte_eq1, byte_n0, byte_n1, Fr.refl, Fr.nw, Fr.wr, Fr.drew, e0, e7, hki, hk]
    exact ⟨by omega, hf⟩
end Go.Proofs.Ytfmcplkijjndlaa
