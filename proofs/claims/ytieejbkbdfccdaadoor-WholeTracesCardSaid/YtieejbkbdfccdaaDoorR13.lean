/- Acts: bytes, sameness, sizes. -/
import Derived.Test.YtieejbkbdfccdaaDoorSim
import Derived.Test.YtieejbkbdfccdaaDoorR12
set_option linter.unusedVariables false
set_option linter.unusedSimpArgs false
namespace Go.Proofs.YtieejbkbdfccdaaDoor
open Go

theorem actP_ok {a : ActP} (hok : ActOk a) (ho : okA a) (hr : okR a.make) : okPL (actP a) ∧ (actP a).length ≤ 80 := by
  have hkn : a.kind.toNat < 2 * H63 := by have := hok.k21; unfold H63; omega
  have h1 : okPL [uP a.kind.toNat, bP a.must, sP a.key] := okPL_app (L := [uP a.kind.toNat]) (ok_uP hkn) (okPL_app (L := [bP a.must]) ok_bP (ok_sP (by have := hok.key24; omega)))
  have nil : okPL [] := fun p hp => by cases hp
  have h2 : okPL (if (hasF a.kind).contains 110 then [iP a.n] else []) := by split <;> first | exact ok_iP ho.2.1 | exact nil
  have h3 : okPL (if (hasF a.kind).contains 120 then [fP a.x] else []) := by split <;> first | exact ok_fP ho.2.2 | exact nil
  have h4 : okPL (if (hasF a.kind).contains 115 then [sP a.s] else []) := by split <;> first | exact ok_sP (s_le hok) | exact nil
  have l2 : (if (hasF a.kind).contains 110 then [iP a.n] else []).length ≤ 1 := by split <;> simp
  have l3 : (if (hasF a.kind).contains 120 then [fP a.x] else []).length ≤ 1 := by split <;> simp
  have l4 : (if (hasF a.kind).contains 115 then [sP a.s] else []).length ≤ 1 := by split <;> simp
  have h5 : okPL (if (hasF a.kind).contains 109 then recP a.make else []) ∧ (if (hasF a.kind).contains 109 then recP a.make else []).length ≤ 67 := by
    split
    · rename_i hm
      have hk : a.kind = 1 := by
        rcases classes hok.k1 hok.k21 with ⟨_, _, _, qm, _, qb, _⟩ | ⟨_, _, _, qm, _, qb, _⟩ | ⟨_, _, _, qm, _, qb, _⟩ | ⟨_, _, _, qm, _, qb, _⟩ | ⟨_, _, _, qm, _, qb, _⟩ | ⟨_, _, _, qm, _, qb, _⟩ | ⟨_, _, _, qm, _, qb, _⟩ | ⟨_, _, _, qm, _, qb, _⟩
        all_goals first | exact absurd hm (by rw [qm]; decide) | simpa using qb
      exact recP_ok (hok.make1 hk) hr
    · exact ⟨nil, by simp⟩
  rw [actP_eq]
  refine ⟨okPL_app (okPL_app (okPL_app (okPL_app h1 h2) h3) h4) h5.1, ?_⟩
  simp only [List.length_append, List.length_cons, List.length_nil]
  omega
set_option maxHeartbeats 2000000 in
theorem actBytes_spec {w : World} {a : ActP} {la : Option Addr} {c : Nat} (hw : KW w) (ha : IsAct w (.slice la a.make.list.length c) a) (hok : ActOk a) :
    Ret P 6 #[.agg (acV a (.slice la a.make.list.length c)).toArray] w fun v w' => w'.ownsRow (sz w) 5 1 v (encAll (actP a)).length (bs (encAll (actP a))) ∧ Fr [] w w' := by
  refine F6ok ?_
  unfold F6
  obtain ⟨W, hW⟩ : ∃ W, W = nw w (acV a (.slice la a.make.list.length c)) 27 := ⟨_, rfl⟩
  have fW : Fr [] w W := by rw [hW]; exact (Fr.refl [] w).nw _ _
  have hm : mm W (sz w) = acV a (.slice la a.make.list.length c) := by rw [hW]; simp [mm_nw]
  have hsW : sz w < sz W := by rw [hW, sz_nw]; omega
  try simp (maxDischargeDepth := 8) [↓sC, sB, sM, acC, ← hW, hm, a14]
  refine (checkA_spec (hw.fr0 fW) (ha.fr0 fW) hok).call ?_
  rintro _ w1 ⟨rfl, f1⟩
  have hm1 : mm w1 (sz w) = acV a (.slice la a.make.list.length c) := by rw [f1.mm hsW (by simp), hm]
  have hs1 := f1.lt hsW
  have n1 : ¬ sz w = sz w1 := by omega
  obtain ⟨ok1, ok2⟩ := actP_ok hok ha.2 ha.1.2
  have hlen := encAll_len ok1
  have g1 := fW.trans0 f1
  try simp (maxDischargeDepth := 8) [↓sC, sB, sM, hm1, a14, n1]
  refine (writeA_spec (w0 := w1) ((hw.fr0 g1).fr0 ((Fr.refl [] w1).nw _ _)) (ha.fr0 g1) ⟨(Fr.refl [] w1).nw _ _, by simp⟩ newW hok (by simp; have := (hw.fr0 g1).2; omega)).call ?_
  rintro _ w2 ⟨rfl, F2, hM⟩
  try simp (maxDischargeDepth := 8) [↓sC, sB, sM]
  refine (wBytes_spec hM.is (by omega)).call ?_
  rintro v w3 ⟨hown, f3⟩
  try simp (maxDischargeDepth := 8) [↓sC, sB, sM]
  have g2 : Fr [] w w2 := hM.done (g1.nw _ _) (by have := g1.size; omega)
  exact ⟨own_base hown g2.size, g2.trans0 f3⟩

def sameA (a b : ActP) : Prop := a.kind = b.kind ∧ a.key = b.key ∧ a.n = b.n ∧ key a.x = key b.x ∧ a.s = b.s ∧ sameR a.make b.make ∧ a.must = b.must
set_option maxHeartbeats 2000000 in
theorem sameA_spec {w : World} {a b : ActP} {la lb : Option Addr} {c d : Nat} (ha : IsAct w (.slice la a.make.list.length c) a) (hb : IsAct w (.slice lb b.make.list.length d) b) (h : sameA a b) (hl : a.make.list.length ≤ 1000) :
    Ret P 10 #[.agg (acV a (.slice la a.make.list.length c)).toArray, .agg (acV b (.slice lb b.make.list.length d)).toArray] w fun v w' => v = .bool true ∧ Fr [] w w' := by
  refine F10ok ?_
  unfold F10
  obtain ⟨e1, e2, e3, e4, e5, e6, e7⟩ := h
  have he : ∀ l m w, pBin P .eql 9 false (strB l) (strB m) w = some (.bool (decide (l = m)), w) := fun l m w => eq_strB
  obtain ⟨W, hW⟩ : ∃ W, W = nw (nw w (acV a (.slice la a.make.list.length c)) 27) (acV b (.slice lb b.make.list.length d)) 27 := ⟨_, rfl⟩
  have g1 : Fr [] w W := by rw [hW]; exact ((Fr.refl [] w).nw _ _).nw _ _
  have hs : sz W = sz w + 2 := by rw [hW]; simp [sz_nw]
  have m1 : mm W (sz w) = acV a (.slice la a.make.list.length c) := by rw [hW]; simp [mm_nw, sz_nw]
  have n1 : mm W (sz w + 1) = acV b (.slice lb b.make.list.length d) := by rw [hW]; simp [mm_nw, sz_nw]
  try simp (maxDischargeDepth := 8) [↓sC, sB, sM, acC, ← hW, m1, n1, e1, e2, e3, he]
  refine (same_spec ha.2.2.2 hb.2.2.2).call ?_
  rintro _ w2 ⟨rfl, f2⟩
  have m2 : mm w2 (sz w) = acV a (.slice la a.make.list.length c) := by rw [f2.mm (by omega) (by simp), m1]
  have n2 : mm w2 (sz w + 1) = acV b (.slice lb b.make.list.length d) := by rw [f2.mm (by omega) (by simp), n1]
  have s2 := f2.size
  have g2 := g1.trans0 f2
  rw [decide_eq_true e4]
  try simp (maxDischargeDepth := 8) [↓sC, sB, sM, m2, n2, e5, he, am5]
  refine (recSame_spec (ha.1.fr0 g2) (hb.1.fr0 g2) e6 (by omega)).call ?_
  rintro _ w3 ⟨rfl, f3⟩
  have m3 : mm w3 (sz w) = acV a (.slice la a.make.list.length c) := by rw [f3.mm (by omega) (by simp), m2]
  have n3 : mm w3 (sz w + 1) = acV b (.slice lb b.make.list.length d) := by rw [f3.mm (by omega) (by simp), n2]
  try simp (maxDischargeDepth := 8) [↓sC, sB, sM, m3, n3, e7, eqB und4]
  exact g2.trans0 f3
theorem bigA_spec {w : World} {a : ActP} {la : Option Addr} {c : Nat} (ha : IsAct w (.slice la a.make.list.length c) a) :
    Ret P 8 #[.agg (acV a (.slice la a.make.list.length c)).toArray] w fun v w' => (v = i64 0 ∨ v = i64 1) ∧ Fr [] w w' := by
  refine F8ok ?_
  unfold F8
  obtain ⟨W, hW⟩ : ∃ W, W = nw w (acV a (.slice la a.make.list.length c)) 27 := ⟨_, rfl⟩
  have fW : Fr [] w W := by rw [hW]; exact (Fr.refl [] w).nw _ _
  have hm : mm W (sz w) = acV a (.slice la a.make.list.length c) := by rw [hW]; simp [mm_nw]
  have hlen : ∀ l w, pBuiltin P .len #[9] 3 [strB l] w = some (i64 l.length, w) := fun l w => len_strB und9
  try simp (maxDischargeDepth := 8) [↓sC, sB, sM, acC, ← hW, hm, hlen]
  by_cases h1 : (200 : Int) < a.key.length
  · try simp (maxDischargeDepth := 8) [↓sC, sB, sM, h1]
    exact fW
  by_cases h2 : (1000 : Int) < a.s.length
  · try simp (maxDischargeDepth := 8) [↓sC, sB, sM, h1, h2, hm, hlen]
    exact fW
  try simp (maxDischargeDepth := 8) [↓sC, sB, sM, h1, h2, hm, hlen, am5]
  refine (bigR_spec (ha.1.fr0 fW)).call ?_
  rintro v w1 ⟨hv, f1⟩
  rcases hv with rfl | rfl
  · try simp (maxDischargeDepth := 8) [↓sC, sB, sM]
    exact fW.trans0 f1
  · try simp (maxDischargeDepth := 8) [↓sC, sB, sM]
    exact fW.trans0 f1
end Go.Proofs.YtieejbkbdfccdaaDoor
