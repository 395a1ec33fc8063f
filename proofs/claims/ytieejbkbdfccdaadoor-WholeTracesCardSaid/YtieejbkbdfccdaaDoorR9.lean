/- A record's bytes; the record that is all zero; sizes that are looked at. -/
import Derived.Test.YtieejbkbdfccdaaDoorSim
import Derived.Test.YtieejbkbdfccdaaDoorR8
set_option linter.unusedVariables false
set_option linter.unusedSimpArgs false
namespace Go.Proofs.YtieejbkbdfccdaaDoor
open Go

theorem recP_ok {r : RecP} (hk : RecOk r) (ho : okR r) : okPL (recP r) ∧ (recP r).length ≤ 67 := by
  have hn := names_le hk ho
  have hkn : r.kind.toNat < 2 * H63 := by have := hk.k9; unfold H63; omega
  have hlen := items_lenPL r.kind r.list
  unfold recP
  by_cases h1 : r.kind = 1
  · rw [if_pos h1]; exact ⟨okPL_app (ok_uP hkn) (ok_sP (hk.text h1)), by simp⟩
  rw [if_neg h1]
  by_cases h4 : r.kind = 4
  · rw [if_pos h4]; exact ⟨okPL_app (ok_uP hkn) (okPL_app (L := [iP r.low]) (ok_iP ho.2.2.1) (okPL_app (L := [iP r.high]) (ok_iP ho.2.2.2.1) (ok_iP ho.2.1))), by simp⟩
  rw [if_neg h4]
  by_cases h2 : r.kind = 2 ∨ r.kind = 3
  · rw [if_pos h2]; exact ⟨okPL_app (ok_uP hkn) (ok_iP ho.2.1), by simp⟩
  rw [if_neg h2]
  by_cases h5 : r.kind = 5 ∨ r.kind = 6 ∨ r.kind = 7
  · rw [if_pos h5]; exact ⟨okPL_app (ok_uP hkn) (ok_fP ho.2.2.2.2.1), by simp⟩
  rw [if_neg h5]
  obtain ⟨q1, q2, q3, q4⟩ := hk.cap (by have := hk.k1; omega)
  have hl : r.list.length ≤ 32 := by omega
  exact ⟨okPL_app (ok_uP hkn) (okPL_app (okPL_app (L := [uP r.cap.toNat]) (ok_uP (by unfold H63; omega)) (ok_uP (by unfold H63; omega))) (items_okPL hn)), by simp only [List.length_append, List.length_cons, List.length_nil]; omega⟩
/-- What a Writer that was made here leaves. -/
theorem More.done {w w1 w2 : World} {b : Nat} {B : List UInt8} {F : List Nat} (h : More w1 b B [b] w2 F) (hf : Fr [] w w1) (hb : sz w ≤ b) : Fr [] w w2 := hf.trans h.fr fun k hk => .inr (by simp at hk; omega)
theorem newW {w : World} : IsW (nw w [Value.slice none 0 0] 69) (sz w) [] [sz w] := by
  refine ⟨.slice none 0 0, by simp [sM], by simp [sM], World.ownsRow_nil _ _ _ _, by simp [Value.ownBlock], by simp, by simp [sM]⟩
def recB (r : RecP) : List UInt8 := if r.kind = 0 then [] else encAll (recP r)
theorem recBytes_spec {w : World} {r : RecP} {a : Option Addr} {c : Nat} (hr : IsRec w (.slice a r.list.length c) r) (hk : r.kind = 0 ∨ RecOk r) :
    Ret P 7 #[.agg (rcV r (.slice a r.list.length c)).toArray] w fun v w' => w'.ownsRow (sz w) 5 1 v (recB r).length (bs (recB r)) ∧ Fr [] w w' := by
  refine F7ok ?_
  unfold F7
  obtain ⟨W, hW⟩ : ∃ W, W = nw w (rcV r (.slice a r.list.length c)) 25 := ⟨_, rfl⟩
  have fW : Fr [] w W := by rw [hW]; exact (Fr.refl [] w).nw _ _
  have hm : mm W (sz w) = rcV r (.slice a r.list.length c) := by rw [hW]; simp [mm_nw]
  have hsW : sz w < sz W := by rw [hW, sz_nw]; omega
  have t8 : ∀ r lv, (rcV r lv).take 8 = rcV r lv := fun _ _ => rfl
  try simp (maxDischargeDepth := 8) [↓sC, sB, sM, rcC, ← hW, hm, t8]
  by_cases h0 : r.kind = 0
  · refine (recCheck_zero h0).call ?_
    rintro _ w1 ⟨rfl, f1⟩
    try simp (maxDischargeDepth := 8) [↓sC, sB, sM]
    have : recB r = [] := by simp [recB, h0]
    rw [this]
    exact ⟨World.ownsRow_nil _ _ _ _, fW.trans0 f1⟩
  have hok : RecOk r := hk.resolve_left h0
  refine (recCheck_spec (hr.fr0 fW) hok).call ?_
  rintro _ w1 ⟨rfl, f1⟩
  have hm1 : mm w1 (sz w) = rcV r (.slice a r.list.length c) := by rw [f1.mm hsW (by simp), hm]
  have hs1 := f1.lt hsW
  have n1 : ¬ sz w = sz w1 := by omega
  have hB : recB r = encAll (recP r) := by simp [recB, h0]
  obtain ⟨ok1, ok2⟩ := recP_ok hok hr.2
  have hlen := encAll_len ok1
  try simp (maxDischargeDepth := 8) [↓sC, sB, sM, hm1, t8, n1]
  have g1 := fW.trans0 f1
  refine (put_spec (w0 := w1) (hr.fr0 g1) ⟨(Fr.refl [] w1).nw _ _, by simp⟩ newW hok (by simp)).call ?_
  rintro _ w2 ⟨rfl, F2, hM⟩
  rw [List.nil_append, ← hB] at hM
  rw [← hB] at hlen
  try simp (maxDischargeDepth := 8) [↓sC, sB, sM]
  refine (wBytes_spec hM.is (by omega)).call ?_
  rintro v w3 ⟨hown, f3⟩
  try simp (maxDischargeDepth := 8) [↓sC, sB, sM]
  have g2 : Fr [] w w2 := hM.done (g1.nw _ _) (by have := g1.size; omega)
  exact ⟨own_base hown g2.size, g2.trans0 f3⟩

def rz : RecP := ⟨0, 0, 0, 0, 0, 0, [], []⟩
theorem okR_rz : okR rz := by refine ⟨?_, ?_, ?_, ?_, ?_, ?_, ?_⟩ <;> simp [rz, in64, H63]
theorem bf25_zero {w : World} : pBuild P 25 [] w = some (.agg (rcV rz (.slice none 0 0)).toArray, w) := by
  rw [bf25 (by simp)]; rfl
theorem isRec_rz {w : World} : IsRec w (.slice none 0 0) rz := ⟨.inl ⟨none, 0, rfl, rfl, rfl⟩, okR_rz⟩
def zeroR (r : RecP) : Prop := r.kind = 0 ∧ r.num = 0 ∧ r.low = 0 ∧ r.high = 0 ∧ r.cap = 0 ∧ r.text = [] ∧ key r.real = key 0 ∧ r.list = []
theorem zeroR_same {r : RecP} (h : zeroR r) : sameR r rz := by
  obtain ⟨h1, h2, h3, h4, h5, h6, h7, h8⟩ := h
  exact ⟨h1, h2, h3, h4, h7, h5, h6, by rw [h8]; rfl⟩
theorem refZero_spec {w : World} {r : RecP} {a : Option Addr} {c : Nat} (hr : IsRec w (.slice a r.list.length c) r) :
    Ret P 14 #[.agg (rcV r (.slice a r.list.length c)).toArray, .agg (rcV rz (.slice none 0 0)).toArray] w fun v w' => ∃ b, v = .bool b ∧ (b = true → zeroR r) ∧ Fr [] w w' := by
  refine F14ok ?_
  unfold F14
  obtain ⟨W, hW⟩ : ∃ W, W = nw (nw w (rcV r (.slice a r.list.length c)) 25) (rcV rz (.slice none 0 0)) 25 := ⟨_, rfl⟩
  have fW : Fr [] w W := by rw [hW]; exact ((Fr.refl [] w).nw _ _).nw _ _
  have hs : sz W = sz w + 2 := by rw [hW]; simp [sz_nw]
  have m1 : mm W (sz w) = rcV r (.slice a r.list.length c) := by rw [hW]; simp [mm_nw, sz_nw]
  have m2 : mm W (sz w + 1) = rcV rz (.slice none 0 0) := by rw [hW]; simp [mm_nw, sz_nw]
  have z0 : rz.kind = 0 := rfl
  have z1 : rz.num = 0 := rfl
  have z2 : rz.low = 0 := rfl
  have z3 : rz.high = 0 := rfl
  have z4 : rz.real = 0 := rfl
  have z5 : rz.cap = 0 := rfl
  have z6 : rz.text = [] := rfl
  have hne : ∀ l m w, pBin P .neq 9 false (strB l) (strB m) w = some (.bool (decide (l ≠ m)), w) := fun l m w => ne_strB
  try simp (maxDischargeDepth := 8) [↓sC, sB, sM, rcC, ← hW]
  rcases (Decidable.em (r.kind = 0)).symm with c0 | c0
  · try simp (maxDischargeDepth := 8) [↓sC, sB, sM, m1, m2, z0, z1, z2, z3, z5, z6, hne, c0]
    exact fW
  rcases (Decidable.em (r.num = 0)).symm with c1 | c1
  · try simp (maxDischargeDepth := 8) [↓sC, sB, sM, m1, m2, z0, z1, z2, z3, z5, z6, hne, c0, c1]
    exact fW
  rcases (Decidable.em (r.low = 0)).symm with c2 | c2
  · try simp (maxDischargeDepth := 8) [↓sC, sB, sM, m1, m2, z0, z1, z2, z3, z5, z6, hne, c0, c1, c2]
    exact fW
  rcases (Decidable.em (r.high = 0)).symm with c3 | c3
  · try simp (maxDischargeDepth := 8) [↓sC, sB, sM, m1, m2, z0, z1, z2, z3, z5, z6, hne, c0, c1, c2, c3]
    exact fW
  rcases (Decidable.em (r.cap = 0)).symm with c4 | c4
  · try simp (maxDischargeDepth := 8) [↓sC, sB, sM, m1, m2, z0, z1, z2, z3, z5, z6, hne, c0, c1, c2, c3, c4]
    exact fW
  rcases (Decidable.em (r.text = [])).symm with c5 | c5
  · try simp (maxDischargeDepth := 8) [↓sC, sB, sM, m1, m2, z0, z1, z2, z3, z5, z6, hne, c0, c1, c2, c3, c4, c5]
    exact fW
  try simp (maxDischargeDepth := 8) [↓sC, sB, sM, m1, m2, z0, z1, z2, z3, z4, z5, z6, hne, c0, c1, c2, c3, c4, c5]
  refine (refSame_spec hr.2.2.2.2.2.1 (b := 0) (by unfold H63; omega)).call ?_
  rintro _ w1 ⟨rfl, f1⟩
  have n1 : mm w1 (sz w) = rcV r (.slice a r.list.length c) := by rw [f1.mm (by omega) (by simp), m1]
  have n2 : mm w1 (sz w + 1) = rcV rz (.slice none 0 0) := by rw [f1.mm (by omega) (by simp), m2]
  have g1 := fW.trans0 f1
  rcases (Decidable.em (key r.real = key 0)).symm with c6 | c6
  · try simp (maxDischargeDepth := 8) [↓sC, sB, sM, c6, n1, n2]
    exact g1
  have hll : ((r.list.length : Int) = 0) = (r.list = []) := by simp
  rcases (Decidable.em (r.list = [])).symm with c7 | c7
  · try simp (maxDischargeDepth := 8) [↓sC, sB, sM, c6, n1, n2, c7]
    exact g1
  try simp (maxDischargeDepth := 8) [↓sC, sB, sM, c6, n1, n2, c7]
  refine loopE_of (fun m e w' => e 2 = pt (sz w) 0 ∧ e 5 = i64 0 ∧ w' = w1) 0 ⟨by simp [put_get], by simp [put_get], rfl⟩ ?_
  rintro m e w2 ⟨e2, e5, rfl⟩
  unfold F14B0
  try simp (maxDischargeDepth := 8) [↓sC, sB, sM, e2, e5, n1, c7]
  exact ⟨⟨c0, c1, c2, c3, c4, c5, c6, c7⟩, g1⟩

/-! ### Sizes that are looked at -/
def BigI (w0 : World) (v : Value) (n : Nat) (m : Nat) (e : Env) (w' : World) : Prop := ∃ j : Nat, m = n - j ∧ j ≤ n ∧ e 16 = v ∧ e 17 = i64 n ∧ e 18 = i64 j ∧ Fr [] w0 w'
theorem bigR_spec {w : World} {r : RecP} {a : Option Addr} {c : Nat} (hr : IsRec w (.slice a r.list.length c) r) :
    Ret P 12 #[.agg (rcV r (.slice a r.list.length c)).toArray] w fun v w' => (v = i64 0 ∨ v = i64 1) ∧ Fr [] w w' := by
  refine F12ok ?_
  unfold F12
  obtain ⟨W, hW⟩ : ∃ W, W = nw w (rcV r (.slice a r.list.length c)) 25 := ⟨_, rfl⟩
  have fW : Fr [] w W := by rw [hW]; exact (Fr.refl [] w).nw _ _
  have hm : mm W (sz w) = rcV r (.slice a r.list.length c) := by rw [hW]; simp [mm_nw]
  have hlen : ∀ l w, pBuiltin P .len #[9] 3 [strB l] w = some (i64 l.length, w) := fun l w => len_strB und9
  try simp (maxDischargeDepth := 8) [↓sC, sB, sM, rcC, ← hW, hm]
  by_cases h1 : (100 : Int) < r.list.length
  · try simp (maxDischargeDepth := 8) [↓sC, sB, sM, h1]
    exact fW
  by_cases h2 : (1000 : Int) < r.text.length
  · try simp (maxDischargeDepth := 8) [↓sC, sB, sM, h1, h2, hm, hlen]
    exact fW
  try simp (maxDischargeDepth := 8) [↓sC, sB, sM, h1, h2, hm, hlen]
  refine loopE_of (BigI W (.slice a r.list.length c) r.list.length) r.list.length ⟨0, by omega, by omega, by simp [put_get], by simp [put_get], by simp [put_get], Fr.refl [] W⟩ ?_
  rintro m e w1 ⟨j, rfl, hj, e16, e17, e18, hf⟩
  unfold F12B0
  by_cases hjl : j < r.list.length
  · obtain ⟨x, hx⟩ : ∃ x, r.list[j]? = some x := ⟨_, List.getElem?_eq_getElem hjl⟩
    obtain ⟨lb, o, c', hv, hb, hin, htk⟩ := flat_at ((hr.fr0 fW).fr0 hf).1 (itemV_len r.list) (by omega) hx
    rw [hv] at e16
    have hji : (j : Int) < r.list.length := by omega
    have hwj : IntKind.i64.wrap ((j : Int) + 1) = ((j + 1 : Nat) : Int) := wrap64 (by omega) (by omega)
    have hs2 : ∀ l : List Value, l.length = 2 → splice l 0 (itemV x) = itemV x := fun l hl => splice_full (by rw [hl]; rfl)
    obtain ⟨W2, hW2⟩ : ∃ W2, W2 = wr (nw w1 [Value.float FloatKind.f64 0, Value.string ByteArray.empty] 80) (sz w1) (itemV x) := ⟨_, rfl⟩
    have fW2 : Fr [] w1 W2 := by rw [hW2]; exact ((Fr.refl [] w1).nw _ _).wr (.inr (Nat.le_refl _)) _
    have hmx : mm W2 (sz w1) = itemV x := by rw [hW2]; exact mm_wr_same (by simp [fz_nw]) _
    by_cases h3 : (100 : Int) < x.name.length
    · try simp (maxDischargeDepth := 8) [↓sC, sB, sM, e16, e17, e18, hji, hjl, hin, htk, hs2, itemV_oneT, hlen, ← hW2, hmx, h3]
      exact (fW.trans0 hf).trans0 fW2
    · try simp (maxDischargeDepth := 8) [↓sC, sB, sM, e16, e17, e18, hji, hjl, hin, htk, hs2, itemV_oneT, hlen, ← hW2, hmx, h3, hwj, -Int.natCast_add]
      exact ⟨r.list.length - (j + 1), by omega, j + 1, rfl, by omega, by simp [put_get, e16, hv], by simp [put_get, e17], by simp [put_get], hf.trans0 fW2⟩
  · have : j = r.list.length := by omega
    subst this
    try simp (maxDischargeDepth := 8) [↓sC, sB, sM, e16, e17, e18]
    exact fW.trans0 hf
end Go.Proofs.YtieejbkbdfccdaaDoor
