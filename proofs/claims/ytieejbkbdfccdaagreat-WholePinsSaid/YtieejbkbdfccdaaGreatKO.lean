/- Records as the program checks and writes them. -/
import Derived.Test.YtieejbkbdfccdaaGreatSim
import Derived.Test.YtieejbkbdfccdaaGreatKN
import Derived.Test.YtieejbkbdfccdaaGreatKL
import Derived.Laws.Cover1
import Derived.Test.YtieejbkbdfccdaaGreatKM
set_option linter.unusedVariables false
set_option linter.unusedSimpArgs false
namespace Go.Proofs.YtieejbkbdfccdaaGreat
open Go
theorem ge_strB {t : TypeId} {lit : Bool} {l m : List UInt8} {w : World} : pBin P .geq t lit (strB l) (strB m) w = some (.bool (!Op.bytesLess l m), w) := by
  simp only [pBin, runV, strB, eqGuard_at_string, Sem.run_bind, Sem.run_pure, Result.andThen_ok]
  simp only [binOp, Op.stringOp, ByteArray.toList_eq, Sem.run_pure]
def ItI (w0 : World) (k : Int) (v : Value) (n : Nat) (m : Nat) (e : Env) (w' : World) : Prop :=
  ∃ j : Nat, m = n - j ∧ j ≤ n ∧ e 0 = i64 k ∧ e 1 = v ∧ e 7 = v ∧ e 8 = i64 n ∧ e 9 = i64 j ∧ Fr [] w0 w'
theorem items_step {w : World} {k : Int} {a : Option Addr} {c : Nat} {L : List ItemP} (hr : RdV w (.slice a L.length c) L.length (flat itemV L)) (hok : ∀ x ∈ L, okI x) (hL : L.length ≤ 1000000) {j : Nat} (hP : itemP k L j) {e : Env} {w1 : World} (hj : j < L.length)
    (hI : ItI w k (.slice a L.length c) L.length (L.length - j) e w1) {K : KT} (hK : ∀ e' w'', ItI w k (.slice a L.length c) L.length (L.length - (j + 1)) e' w'' → K .normal e' w'') : F70B0 e w1 K := by
  obtain ⟨j', hmj, hj', e0, e1, e7, e8, e9, hf⟩ := hI
  obtain rfl : j = j' := by omega
  unfold F70B0
  obtain ⟨x, hx⟩ : ∃ x, L[j]? = some x := ⟨_, List.getElem?_eq_getElem hj⟩
  have hxok := hok x (List.mem_of_getElem? hx)
  obtain ⟨c1, hz, hp, hord⟩ := hP x hx
  have hr1 := hr.fr0 hf
  obtain ⟨b, o, c', hv, hb, hin, htk⟩ := flat_at hr1 (itemV_len L) (by omega) hx
  simp only [Value.slice.injEq] at hv
  obtain ⟨rfl, _, rfl⟩ := hv
  have hji : (j : Int) < L.length := by omega
  have hwj : IntKind.i64.wrap ((j : Int) + 1) = ((j + 1 : Nat) : Int) := wrap64 (by omega) (by omega)
  have hs2 : ∀ l : List Value, l.length = 2 → splice l 0 (itemV x) = itemV x := fun l hl => splice_full (by rw [hl]; rfl)
  obtain ⟨W, hW⟩ : ∃ W, W = wr (nw w1 [Value.float FloatKind.f64 0, Value.string ByteArray.empty] 105) (sz w1) (itemV x) := ⟨_, rfl⟩
  have fW : Fr [] w1 W := by rw [hW]; exact ((Fr.refl [] w1).nw _ _).wr (.inr (Nat.le_refl _)) _
  have hm : mm W (sz w1) = itemV x := by rw [hW]; exact mm_wr_same (by simp [fz_nw]) _
  have hsW : sz w1 < sz W := by rw [hW, sz_wr, sz_nw]; omega
  have hlen : ∀ w, pBuiltin P .len #[9] 3 [strB x.name] w = some (i64 x.name.length, w) := fun w => len_strB und9
  have c1i : ¬ (16 : Int) < x.name.length := by omega
  try simp (maxDischargeDepth := 8) [↓sC, sB, sM, e7, e8, e9, hji, hj, hin, htk, hs2, itemV_oneT, hlen, ← hW, hm]
  rcases Nat.eq_zero_or_pos j with i0 | i0
  · subst i0
    by_cases k8 : k = 8
    · subst k8
      try simp (maxDischargeDepth := 8) [↓sC, sB, sM, e0, c1i, hm]
      refine (same_spec hxok (b := 0) (by unfold H63; omega)).call ?_
      rintro _ w2 ⟨rfl, f1⟩
      have hm1 : mm w2 (sz w1) = itemV x := by rw [f1.mm hsW (by simp), hm]
      rw [decide_eq_true (hz rfl)]
      try simp (maxDischargeDepth := 8) [↓sC, sB, sM, hm1]
      refine (proper_spec hxok).call ?_
      rintro _ w3 ⟨rfl, f2⟩
      have hsf := (f1.trans0 f2).size
      have hm2 : mm w3 (sz w1) = itemV x := by rw [(f1.trans0 f2).mm hsW (by simp), hm]
      have g3 : Fr [] w1 w3 := (fW.trans0 f1).trans0 f2
      rw [decide_eq_true hp]
      try simp (maxDischargeDepth := 8) [↓sC, sB, sM, hm2, e0, e1, e9, wrap_1]
      exact hK _ _ ⟨1, rfl, by omega, by simp [put_get, e0], by simp [put_get, e1], by simp [put_get, e7], by simp [put_get, e8], by simp [put_get], (hf.trans0 g3).drew.drew⟩
    · skip
      try simp (maxDischargeDepth := 8) [↓sC, sB, sM, e0, c1i, k8, hm]
      have f1 : Fr [] W W := Fr.refl [] W
      refine (proper_spec hxok).call ?_
      rintro _ w3 ⟨rfl, f2⟩
      have hsf := (f1.trans0 f2).size
      have hm2 : mm w3 (sz w1) = itemV x := by rw [(f1.trans0 f2).mm hsW (by simp), hm]
      have g3 : Fr [] w1 w3 := (fW.trans0 f1).trans0 f2
      rw [decide_eq_true hp]
      try simp (maxDischargeDepth := 8) [↓sC, sB, sM, hm2, e0, e1, e9, wrap_1, k8]
      exact hK _ _ ⟨1, rfl, by omega, by simp [put_get, e0], by simp [put_get, e1], by simp [put_get, e7], by simp [put_get, e8], by simp [put_get], (hf.trans0 g3).drew.drew⟩
  · obtain ⟨y, hy⟩ : ∃ y, L[j - 1]? = some y := ⟨_, List.getElem?_eq_getElem (by omega)⟩
    have hyok := hok y (List.mem_of_getElem? hy)
    obtain ⟨hp8, hp9⟩ := hord y i0 hy
    obtain ⟨b', o', c', hv', hb', hin', htk'⟩ := flat_at hr1 (itemV_len L) (by omega) hy
    simp only [Value.slice.injEq, Option.some.injEq, Addr.mk.injEq] at hv'
    obtain ⟨⟨rfl, rfl, _⟩, _, rfl⟩ := hv'
    have hwm : IntKind.i64.wrap ((j : Int) - 1) = ((j - 1 : Nat) : Int) := by rw [wrap64 (by omega) (by omega)]; omega
    have i0i : (0 : Int) < j := by omega
    have him : ((j - 1 : Nat) : Int) < L.length := by omega
    have him' : j - 1 < L.length := by omega
    have hge : ∀ w, pBin P .geq 9 false (strB y.name) (strB x.name) w = some (.bool (!Op.bytesLess y.name x.name), w) := fun w => ge_strB
    by_cases k8 : k = 8
    · subst k8
      try simp (maxDischargeDepth := 8) [↓sC, sB, sM, e0, c1i, hm]
      refine (same_spec hxok (b := 0) (by unfold H63; omega)).call ?_
      rintro _ w2 ⟨rfl, f1⟩
      have hm1 : mm w2 (sz w1) = itemV x := by rw [f1.mm hsW (by simp), hm]
      rw [decide_eq_true (hz rfl)]
      try simp (maxDischargeDepth := 8) [↓sC, sB, sM, hm1]
      refine (proper_spec hxok).call ?_
      rintro _ w3 ⟨rfl, f2⟩
      have hsf := (f1.trans0 f2).size
      have hm2 : mm w3 (sz w1) = itemV x := by rw [(f1.trans0 f2).mm hsW (by simp), hm]
      have g3 : Fr [] w1 w3 := (fW.trans0 f1).trans0 f2
      rw [decide_eq_true hp]
      have q1 : o + (j - 1) * 2 + 2 ≤ (mm w3 b).length := by rw [g3.mm hb (by simp)]; exact hin'
      have q2 : ((mm w3 b).drop (o + (j - 1) * 2)).take 2 = itemV y := by rw [g3.mm hb (by simp)]; exact htk'
      have q3 : o + (j - 1) * 2 + 1 < (mm w3 b).length := by omega
      have q4 : gt (mm w3 b) (o + (j - 1) * 2 + 1) = strB y.name := by rw [cell_of q2 (by omega)]; rfl
      try simp (maxDischargeDepth := 8) [↓sC, sB, sM, e0, e1, e9, i0i, i0, hwm, hwj, him, him', hm2, q1, q2, q3, q4, hge, hp8 rfl, -Int.natCast_add]
      exact hK _ _ ⟨j + 1, rfl, by omega, by simp [put_get, e0], by simp [put_get, e1], by simp [put_get, e7], by simp [put_get, e8], by simp [put_get], (hf.trans0 g3).drew.drew⟩
    · skip
      try simp (maxDischargeDepth := 8) [↓sC, sB, sM, e0, c1i, k8, hm]
      have f1 : Fr [] W W := Fr.refl [] W
      refine (proper_spec hxok).call ?_
      rintro _ w3 ⟨rfl, f2⟩
      have hsf := (f1.trans0 f2).size
      have hm2 : mm w3 (sz w1) = itemV x := by rw [(f1.trans0 f2).mm hsW (by simp), hm]
      have g3 : Fr [] w1 w3 := (fW.trans0 f1).trans0 f2
      rw [decide_eq_true hp]
      have q1 : o + (j - 1) * 2 + 2 ≤ (mm w3 b).length := by rw [g3.mm hb (by simp)]; exact hin'
      have q2 : ((mm w3 b).drop (o + (j - 1) * 2)).take 2 = itemV y := by rw [g3.mm hb (by simp)]; exact htk'
      have q3 : o + (j - 1) * 2 + 1 < (mm w3 b).length := by omega
      have q4 : gt (mm w3 b) (o + (j - 1) * 2 + 1) = strB y.name := by rw [cell_of q2 (by omega)]; rfl
      by_cases k9 : k = 9
      · subst k9
        try simp (maxDischargeDepth := 8) [↓sC, sB, sM, e0, e1, e9, i0i, i0, hwm, hwj, him, him', hm2, q1, q2, q3, q4, hge, k8]
        refine (better_spec hyok hxok).call ?_
        rintro _ w4 ⟨rfl, f3⟩
        rw [hp9 rfl]
        try simp (maxDischargeDepth := 8) [↓sC, sB, sM, e9, hwj, -Int.natCast_add]
        exact hK _ _ ⟨j + 1, rfl, by omega, by simp [put_get, e0], by simp [put_get, e1], by simp [put_get, e7], by simp [put_get, e8], by simp [put_get], ((hf.trans0 g3).drew.drew).trans0 f3⟩
      · try simp (maxDischargeDepth := 8) [↓sC, sB, sM, e0, e1, e9, i0i, i0, hwm, hwj, him, him', hm2, q1, q2, q3, q4, hge, k8, k9, -Int.natCast_add]
        exact hK _ _ ⟨j + 1, rfl, by omega, by simp [put_get, e0], by simp [put_get, e1], by simp [put_get, e7], by simp [put_get, e8], by simp [put_get], (hf.trans0 g3).drew.drew⟩
end Go.Proofs.YtieejbkbdfccdaaGreat

set_option linter.unusedVariables false
set_option linter.unusedSimpArgs false
namespace Go.Proofs.YtieejbkbdfccdaaGreat
open Go
theorem items_spec {w : World} {k : Int} {a : Option Addr} {c : Nat} {L : List ItemP} (hr : RdV w (.slice a L.length c) L.length (flat itemV L)) (hok : ∀ x ∈ L, okI x) (hL : L.length ≤ 1000000) (hP : ∀ i, i < L.length → itemP k L i) :
    Ret P 70 #[i64 k, .slice a L.length c] w fun v w' => v = i64 0 ∧ Fr [] w w' := by
  refine F70ok ?_
  unfold F70
  try simp (maxDischargeDepth := 8) [↓sC, sB, sM]
  refine loopE_of (ItI w k (.slice a L.length c) L.length) L.length ⟨0, by omega, by omega, by simp [put_get, argE_get], by simp [put_get, argE_get], by simp [put_get], by simp [put_get], by simp [put_get], Fr.refl [] w⟩ ?_
  rintro m e w1 hI
  obtain ⟨j, rfl, hj, e0, e1, e7, e8, e9, hf⟩ := id hI
  by_cases hjl : j < L.length
  · exact items_step hr hok hL (hP j hjl) hjl hI fun e' w'' hK => ⟨L.length - (j + 1), by omega, hK⟩
  have : j = L.length := by omega
  subst this
  unfold F70B0
  try simp (maxDischargeDepth := 8) [↓sC, sB, sM, e8, e9]
  exact hf
set_option maxHeartbeats 2000000 in
theorem recCheck_spec {w : World} {r : RecP} {a : Option Addr} {c : Nat} (hr : IsRec w (.slice a r.list.length c) r) (hok : RecOk r) :
    Ret P 41 #[.agg (rcV r (.slice a r.list.length c)).toArray] w fun v w' => v = i64 0 ∧ Fr [] w w' := by
  refine F41ok ?_
  unfold F41
  obtain ⟨W, hW⟩ : ∃ W, W = nw w (rcV r (.slice a r.list.length c)) 61 := ⟨_, rfl⟩
  have fW : Fr [] w W := by rw [hW]; exact (Fr.refl [] w).nw _ _
  have hm : mm W (sz w) = rcV r (.slice a r.list.length c) := by rw [hW]; simp [mm_nw]
  have hsW : sz w < sz W := by rw [hW, sz_nw]; omega
  try simp (maxDischargeDepth := 8) [↓sC, sB, sM, rcC, ← hW, hm]
  refine shaped_spec.call ?_
  rintro _ w1 ⟨rfl, f1⟩
  have hs1 := f1.lt hsW
  have hbare := fun {w} => bare_spec (w := w) (a := a) (c := c) hok.k1 hok.k9 hok.only hr.2
  have k0 : ¬ r.kind ≤ 0 := by have := hok.k1; omega
  have k10 : ¬ 10 ≤ r.kind := by have := hok.k9; omega
  have t8 : ∀ r lv, (rcV r lv).take 8 = rcV r lv := fun _ _ => rfl
  have t5 : ∀ a b c d e, (shB a b c d e).take 5 = shB a b c d e := fun _ _ _ _ _ => rfl
  have hs5 : ∀ a b c d e, ∀ l : List Value, l.length = 5 → splice l 0 (shB a b c d e) = shB a b c d e := fun a b c d e l hl => splice_full (by rw [hl]; rfl)
  have hlen : ∀ w, pBuiltin P .len #[9] 3 [strB r.text] w = some (i64 r.text.length, w) := fun w => len_strB und9
  rcases five_kinds hok.k1 hok.k9 hok.only with ⟨hk, hs, c1, c2, c3, c4, c5, c6⟩ | ⟨hk, hs, c1, c2, c3, c4, c5, c6⟩ | ⟨hk, hs, c1, c4, c5, c6⟩ | ⟨hk, hs, c1, c2, c3, c4, c5, c6⟩ | ⟨hk, hs, c1, c2, c3, c4, c5⟩
  · have t1 : ¬ (64 : Int) < r.text.length := by have := hok.text hk; omega
    rw [hs] at hbare ⊢
    obtain ⟨W2, hW2⟩ : ∃ W2, W2 = wr (nw w1 [Value.bool false, Value.bool false, Value.bool false, Value.bool false, Value.bool false] 144) (sz w1) (shB true false false false false) := ⟨_, rfl⟩
    have fW2 : Fr [] w1 W2 := by rw [hW2]; exact ((Fr.refl [] w1).nw _ _).wr (.inr (Nat.le_refl _)) _
    have hm2 : mm W2 (sz w) = rcV r (.slice a r.list.length c) := by rw [fW2.mm hs1 (by simp), f1.mm hsW (by simp), hm]
    have hz2 : mm W2 (sz w1) = shB true false false false false := by rw [hW2]; exact mm_wr_same (by simp [fz_nw]) _
    have hsz2 : sz w1 < sz W2 := by rw [hW2, sz_wr, sz_nw]; omega
    have hsz1 : sz w < sz W2 := by omega
    try simp (maxDischargeDepth := 8) [↓sC, sB, sM, hs5, shB_one, ← hW2, hm2, hz2, k0, k10, t8, t5]
    refine hbare.call ?_
    rintro _ w3 ⟨rfl, f3⟩
    have hm3 : mm w3 (sz w) = rcV r (.slice a r.list.length c) := by rw [f3.mm hsz1 (by simp), hm2]
    have hz3 : mm w3 (sz w1) = shB true false false false false := by rw [f3.mm hsz2 (by simp), hz2]
    have hl1 := f3.lt hsz1
    have hl2 := f3.lt hsz2
    try simp (maxDischargeDepth := 8) [↓sC, sB, sM, hm3, hz3, hlen, t1]
    refine (proper_spec hr.2.2.2.2.2.1).call ?_
    rintro _ w4 ⟨rfl, f4⟩
    have hm4 : mm w4 (sz w) = rcV r (.slice a r.list.length c) := by rw [f4.mm hl1 (by simp), hm3]
    have hz4 : mm w4 (sz w1) = shB true false false false false := by rw [f4.mm hl2 (by simp), hz3]
    rw [decide_eq_true hok.real]
    have g4 := (((fW.trans0 f1).trans0 fW2).trans0 f3).trans0 f4
    try simp (maxDischargeDepth := 8) [↓sC, sB, sM, hm4, hz4]
    exact g4
  · have t1 : ¬ (64 : Int) < r.text.length := by rw [c1]; simp
    rw [hs] at hbare ⊢
    obtain ⟨W2, hW2⟩ : ∃ W2, W2 = wr (nw w1 [Value.bool false, Value.bool false, Value.bool false, Value.bool false, Value.bool false] 144) (sz w1) (shB false true false false false) := ⟨_, rfl⟩
    have fW2 : Fr [] w1 W2 := by rw [hW2]; exact ((Fr.refl [] w1).nw _ _).wr (.inr (Nat.le_refl _)) _
    have hm2 : mm W2 (sz w) = rcV r (.slice a r.list.length c) := by rw [fW2.mm hs1 (by simp), f1.mm hsW (by simp), hm]
    have hz2 : mm W2 (sz w1) = shB false true false false false := by rw [hW2]; exact mm_wr_same (by simp [fz_nw]) _
    have hsz2 : sz w1 < sz W2 := by rw [hW2, sz_wr, sz_nw]; omega
    have hsz1 : sz w < sz W2 := by omega
    try simp (maxDischargeDepth := 8) [↓sC, sB, sM, hs5, shB_one, ← hW2, hm2, hz2, k0, k10, t8, t5]
    refine hbare.call ?_
    rintro _ w3 ⟨rfl, f3⟩
    have hm3 : mm w3 (sz w) = rcV r (.slice a r.list.length c) := by rw [f3.mm hsz1 (by simp), hm2]
    have hz3 : mm w3 (sz w1) = shB false true false false false := by rw [f3.mm hsz2 (by simp), hz2]
    have hl1 := f3.lt hsz1
    have hl2 := f3.lt hsz2
    try simp (maxDischargeDepth := 8) [↓sC, sB, sM, hm3, hz3, hlen, t1]
    refine (proper_spec hr.2.2.2.2.2.1).call ?_
    rintro _ w4 ⟨rfl, f4⟩
    have hm4 : mm w4 (sz w) = rcV r (.slice a r.list.length c) := by rw [f4.mm hl1 (by simp), hm3]
    have hz4 : mm w4 (sz w1) = shB false true false false false := by rw [f4.mm hl2 (by simp), hz3]
    rw [decide_eq_true hok.real]
    have g4 := (((fW.trans0 f1).trans0 fW2).trans0 f3).trans0 f4
    try simp (maxDischargeDepth := 8) [↓sC, sB, sM, hm4, hz4]
    exact g4
  · have t1 : ¬ (64 : Int) < r.text.length := by rw [c1]; simp
    rw [hs] at hbare ⊢
    obtain ⟨W2, hW2⟩ : ∃ W2, W2 = wr (nw w1 [Value.bool false, Value.bool false, Value.bool false, Value.bool false, Value.bool false] 144) (sz w1) (shB false true true false false) := ⟨_, rfl⟩
    have fW2 : Fr [] w1 W2 := by rw [hW2]; exact ((Fr.refl [] w1).nw _ _).wr (.inr (Nat.le_refl _)) _
    have hm2 : mm W2 (sz w) = rcV r (.slice a r.list.length c) := by rw [fW2.mm hs1 (by simp), f1.mm hsW (by simp), hm]
    have hz2 : mm W2 (sz w1) = shB false true true false false := by rw [hW2]; exact mm_wr_same (by simp [fz_nw]) _
    have hsz2 : sz w1 < sz W2 := by rw [hW2, sz_wr, sz_nw]; omega
    have hsz1 : sz w < sz W2 := by omega
    try simp (maxDischargeDepth := 8) [↓sC, sB, sM, hs5, shB_one, ← hW2, hm2, hz2, k0, k10, t8, t5]
    refine hbare.call ?_
    rintro _ w3 ⟨rfl, f3⟩
    have hm3 : mm w3 (sz w) = rcV r (.slice a r.list.length c) := by rw [f3.mm hsz1 (by simp), hm2]
    have hz3 : mm w3 (sz w1) = shB false true true false false := by rw [f3.mm hsz2 (by simp), hz2]
    have hl1 := f3.lt hsz1
    have hl2 := f3.lt hsz2
    obtain ⟨b1, b2, b3, b4⟩ := hok.bounds hk
    unfold MP at b1 b2
    have b1i : ¬ r.low < -2305843009213693952 := by omega
    have b2i : ¬ 2305843009213693952 < r.high := by omega
    have b3i : ¬ r.num < r.low := by omega
    have b4i : ¬ r.high < r.num := by omega
    try simp (maxDischargeDepth := 8) [↓sC, sB, sM, hm3, hz3, hlen, t1, b1i, b2i, b3i, b4i]
    refine (proper_spec hr.2.2.2.2.2.1).call ?_
    rintro _ w4 ⟨rfl, f4⟩
    have hm4 : mm w4 (sz w) = rcV r (.slice a r.list.length c) := by rw [f4.mm hl1 (by simp), hm3]
    have hz4 : mm w4 (sz w1) = shB false true true false false := by rw [f4.mm hl2 (by simp), hz3]
    rw [decide_eq_true hok.real]
    have g4 := (((fW.trans0 f1).trans0 fW2).trans0 f3).trans0 f4
    try simp (maxDischargeDepth := 8) [↓sC, sB, sM, hm4, hz4]
    exact g4
  · have t1 : ¬ (64 : Int) < r.text.length := by rw [c1]; simp
    rw [hs] at hbare ⊢
    obtain ⟨W2, hW2⟩ : ∃ W2, W2 = wr (nw w1 [Value.bool false, Value.bool false, Value.bool false, Value.bool false, Value.bool false] 144) (sz w1) (shB false false false true false) := ⟨_, rfl⟩
    have fW2 : Fr [] w1 W2 := by rw [hW2]; exact ((Fr.refl [] w1).nw _ _).wr (.inr (Nat.le_refl _)) _
    have hm2 : mm W2 (sz w) = rcV r (.slice a r.list.length c) := by rw [fW2.mm hs1 (by simp), f1.mm hsW (by simp), hm]
    have hz2 : mm W2 (sz w1) = shB false false false true false := by rw [hW2]; exact mm_wr_same (by simp [fz_nw]) _
    have hsz2 : sz w1 < sz W2 := by rw [hW2, sz_wr, sz_nw]; omega
    have hsz1 : sz w < sz W2 := by omega
    try simp (maxDischargeDepth := 8) [↓sC, sB, sM, hs5, shB_one, ← hW2, hm2, hz2, k0, k10, t8, t5]
    refine hbare.call ?_
    rintro _ w3 ⟨rfl, f3⟩
    have hm3 : mm w3 (sz w) = rcV r (.slice a r.list.length c) := by rw [f3.mm hsz1 (by simp), hm2]
    have hz3 : mm w3 (sz w1) = shB false false false true false := by rw [f3.mm hsz2 (by simp), hz2]
    have hl1 := f3.lt hsz1
    have hl2 := f3.lt hsz2
    try simp (maxDischargeDepth := 8) [↓sC, sB, sM, hm3, hz3, hlen, t1]
    refine (proper_spec hr.2.2.2.2.2.1).call ?_
    rintro _ w4 ⟨rfl, f4⟩
    have hm4 : mm w4 (sz w) = rcV r (.slice a r.list.length c) := by rw [f4.mm hl1 (by simp), hm3]
    have hz4 : mm w4 (sz w1) = shB false false false true false := by rw [f4.mm hl2 (by simp), hz3]
    rw [decide_eq_true hok.real]
    have g4 := (((fW.trans0 f1).trans0 fW2).trans0 f3).trans0 f4
    try simp (maxDischargeDepth := 8) [↓sC, sB, sM, hm4, hz4]
    exact g4
  · have t1 : ¬ (64 : Int) < r.text.length := by rw [c1]; simp
    rw [hs] at hbare ⊢
    obtain ⟨W2, hW2⟩ : ∃ W2, W2 = wr (nw w1 [Value.bool false, Value.bool false, Value.bool false, Value.bool false, Value.bool false] 144) (sz w1) (shB false false false false true) := ⟨_, rfl⟩
    have fW2 : Fr [] w1 W2 := by rw [hW2]; exact ((Fr.refl [] w1).nw _ _).wr (.inr (Nat.le_refl _)) _
    have hm2 : mm W2 (sz w) = rcV r (.slice a r.list.length c) := by rw [fW2.mm hs1 (by simp), f1.mm hsW (by simp), hm]
    have hz2 : mm W2 (sz w1) = shB false false false false true := by rw [hW2]; exact mm_wr_same (by simp [fz_nw]) _
    have hsz2 : sz w1 < sz W2 := by rw [hW2, sz_wr, sz_nw]; omega
    have hsz1 : sz w < sz W2 := by omega
    try simp (maxDischargeDepth := 8) [↓sC, sB, sM, hs5, shB_one, ← hW2, hm2, hz2, k0, k10, t8, t5]
    refine hbare.call ?_
    rintro _ w3 ⟨rfl, f3⟩
    have hm3 : mm w3 (sz w) = rcV r (.slice a r.list.length c) := by rw [f3.mm hsz1 (by simp), hm2]
    have hz3 : mm w3 (sz w1) = shB false false false false true := by rw [f3.mm hsz2 (by simp), hz2]
    have hl1 := f3.lt hsz1
    have hl2 := f3.lt hsz2
    try simp (maxDischargeDepth := 8) [↓sC, sB, sM, hm3, hz3, hlen, t1]
    refine (proper_spec hr.2.2.2.2.2.1).call ?_
    rintro _ w4 ⟨rfl, f4⟩
    have hm4 : mm w4 (sz w) = rcV r (.slice a r.list.length c) := by rw [f4.mm hl1 (by simp), hm3]
    have hz4 : mm w4 (sz w1) = shB false false false false true := by rw [f4.mm hl2 (by simp), hz3]
    rw [decide_eq_true hok.real]
    have g4 := (((fW.trans0 f1).trans0 fW2).trans0 f3).trans0 f4
    obtain ⟨q1, q2, q3, q4⟩ := hok.cap (by omega)
    have q1i : ¬ r.cap < 1 := by omega
    have q2i : ¬ 32 < r.cap := by omega
    have q3i : ¬ r.cap < (r.list.length : Int) := by omega
    try simp (maxDischargeDepth := 8) [↓sC, sB, sM, hm4, hz4, q1i, q2i, q3i]
    refine (items_spec (hr.fr0 g4).1 hr.2.2.2.2.2.2.2 (by omega) q4).call ?_
    rintro _ w5 ⟨rfl, f5⟩
    try simp (maxDischargeDepth := 8) [↓sC, sB, sM]
    exact g4.trans0 f5
end Go.Proofs.YtieejbkbdfccdaaGreat

set_option linter.unusedVariables false
set_option linter.unusedSimpArgs false
namespace Go.Proofs.YtieejbkbdfccdaaGreat
open Go
def uP (n : Nat) : PartP := ⟨117, n, 0, 0, [], false⟩
def iP (n : Int) : PartP := ⟨105, 0, n, 0, [], false⟩
def fP (a : Nat) : PartP := ⟨102, 0, 0, a, [], false⟩
def sP (l : List UInt8) : PartP := ⟨115, 0, 0, 0, l, false⟩
def okPL (L : List PartP) : Prop := ∀ p ∈ L, okP p ∧ p.s.length ≤ 64
theorem okPL_app {L M : List PartP} (h : okPL L) (h' : okPL M) : okPL (L ++ M) := fun p hp => (List.mem_append.1 hp).elim (h p) (h' p)
theorem okPL_one {p : PartP} (h : okP p) (hs : p.s.length ≤ 64) : okPL [p] := fun q hq => by simp at hq; subst hq; exact ⟨h, hs⟩
theorem ok_uP {n : Nat} (h : n < 2 * H63) : okPL [uP n] := okPL_one ⟨h, ⟨by simp [uP], by simp [uP]⟩, by simp [uP, H63]⟩ (by simp [uP])
theorem ok_iP {n : Int} (h : in64 n) : okPL [iP n] := okPL_one ⟨by simp [iP, H63], h, by simp [iP, H63]⟩ (by simp [iP])
theorem ok_fP {a : Nat} (h : a < 2 * H63) : okPL [fP a] := okPL_one ⟨by simp [fP, H63], ⟨by simp [fP], by simp [fP]⟩, h⟩ (by simp [fP])
theorem ok_sP {l : List UInt8} (h : l.length ≤ 64) : okPL [sP l] := okPL_one ⟨by simp [sP, H63], ⟨by simp [sP], by simp [sP]⟩, by simp [sP, H63]⟩ h
theorem encAll_app (L M : List PartP) : encAll (L ++ M) = encAll L ++ encAll M := by simp [encAll]
theorem encAll_len {L : List PartP} (h : okPL L) : (encAll L).length ≤ 74 * L.length := by
  induction L with
  | nil => simp [encAll]
  | cons p L ih =>
    rw [encAll_cons, List.length_append, List.length_cons]
    have h1 := ih (fun q hq => h q (List.mem_cons_of_mem _ hq))
    obtain ⟨h2, h3⟩ := h p List.mem_cons_self
    have := encP_len h2 (by omega)
    omega
section
variable {w : World} {b : Nat} {B : List UInt8} {L : List PartP} {F : List Nat}
theorem stU {n : Nat} (h : IsW w b (B ++ encAll L) F) (hB : B.length ≤ 1000) (hL : okPL L) (hl : L.length ≤ 200) (hn : n < 2 * H63) :
    Ret P 57 #[pt b 0, u64 n] w fun v w' => v = .tuple #[] ∧ ∃ F', More w b (B ++ encAll (L ++ [uP n])) F w' F' := by
  have h1 := encAll_len hL
  have he : encP (uP n) = digits n := rfl
  have h2 := encAll_len (ok_uP hn)
  have h3 : encAll [uP n] = encP (uP n) := by simp [encAll]
  rw [h3] at h2
  rw [encAll_snoc, ← List.append_assoc]
  rw [he] at h2 ⊢
  simp only [List.length_singleton] at h2
  refine wU_spec h hn ?_
  simp only [List.length_append, List.length_cons, List.length_nil] at h2 ⊢
  omega
theorem stI {n : Int} (h : IsW w b (B ++ encAll L) F) (hB : B.length ≤ 1000) (hL : okPL L) (hl : L.length ≤ 200) (hn : in64 n) :
    Ret P 78 #[pt b 0, i64 n] w fun v w' => v = .tuple #[] ∧ ∃ F', More w b (B ++ encAll (L ++ [iP n])) F w' F' := by
  have h1 := encAll_len hL
  have he : encP (iP n) = digits (zig n) := rfl
  have h2 := encAll_len (ok_iP hn)
  have h3 : encAll [iP n] = encP (iP n) := by simp [encAll]
  rw [h3] at h2
  rw [encAll_snoc, ← List.append_assoc]
  rw [he] at h2 ⊢
  simp only [List.length_singleton] at h2
  refine wI_spec h hn.1 hn.2 ?_
  simp only [List.length_append, List.length_cons, List.length_nil] at h2 ⊢
  omega
theorem stF {n : Nat} (h : IsW w b (B ++ encAll L) F) (hB : B.length ≤ 1000) (hL : okPL L) (hl : L.length ≤ 200) (hn : n < 2 * H63) :
    Ret P 79 #[pt b 0, fl n] w fun v w' => v = .tuple #[] ∧ ∃ F', More w b (B ++ encAll (L ++ [fP n])) F w' F' := by
  have h1 := encAll_len hL
  have he : encP (fP n) = placeB (key n) := rfl
  have h2 := encAll_len (ok_fP hn)
  have h3 : encAll [fP n] = encP (fP n) := by simp [encAll]
  rw [h3] at h2
  rw [encAll_snoc, ← List.append_assoc]
  rw [he] at h2 ⊢
  simp only [List.length_singleton] at h2
  refine wF_spec h hn ?_
  simp only [List.length_append, List.length_cons, List.length_nil] at h2 ⊢
  omega
theorem stS {n : List UInt8} (h : IsW w b (B ++ encAll L) F) (hB : B.length ≤ 1000) (hL : okPL L) (hl : L.length ≤ 200) (hn : n.length ≤ 64) :
    Ret P 48 #[pt b 0, strB n] w fun v w' => v = .tuple #[] ∧ ∃ F', More w b (B ++ encAll (L ++ [sP n])) F w' F' := by
  have h1 := encAll_len hL
  have he : encP (sP n) = digits n.length ++ n := rfl
  have h2 := encAll_len (ok_sP hn)
  have h3 : encAll [sP n] = encP (sP n) := by simp [encAll]
  rw [h3] at h2
  rw [encAll_snoc, ← List.append_assoc]
  rw [he] at h2 ⊢
  simp only [List.length_singleton] at h2
  refine wS_spec h ?_
  simp only [List.length_append, List.length_cons, List.length_nil] at h2 ⊢
  omega
end
def itP (k : Int) (x : ItemP) : List PartP := (if k = 9 then [fP x.score] else []) ++ [sP x.name]
def recP (r : RecP) : List PartP :=
  [uP r.kind.toNat] ++ (if r.kind = 1 then [sP r.text] else if r.kind = 4 then [iP r.low, iP r.high, iP r.num] else if r.kind = 2 ∨ r.kind = 3 then [iP r.num] else if r.kind = 5 ∨ r.kind = 6 ∨ r.kind = 7 then [fP r.real]
    else [uP r.cap.toNat, uP r.list.length] ++ r.list.flatMap (itP r.kind))
theorem itP_ok {k : Int} {x : ItemP} (hx : okI x) (hn : x.name.length ≤ 16) : okPL (itP k x) := by
  unfold itP
  refine okPL_app ?_ (ok_sP (by omega))
  split
  · exact ok_fP hx
  · exact fun p hp => by cases hp
theorem itP_len (k : Int) (x : ItemP) : (itP k x).length ≤ 2 := by unfold itP; split <;> simp
theorem items_okPL {k : Int} {M : List ItemP} (h : ∀ x ∈ M, okI x ∧ x.name.length ≤ 16) : okPL (M.flatMap (itP k)) := by
  intro p hp
  obtain ⟨x, hx, hp⟩ := List.mem_flatMap.1 hp
  exact itP_ok (h x hx).1 (h x hx).2 p hp
theorem items_lenPL (k : Int) : ∀ M : List ItemP, (M.flatMap (itP k)).length ≤ 2 * M.length
  | [] => by simp
  | x :: M => by
    have := items_lenPL k M
    have := itP_len k x
    simp only [List.flatMap_cons, List.length_append, List.length_cons]
    omega
theorem items_take {k : Int} {M : List ItemP} {j : Nat} {x : ItemP} (h : M[j]? = some x) : (M.take (j + 1)).flatMap (itP k) = (M.take j).flatMap (itP k) ++ itP k x := by
  rw [List.take_add_one, h]; simp
theorem More.keep {w w' : World} {b p : Nat} {B : List UInt8} {F F' : List Nat} (h : More w b B F w' F') (hp : p < sz w) (hF : p ∉ F) : mm w' p = mm w p := h.fr.mm hp hF
def PutI (w : World) (b p : Nat) (B : List UInt8) (L : List PartP) (F : List Nat) (lv : Value) (r : RecP) (m : Nat) (e : Env) (w' : World) : Prop :=
  ∃ (j : Nat) (F' : List Nat), m = r.list.length - j ∧ j ≤ r.list.length ∧ More w b (B ++ encAll (L ++ (r.list.take j).flatMap (itP r.kind))) F w' F' ∧ e 0 = pt b 0 ∧ e 3 = pt p 0 ∧ e 58 = lv ∧ e 59 = i64 r.list.length ∧ e 60 = i64 j
theorem put_step {w : World} {b p : Nat} {B : List UInt8} {L : List PartP} {F : List Nat} {a : Option Addr} {c : Nat} {r : RecP} (hB : B.length ≤ 1000) (hL : okPL L) (hl : L.length ≤ 3) (hp : p < sz w) (hpF : p ∉ F) (hm : mm w p = rcV r (.slice a r.list.length c))
    (hr : RdV w (.slice a r.list.length c) r.list.length (flat itemV r.list)) (hlv : 0 < r.list.length → ∀ k, (Value.slice a r.list.length c).ownBlock = some k → k ∉ F) (hlvs : 0 < r.list.length → ∀ k, (Value.slice a r.list.length c).ownBlock = some k → k < sz w)
    (hok : ∀ x ∈ r.list, okI x ∧ x.name.length ≤ 16) (hlen : r.list.length ≤ 32) {j : Nat} {e : Env} {w1 : World} (hj : j < r.list.length)
    (hI : PutI w b p B L F (.slice a r.list.length c) r (r.list.length - j) e w1) {K : KT} (hK : ∀ e' w'', PutI w b p B L F (.slice a r.list.length c) r (r.list.length - (j + 1)) e' w'' → K .normal e' w'') : F49B0 e w1 K := by
  obtain ⟨j', F1, hmj, hj', hM, e0, e3, e58, e59, e60⟩ := hI
  obtain rfl : j = j' := by omega
  unfold F49B0
  obtain ⟨x, hx⟩ : ∃ x, r.list[j]? = some x := ⟨_, List.getElem?_eq_getElem hj⟩
  have hxok := hok x (List.mem_of_getElem? hx)
  have h0 : 0 < r.list.length := by omega
  have hr1 : RdV w1 (.slice a r.list.length c) r.list.length (flat itemV r.list) := hr.fr hM.fr (fun k hk => hlv h0 k hk)
  obtain ⟨lb, o, c', hv, hb, hin, htk⟩ := flat_at hr1 (itemV_len r.list) (by omega) hx
  simp only [Value.slice.injEq] at hv
  obtain ⟨rfl, _, rfl⟩ := hv
  have hji : (j : Int) < r.list.length := by omega
  have hwj : IntKind.i64.wrap ((j : Int) + 1) = ((j + 1 : Nat) : Int) := wrap64 (by omega) (by omega)
  have hs2 : ∀ l : List Value, l.length = 2 → splice l 0 (itemV x) = itemV x := fun l hl => splice_full (by rw [hl]; rfl)
  have hp1 : mm w1 p = rcV r (.slice (some ⟨lb, o, none⟩) r.list.length c) := by rw [hM.keep hp hpF, hm]
  have hps : p < sz w1 := hM.fr.lt hp
  obtain ⟨W, hW⟩ : ∃ W, W = wr (nw w1 [Value.float FloatKind.f64 0, Value.string ByteArray.empty] 105) (sz w1) (itemV x) := ⟨_, rfl⟩
  have fW : Fr [] w1 W := by rw [hW]; exact ((Fr.refl [] w1).nw _ _).wr (.inr (Nat.le_refl _)) _
  have hmx : mm W (sz w1) = itemV x := by rw [hW]; exact mm_wr_same (by simp [fz_nw]) _
  have hpW : mm W p = rcV r (.slice (some ⟨lb, o, none⟩) r.list.length c) := by rw [fW.mm hps (by simp), hp1]
  have hsW : sz w1 < sz W := by rw [hW, sz_wr, sz_nw]; omega
  have hMW := hM.calm fW
  have hxF : sz w1 ∉ F1 := fun hc => by
    obtain ⟨_, _, _, _, _, _, h6⟩ := hM.is
    have := h6 _ hc; omega
  have hLl := items_lenPL r.kind (r.list.take j)
  have hLl2 : (r.list.take j).length ≤ 32 := by rw [List.length_take]; omega
  have hokL : okPL (L ++ (r.list.take j).flatMap (itP r.kind)) := okPL_app hL (items_okPL fun y hy => hok y (List.mem_of_mem_take hy))
  have hlL : (L ++ (r.list.take j).flatMap (itP r.kind)).length ≤ 100 := by rw [List.length_append]; omega
  have hnext := items_take (k := r.kind) hx
  try simp (maxDischargeDepth := 8) [↓sC, sB, sM, e58, e59, e60, e0, e3, hji, hj, hin, htk, hs2, itemV_oneT, ← hW, hmx, hpW]
  by_cases k9 : r.kind = 9
  · try simp (maxDischargeDepth := 8) [↓sC, sB, sM, k9, hmx]
    refine (stF hMW.is hB hokL (by omega) hxok.1).call ?_
    rintro _ w3 ⟨rfl, F3, hM3⟩
    have hmx3 : mm w3 (sz w1) = itemV x := by rw [hM3.keep hsW hxF, hmx]
    try simp (maxDischargeDepth := 8) [↓sC, sB, sM, e0, hmx3]
    refine (stS hM3.is hB (okPL_app hokL (ok_fP hxok.1)) (by rw [List.length_append]; simp only [List.length_singleton]; omega) (by omega : x.name.length ≤ 64)).call ?_
    rintro _ w4 ⟨rfl, F4, hM4⟩
    try simp (maxDischargeDepth := 8) [↓sC, sB, sM, e60, hwj, -Int.natCast_add]
    refine hK _ _ ⟨j + 1, F4, rfl, by omega, ?_, by simp [put_get, e0], by simp [put_get, e3], by simp [put_get, e58], by simp [put_get, e59], by simp [put_get]⟩
    have := (hMW.trans hM3).trans hM4
    rw [hnext]
    simpa [itP, k9] using this
  · try simp (maxDischargeDepth := 8) [↓sC, sB, sM, k9, e0, hmx]
    refine (stS hMW.is hB hokL (by omega) (by omega : x.name.length ≤ 64)).call ?_
    rintro _ w4 ⟨rfl, F4, hM4⟩
    try simp (maxDischargeDepth := 8) [↓sC, sB, sM, e60, hwj, -Int.natCast_add]
    refine hK _ _ ⟨j + 1, F4, rfl, by omega, ?_, by simp [put_get, e0], by simp [put_get, e3], by simp [put_get, e58], by simp [put_get, e59], by simp [put_get]⟩
    have := hMW.trans hM4
    rw [hnext]
    simpa [itP, k9] using this
end Go.Proofs.YtieejbkbdfccdaaGreat

set_option linter.unusedVariables false
set_option linter.unusedSimpArgs false
namespace Go.Proofs.YtieejbkbdfccdaaGreat
open Go
theorem names_le {r : RecP} (hk : RecOk r) (ho : okR r) : ∀ x ∈ r.list, okI x ∧ x.name.length ≤ 16 := by
  intro x hx
  refine ⟨ho.2.2.2.2.2.2 x hx, ?_⟩
  obtain ⟨i, hi⟩ := List.getElem?_of_mem hx
  have hil := (List.getElem?_eq_some_iff.1 hi).1
  by_cases h8 : 8 ≤ r.kind
  · exact ((hk.cap h8).2.2.2 i hil x hi).1
  · have h0 : r.list = [] := by
      have hk' := hk.only
      have h1 := hk.k1
      rcases five_kinds hk.k1 hk.k9 hk.only with ⟨_, _, _, _, _, _, _, h⟩ | ⟨_, _, _, _, _, _, _, h⟩ | ⟨_, _, _, _, _, h⟩ | ⟨_, _, _, _, _, _, _, h⟩ | ⟨h, _⟩
      all_goals first | exact h | omega
    rw [h0] at hx; cases hx
theorem wrap_kind {k : Int} (h1 : 0 ≤ k) (h2 : k < 18446744073709551616) : IntKind.u64.wrap k = k := by
  have e : k = ((k.toNat : Nat) : Int) := by omega
  rw [e, wrapu (by unfold H63; omega)]
theorem stUi {w : World} {b : Nat} {B : List UInt8} {L : List PartP} {F : List Nat} {k : Int} (h : IsW w b (B ++ encAll L) F) (hB : B.length ≤ 1000) (hL : okPL L) (hl : L.length ≤ 200) (hn : k.toNat < 2 * H63) (h0 : 0 ≤ k) :
    Ret P 57 #[pt b 0, .int .u64 k] w fun v w' => v = .tuple #[] ∧ ∃ F', More w b (B ++ encAll (L ++ [uP k.toNat])) F w' F' := by
  have e : Value.int .u64 k = u64 k.toNat := by show Value.int .u64 k = Value.int .u64 ((k.toNat : Nat) : Int); congr 1; omega
  rw [e]; exact stU h hB hL hl hn
theorem rd_lt {w : World} {v : Value} {n : Nat} {cs : List Value} (h : RdV w v n cs) (h0 : 0 < n) {c : Nat} (hc : v.ownBlock = some c) : c < sz w := by
  rcases h with ⟨_, _, _, h2, _⟩ | ⟨b, o, c', rfl, _, _, h3, _⟩
  · omega
  · simp [Value.ownBlock] at hc
    omega
set_option maxHeartbeats 4000000 in
set_option maxRecDepth 20000 in
theorem put_spec {w0 w : World} {b : Nat} {B : List UInt8} {F : List Nat} {r : RecP} {a : Option Addr} {c : Nat} (hr0 : IsRec w0 (.slice a r.list.length c) r) (hO : Own w0 w F) (hw : IsW w b B F) (hok : RecOk r) (hB : B.length ≤ 1000) :
    Ret P 49 #[pt b 0, .agg (rcV r (.slice a r.list.length c)).toArray] w fun v w' => v = .tuple #[] ∧ ∃ F', More w b (B ++ encAll (recP r)) F w' F' := by
  refine F49ok ?_
  unfold F49
  have hlt := hw
  obtain ⟨_, _, _, _, _, hbF, hFs⟩ := hlt
  have hr := hr0.fr0 hO.fr
  obtain ⟨W, hW⟩ : ∃ W, W = nw w (rcV r (.slice a r.list.length c)) 61 := ⟨_, rfl⟩
  have fW : Fr [] w W := by rw [hW]; exact (Fr.refl [] w).nw _ _
  have hm : mm W (sz w) = rcV r (.slice a r.list.length c) := by rw [hW]; simp [mm_nw]
  have hsW : sz w < sz W := by rw [hW, sz_nw]; omega
  try simp (maxDischargeDepth := 8) [↓sC, sB, sM, rcC, ← hW, hm]
  refine shaped_spec.call ?_
  rintro _ w1 ⟨rfl, f1⟩
  have hs1 := f1.lt hsW
  have hs5 : ∀ a b c d e, ∀ l : List Value, l.length = 5 → splice l 0 (shB a b c d e) = shB a b c d e := fun a b c d e l hl => splice_full (by rw [hl]; rfl)
  have hkw := wrap_kind (k := r.kind) (by have := hok.k1; omega) (by have := hok.k9; omega)
  have hkn : r.kind.toNat < 2 * H63 := by have := hok.k9; unfold H63; omega
  have hkk := hok.k1
  have l1 : (2 : Nat) ≤ 200 := by omega
  rcases five_kinds hok.k1 hok.k9 hok.only with ⟨hk, hs, c1, c2, c3, c4, c5, c6⟩ | ⟨hk, hs, c1, c2, c3, c4, c5, c6⟩ | ⟨hk, hs, c1, c4, c5, c6⟩ | ⟨hk, hs, c1, c2, c3, c4, c5, c6⟩ | ⟨hk, hs, c1, c2, c3, c4, c5⟩
  · rw [hs]
    obtain ⟨W2, hW2⟩ : ∃ W2, W2 = wr (nw w1 [Value.bool false, Value.bool false, Value.bool false, Value.bool false, Value.bool false] 144) (sz w1) (shB true false false false false) := ⟨_, rfl⟩
    have fW2 : Fr [] w1 W2 := by rw [hW2]; exact ((Fr.refl [] w1).nw _ _).wr (.inr (Nat.le_refl _)) _
    have hm2 : mm W2 (sz w) = rcV r (.slice a r.list.length c) := by rw [fW2.mm hs1 (by simp), f1.mm hsW (by simp), hm]
    have hz2 : mm W2 (sz w1) = shB true false false false false := by rw [hW2]; exact mm_wr_same (by simp [fz_nw]) _
    have hsz2 : sz w1 < sz W2 := by rw [hW2, sz_wr, sz_nw]; omega
    have hsz1 : sz w < sz W2 := by omega
    have hsw1 := fW.size
    have hsw2 := f1.size
    have g2 : Fr [] w W2 := (fW.trans0 f1).trans0 fW2
    have hpF : sz w ∉ F := fun h => by have := hFs _ h; omega
    have hqF : sz w1 ∉ F := fun h => by have := hFs _ h; omega
    have hw2 : IsW W2 b (B ++ encAll []) F := by rw [encAll_nil, List.append_nil]; exact hw.fr0 g2
    try simp (maxDischargeDepth := 8) [↓sC, sB, sM, hs5, shB_one, ← hW2, hm2, hz2, hkw]
    refine (stUi hw2 hB (fun p hp => by cases hp) (by simp) hkn (by omega)).call ?_
    rintro _ w3 ⟨rfl, F3, hM3⟩
    have m3 := hM3
    have hp3 : mm w3 (sz w) = rcV r (.slice a r.list.length c) := by rw [m3.keep hsz1 hpF, hm2]
    have hz3 : mm w3 (sz w1) = shB true false false false false := by rw [m3.keep hsz2 hqF, hz2]
    try simp (maxDischargeDepth := 8) [↓sC, sB, sM, hp3, hz3]
    refine (stS m3.is hB (ok_uP hkn) (by simp) (hok.text hk)).call ?_
    rintro _ w4 ⟨rfl, F4, hM4⟩
    have m4 := m3.trans hM4
    have hp4 : mm w4 (sz w) = rcV r (.slice a r.list.length c) := by rw [m4.keep hsz1 hpF, hm2]
    have hz4 : mm w4 (sz w1) = shB true false false false false := by rw [m4.keep hsz2 hqF, hz2]
    try simp (maxDischargeDepth := 8) [↓sC, sB, sM, hp4, hz4]
    have hrp : recP r = [uP r.kind.toNat, sP r.text] := by simp [recP, hk]
    rw [hrp]
    exact ⟨F4, m4.is, g2.mono (T := F) (by simp) |>.trans m4.fr (fun k hk => .inl hk), fun k hk => (m4.new k hk).imp id fun h => Nat.le_trans g2.size h⟩
  · rw [hs]
    obtain ⟨W2, hW2⟩ : ∃ W2, W2 = wr (nw w1 [Value.bool false, Value.bool false, Value.bool false, Value.bool false, Value.bool false] 144) (sz w1) (shB false true false false false) := ⟨_, rfl⟩
    have fW2 : Fr [] w1 W2 := by rw [hW2]; exact ((Fr.refl [] w1).nw _ _).wr (.inr (Nat.le_refl _)) _
    have hm2 : mm W2 (sz w) = rcV r (.slice a r.list.length c) := by rw [fW2.mm hs1 (by simp), f1.mm hsW (by simp), hm]
    have hz2 : mm W2 (sz w1) = shB false true false false false := by rw [hW2]; exact mm_wr_same (by simp [fz_nw]) _
    have hsz2 : sz w1 < sz W2 := by rw [hW2, sz_wr, sz_nw]; omega
    have hsz1 : sz w < sz W2 := by omega
    have hsw1 := fW.size
    have hsw2 := f1.size
    have g2 : Fr [] w W2 := (fW.trans0 f1).trans0 fW2
    have hpF : sz w ∉ F := fun h => by have := hFs _ h; omega
    have hqF : sz w1 ∉ F := fun h => by have := hFs _ h; omega
    have hw2 : IsW W2 b (B ++ encAll []) F := by rw [encAll_nil, List.append_nil]; exact hw.fr0 g2
    try simp (maxDischargeDepth := 8) [↓sC, sB, sM, hs5, shB_one, ← hW2, hm2, hz2, hkw]
    refine (stUi hw2 hB (fun p hp => by cases hp) (by simp) hkn (by omega)).call ?_
    rintro _ w3 ⟨rfl, F3, hM3⟩
    have m3 := hM3
    have hp3 : mm w3 (sz w) = rcV r (.slice a r.list.length c) := by rw [m3.keep hsz1 hpF, hm2]
    have hz3 : mm w3 (sz w1) = shB false true false false false := by rw [m3.keep hsz2 hqF, hz2]
    try simp (maxDischargeDepth := 8) [↓sC, sB, sM, hp3, hz3]
    refine (stI m3.is hB (ok_uP hkn) (by simp) (hr.2.2.1)).call ?_
    rintro _ w4 ⟨rfl, F4, hM4⟩
    have m4 := m3.trans hM4
    have hp4 : mm w4 (sz w) = rcV r (.slice a r.list.length c) := by rw [m4.keep hsz1 hpF, hm2]
    have hz4 : mm w4 (sz w1) = shB false true false false false := by rw [m4.keep hsz2 hqF, hz2]
    try simp (maxDischargeDepth := 8) [↓sC, sB, sM, hp4, hz4]
    have hrp : recP r = [uP r.kind.toNat, iP r.num] := by unfold recP; rw [if_neg (by omega), if_neg (by omega), if_pos hk]; rfl
    rw [hrp]
    exact ⟨F4, m4.is, g2.mono (T := F) (by simp) |>.trans m4.fr (fun k hk => .inl hk), fun k hk => (m4.new k hk).imp id fun h => Nat.le_trans g2.size h⟩
  · rw [hs]
    obtain ⟨W2, hW2⟩ : ∃ W2, W2 = wr (nw w1 [Value.bool false, Value.bool false, Value.bool false, Value.bool false, Value.bool false] 144) (sz w1) (shB false true true false false) := ⟨_, rfl⟩
    have fW2 : Fr [] w1 W2 := by rw [hW2]; exact ((Fr.refl [] w1).nw _ _).wr (.inr (Nat.le_refl _)) _
    have hm2 : mm W2 (sz w) = rcV r (.slice a r.list.length c) := by rw [fW2.mm hs1 (by simp), f1.mm hsW (by simp), hm]
    have hz2 : mm W2 (sz w1) = shB false true true false false := by rw [hW2]; exact mm_wr_same (by simp [fz_nw]) _
    have hsz2 : sz w1 < sz W2 := by rw [hW2, sz_wr, sz_nw]; omega
    have hsz1 : sz w < sz W2 := by omega
    have hsw1 := fW.size
    have hsw2 := f1.size
    have g2 : Fr [] w W2 := (fW.trans0 f1).trans0 fW2
    have hpF : sz w ∉ F := fun h => by have := hFs _ h; omega
    have hqF : sz w1 ∉ F := fun h => by have := hFs _ h; omega
    have hw2 : IsW W2 b (B ++ encAll []) F := by rw [encAll_nil, List.append_nil]; exact hw.fr0 g2
    try simp (maxDischargeDepth := 8) [↓sC, sB, sM, hs5, shB_one, ← hW2, hm2, hz2, hkw]
    refine (stUi hw2 hB (fun p hp => by cases hp) (by simp) hkn (by omega)).call ?_
    rintro _ w3 ⟨rfl, F3, hM3⟩
    have m3 := hM3
    have hp3 : mm w3 (sz w) = rcV r (.slice a r.list.length c) := by rw [m3.keep hsz1 hpF, hm2]
    have hz3 : mm w3 (sz w1) = shB false true true false false := by rw [m3.keep hsz2 hqF, hz2]
    try simp (maxDischargeDepth := 8) [↓sC, sB, sM, hp3, hz3]
    refine (stI m3.is hB (ok_uP hkn) (by simp) (hr.2.2.2.1)).call ?_
    rintro _ w4 ⟨rfl, F4, hM4⟩
    have m4 := m3.trans hM4
    have hp4 : mm w4 (sz w) = rcV r (.slice a r.list.length c) := by rw [m4.keep hsz1 hpF, hm2]
    have hz4 : mm w4 (sz w1) = shB false true true false false := by rw [m4.keep hsz2 hqF, hz2]
    try simp (maxDischargeDepth := 8) [↓sC, sB, sM, hp4, hz4]
    refine (stI m4.is hB (okPL_app (ok_uP hkn) (ok_iP hr.2.2.2.1)) (by simp) (hr.2.2.2.2.1)).call ?_
    rintro _ w5 ⟨rfl, F5, hM5⟩
    have m5 := m4.trans hM5
    have hp5 : mm w5 (sz w) = rcV r (.slice a r.list.length c) := by rw [m5.keep hsz1 hpF, hm2]
    have hz5 : mm w5 (sz w1) = shB false true true false false := by rw [m5.keep hsz2 hqF, hz2]
    try simp (maxDischargeDepth := 8) [↓sC, sB, sM, hp5, hz5]
    refine (stI m5.is hB (okPL_app (okPL_app (ok_uP hkn) (ok_iP hr.2.2.2.1)) (ok_iP hr.2.2.2.2.1)) (by simp) (hr.2.2.1)).call ?_
    rintro _ w6 ⟨rfl, F6, hM6⟩
    have m6 := m5.trans hM6
    have hp6 : mm w6 (sz w) = rcV r (.slice a r.list.length c) := by rw [m6.keep hsz1 hpF, hm2]
    have hz6 : mm w6 (sz w1) = shB false true true false false := by rw [m6.keep hsz2 hqF, hz2]
    try simp (maxDischargeDepth := 8) [↓sC, sB, sM, hp6, hz6]
    have hrp : recP r = [uP r.kind.toNat, iP r.low, iP r.high, iP r.num] := by simp [recP, hk]
    rw [hrp]
    exact ⟨F6, m6.is, g2.mono (T := F) (by simp) |>.trans m6.fr (fun k hk => .inl hk), fun k hk => (m6.new k hk).imp id fun h => Nat.le_trans g2.size h⟩
  · rw [hs]
    obtain ⟨W2, hW2⟩ : ∃ W2, W2 = wr (nw w1 [Value.bool false, Value.bool false, Value.bool false, Value.bool false, Value.bool false] 144) (sz w1) (shB false false false true false) := ⟨_, rfl⟩
    have fW2 : Fr [] w1 W2 := by rw [hW2]; exact ((Fr.refl [] w1).nw _ _).wr (.inr (Nat.le_refl _)) _
    have hm2 : mm W2 (sz w) = rcV r (.slice a r.list.length c) := by rw [fW2.mm hs1 (by simp), f1.mm hsW (by simp), hm]
    have hz2 : mm W2 (sz w1) = shB false false false true false := by rw [hW2]; exact mm_wr_same (by simp [fz_nw]) _
    have hsz2 : sz w1 < sz W2 := by rw [hW2, sz_wr, sz_nw]; omega
    have hsz1 : sz w < sz W2 := by omega
    have hsw1 := fW.size
    have hsw2 := f1.size
    have g2 : Fr [] w W2 := (fW.trans0 f1).trans0 fW2
    have hpF : sz w ∉ F := fun h => by have := hFs _ h; omega
    have hqF : sz w1 ∉ F := fun h => by have := hFs _ h; omega
    have hw2 : IsW W2 b (B ++ encAll []) F := by rw [encAll_nil, List.append_nil]; exact hw.fr0 g2
    try simp (maxDischargeDepth := 8) [↓sC, sB, sM, hs5, shB_one, ← hW2, hm2, hz2, hkw]
    refine (stUi hw2 hB (fun p hp => by cases hp) (by simp) hkn (by omega)).call ?_
    rintro _ w3 ⟨rfl, F3, hM3⟩
    have m3 := hM3
    have hp3 : mm w3 (sz w) = rcV r (.slice a r.list.length c) := by rw [m3.keep hsz1 hpF, hm2]
    have hz3 : mm w3 (sz w1) = shB false false false true false := by rw [m3.keep hsz2 hqF, hz2]
    try simp (maxDischargeDepth := 8) [↓sC, sB, sM, hp3, hz3]
    refine (stF m3.is hB (ok_uP hkn) (by simp) (hr.2.2.2.2.2.1)).call ?_
    rintro _ w4 ⟨rfl, F4, hM4⟩
    have m4 := m3.trans hM4
    have hp4 : mm w4 (sz w) = rcV r (.slice a r.list.length c) := by rw [m4.keep hsz1 hpF, hm2]
    have hz4 : mm w4 (sz w1) = shB false false false true false := by rw [m4.keep hsz2 hqF, hz2]
    try simp (maxDischargeDepth := 8) [↓sC, sB, sM, hp4, hz4]
    have hrp : recP r = [uP r.kind.toNat, fP r.real] := by unfold recP; rw [if_neg (by omega), if_neg (by omega), if_neg (by omega), if_pos hk]; rfl
    rw [hrp]
    exact ⟨F4, m4.is, g2.mono (T := F) (by simp) |>.trans m4.fr (fun k hk => .inl hk), fun k hk => (m4.new k hk).imp id fun h => Nat.le_trans g2.size h⟩
  · rw [hs]
    obtain ⟨W2, hW2⟩ : ∃ W2, W2 = wr (nw w1 [Value.bool false, Value.bool false, Value.bool false, Value.bool false, Value.bool false] 144) (sz w1) (shB false false false false true) := ⟨_, rfl⟩
    have fW2 : Fr [] w1 W2 := by rw [hW2]; exact ((Fr.refl [] w1).nw _ _).wr (.inr (Nat.le_refl _)) _
    have hm2 : mm W2 (sz w) = rcV r (.slice a r.list.length c) := by rw [fW2.mm hs1 (by simp), f1.mm hsW (by simp), hm]
    have hz2 : mm W2 (sz w1) = shB false false false false true := by rw [hW2]; exact mm_wr_same (by simp [fz_nw]) _
    have hsz2 : sz w1 < sz W2 := by rw [hW2, sz_wr, sz_nw]; omega
    have hsz1 : sz w < sz W2 := by omega
    have hsw1 := fW.size
    have hsw2 := f1.size
    have g2 : Fr [] w W2 := (fW.trans0 f1).trans0 fW2
    have hpF : sz w ∉ F := fun h => by have := hFs _ h; omega
    have hqF : sz w1 ∉ F := fun h => by have := hFs _ h; omega
    have hw2 : IsW W2 b (B ++ encAll []) F := by rw [encAll_nil, List.append_nil]; exact hw.fr0 g2
    try simp (maxDischargeDepth := 8) [↓sC, sB, sM, hs5, shB_one, ← hW2, hm2, hz2, hkw]
    refine (stUi hw2 hB (fun p hp => by cases hp) (by simp) hkn (by omega)).call ?_
    rintro _ w3 ⟨rfl, F3, hM3⟩
    have m3 := hM3
    obtain ⟨q1, q2, q3, q4⟩ := hok.cap (by omega)
    have hcn : r.cap.toNat < 2 * H63 := by unfold H63; omega
    have hln : r.list.length < 2 * H63 := by unfold H63; omega
    have hcw := wrap_kind (k := r.cap) (by omega) (by omega)
    have hlw : IntKind.u64.wrap (r.list.length : Int) = (r.list.length : Int) := wrapu hln
    have hp3 : mm w3 (sz w) = rcV r (.slice a r.list.length c) := by rw [m3.keep hsz1 hpF, hm2]
    have hz3 : mm w3 (sz w1) = shB false false false false true := by rw [m3.keep hsz2 hqF, hz2]
    try simp (maxDischargeDepth := 8) [↓sC, sB, sM, hp3, hz3, hcw, hlw]
    refine (stUi m3.is hB (ok_uP hkn) (by simp) (hcn) (by omega)).call ?_
    rintro _ w4 ⟨rfl, F4, hM4⟩
    have m4 := m3.trans hM4
    have hp4 : mm w4 (sz w) = rcV r (.slice a r.list.length c) := by rw [m4.keep hsz1 hpF, hm2]
    have hz4 : mm w4 (sz w1) = shB false false false false true := by rw [m4.keep hsz2 hqF, hz2]
    try simp (maxDischargeDepth := 8) [↓sC, sB, sM, hp4, hz4, hcw, hlw]
    refine (stU m4.is hB (okPL_app (ok_uP hkn) (ok_uP hcn)) (by simp) (hln)).call ?_
    rintro _ w5 ⟨rfl, F5, hM5⟩
    have m5 := m4.trans hM5
    have hp5 : mm w5 (sz w) = rcV r (.slice a r.list.length c) := by rw [m5.keep hsz1 hpF, hm2]
    have hz5 : mm w5 (sz w1) = shB false false false false true := by rw [m5.keep hsz2 hqF, hz2]
    try simp (maxDischargeDepth := 8) [↓sC, sB, sM, hp5, hz5]
    have hnl := names_le hok hr.2
    have hlvs : 0 < r.list.length → ∀ k, (Value.slice a r.list.length c).ownBlock = some k → k < sz w0 := fun h k hk => rd_lt hr0.1 h hk
    have hrp : recP r = [uP r.kind.toNat, uP r.cap.toNat, uP r.list.length] ++ r.list.flatMap (itP r.kind) := by unfold recP; rw [if_neg (by omega), if_neg (by omega), if_neg (by omega), if_neg (by omega)]; rfl
    rw [hrp]
    refine loopE_of (PutI W2 b (sz w) B [uP r.kind.toNat, uP r.cap.toNat, uP r.list.length] F (.slice a r.list.length c) r) r.list.length ⟨0, F5, by omega, by omega, by simpa using m5, by simp [put_get, argE_get], by simp [put_get], by simp [put_get], by simp [put_get], by simp [put_get]⟩ ?_
    rintro m e w9 hI
    obtain ⟨j, F9, rfl, hj, m9, e0, e3, e58, e59, e60⟩ := id hI
    by_cases hjl : j < r.list.length
    · exact put_step hB (okPL_app (okPL_app (ok_uP hkn) (ok_uP hcn)) (ok_uP hln)) (by simp) hsz1 hpF hm2 (hr.fr0 g2).1 (fun h k hk hkF => by have := hlvs h k hk; have := hO.own k hkF; omega) (fun h k hk => by have := hlvs h k hk; have := hO.fr.size; have := g2.size; omega) hnl (by omega) hjl hI fun e' w'' hK => ⟨r.list.length - (j + 1), by omega, hK⟩
    have : j = r.list.length := by omega
    subst this
    rw [List.take_length] at m9
    unfold F49B0
    try simp (maxDischargeDepth := 8) [↓sC, sB, sM, e59, e60]
    exact ⟨F9, m9.is, g2.mono (T := F) (by simp) |>.trans m9.fr (fun k hk => .inl hk), fun k hk => (m9.new k hk).imp id fun h => Nat.le_trans g2.size h⟩
end Go.Proofs.YtieejbkbdfccdaaGreat

set_option linter.unusedVariables false
set_option linter.unusedSimpArgs false
namespace Go.Proofs.YtieejbkbdfccdaaGreat
open Go
theorem recP_ok {r : RecP} (hk : RecOk r) (ho : okR r) : okPL (recP r) ∧ (recP r).length ≤ 67 := by
  have hn := names_le hk ho
  have hkn : r.kind.toNat < 2 * H63 := by have := hk.k9; unfold H63; omega
  have hlen := items_lenPL r.kind r.list
  unfold recP
  by_cases h1 : r.kind = 1
  · rw [if_pos h1]; exact ⟨okPL_app (ok_uP hkn) (ok_sP (hk.text h1)), by simp⟩
  rw [if_neg h1]
  by_cases h4 : r.kind = 4
  · rw [if_pos h4]; exact ⟨okPL_app (ok_uP hkn) (okPL_app (L := [iP r.low]) (ok_iP ho.2.2.1) (okPL_app (L := [iP r.high]) (ok_iP ho.2.2.2.1) (ok_iP ho.2.1))), by simp⟩
  rw [if_neg h4]
  by_cases h2 : r.kind = 2 ∨ r.kind = 3
  · rw [if_pos h2]; exact ⟨okPL_app (ok_uP hkn) (ok_iP ho.2.1), by simp⟩
  rw [if_neg h2]
  by_cases h5 : r.kind = 5 ∨ r.kind = 6 ∨ r.kind = 7
  · rw [if_pos h5]; exact ⟨okPL_app (ok_uP hkn) (ok_fP ho.2.2.2.2.1), by simp⟩
  rw [if_neg h5]
  obtain ⟨q1, q2, q3, q4⟩ := hk.cap (by have := hk.k1; omega)
  have hl : r.list.length ≤ 32 := by omega
  exact ⟨okPL_app (ok_uP hkn) (okPL_app (okPL_app (L := [uP r.cap.toNat]) (ok_uP (by unfold H63; omega)) (ok_uP (by unfold H63; omega))) (items_okPL hn)), by simp only [List.length_append, List.length_cons, List.length_nil]; omega⟩
/-- What a Writer that was made here leaves. -/
theorem More.done {w w1 w2 : World} {b : Nat} {B : List UInt8} {F : List Nat} (h : More w1 b B [b] w2 F) (hf : Fr [] w w1) (hb : sz w ≤ b) : Fr [] w w2 := hf.trans h.fr fun k hk => .inr (by simp at hk; omega)
theorem newW {w : World} : IsW (nw w [Value.slice none 0 0] 115) (sz w) [] [sz w] := by
  refine ⟨.slice none 0 0, by simp [sM], by simp [sM], World.ownsRow_nil _ _ _ _, by simp [Value.ownBlock], by simp, by simp [sM]⟩
def rz : RecP := ⟨0, 0, 0, 0, 0, 0, [], []⟩
def zeroR (r : RecP) : Prop := r.kind = 0 ∧ r.num = 0 ∧ r.low = 0 ∧ r.high = 0 ∧ r.cap = 0 ∧ r.text = [] ∧ key r.real = key 0 ∧ r.list = []
theorem refZero_spec {w : World} {r : RecP} {a : Option Addr} {c : Nat} (hr : IsRec w (.slice a r.list.length c) r) :
    Ret P 40 #[.agg (rcV r (.slice a r.list.length c)).toArray, .agg (rcV rz (.slice none 0 0)).toArray] w fun v w' => ∃ b, v = .bool b ∧ (b = true → zeroR r) ∧ Fr [] w w' := by
  refine F40ok ?_
  unfold F40
  obtain ⟨W, hW⟩ : ∃ W, W = nw (nw w (rcV r (.slice a r.list.length c)) 61) (rcV rz (.slice none 0 0)) 61 := ⟨_, rfl⟩
  have fW : Fr [] w W := by rw [hW]; exact ((Fr.refl [] w).nw _ _).nw _ _
  have hs : sz W = sz w + 2 := by rw [hW]; simp [sz_nw]
  have m1 : mm W (sz w) = rcV r (.slice a r.list.length c) := by rw [hW]; simp [mm_nw, sz_nw]
  have m2 : mm W (sz w + 1) = rcV rz (.slice none 0 0) := by rw [hW]; simp [mm_nw, sz_nw]
  have z0 : rz.kind = 0 := rfl
  have z1 : rz.num = 0 := rfl
  have z2 : rz.low = 0 := rfl
  have z3 : rz.high = 0 := rfl
  have z4 : rz.real = 0 := rfl
  have z5 : rz.cap = 0 := rfl
  have z6 : rz.text = [] := rfl
  have hne : ∀ l m w, pBin P .neq 9 false (strB l) (strB m) w = some (.bool (decide (l ≠ m)), w) := fun l m w => ne_strB
  try simp (maxDischargeDepth := 8) [↓sC, sB, sM, rcC, ← hW]
  rcases (Decidable.em (r.kind = 0)).symm with c0 | c0
  · try simp (maxDischargeDepth := 8) [↓sC, sB, sM, m1, m2, z0, z1, z2, z3, z5, z6, hne, c0]
    exact fW
  rcases (Decidable.em (r.num = 0)).symm with c1 | c1
  · try simp (maxDischargeDepth := 8) [↓sC, sB, sM, m1, m2, z0, z1, z2, z3, z5, z6, hne, c0, c1]
    exact fW
  rcases (Decidable.em (r.low = 0)).symm with c2 | c2
  · try simp (maxDischargeDepth := 8) [↓sC, sB, sM, m1, m2, z0, z1, z2, z3, z5, z6, hne, c0, c1, c2]
    exact fW
  rcases (Decidable.em (r.high = 0)).symm with c3 | c3
  · try simp (maxDischargeDepth := 8) [↓sC, sB, sM, m1, m2, z0, z1, z2, z3, z5, z6, hne, c0, c1, c2, c3]
    exact fW
  rcases (Decidable.em (r.cap = 0)).symm with c4 | c4
  · try simp (maxDischargeDepth := 8) [↓sC, sB, sM, m1, m2, z0, z1, z2, z3, z5, z6, hne, c0, c1, c2, c3, c4]
    exact fW
  rcases (Decidable.em (r.text = [])).symm with c5 | c5
  · try simp (maxDischargeDepth := 8) [↓sC, sB, sM, m1, m2, z0, z1, z2, z3, z5, z6, hne, c0, c1, c2, c3, c4, c5]
    exact fW
  try simp (maxDischargeDepth := 8) [↓sC, sB, sM, m1, m2, z0, z1, z2, z3, z4, z5, z6, hne, c0, c1, c2, c3, c4, c5]
  refine (refSame_spec hr.2.2.2.2.2.1 (b := 0) (by unfold H63; omega)).call ?_
  rintro _ w1 ⟨rfl, f1⟩
  have n1 : mm w1 (sz w) = rcV r (.slice a r.list.length c) := by rw [f1.mm (by omega) (by simp), m1]
  have n2 : mm w1 (sz w + 1) = rcV rz (.slice none 0 0) := by rw [f1.mm (by omega) (by simp), m2]
  have g1 := fW.trans0 f1
  rcases (Decidable.em (key r.real = key 0)).symm with c6 | c6
  · try simp (maxDischargeDepth := 8) [↓sC, sB, sM, c6, n1, n2]
    exact g1
  have hll : ((r.list.length : Int) = 0) = (r.list = []) := by simp
  rcases (Decidable.em (r.list = [])).symm with c7 | c7
  · try simp (maxDischargeDepth := 8) [↓sC, sB, sM, c6, n1, n2, c7]
    exact g1
  try simp (maxDischargeDepth := 8) [↓sC, sB, sM, c6, n1, n2, c7]
  refine loopE_of (fun m e w' => e 2 = pt (sz w) 0 ∧ e 5 = i64 0 ∧ w' = w1) 0 ⟨by simp [put_get], by simp [put_get], rfl⟩ ?_
  rintro m e w2 ⟨e2, e5, rfl⟩
  unfold F40B0
  try simp (maxDischargeDepth := 8) [↓sC, sB, sM, e2, e5, n1, c7]
  exact ⟨⟨c0, c1, c2, c3, c4, c5, c6, c7⟩, g1⟩
/-! ### Sizes that are looked at -/
def BigI (w0 : World) (v : Value) (n : Nat) (m : Nat) (e : Env) (w' : World) : Prop := ∃ j : Nat, m = n - j ∧ j ≤ n ∧ e 16 = v ∧ e 17 = i64 n ∧ e 18 = i64 j ∧ Fr [] w0 w'
theorem bigR_spec {w : World} {r : RecP} {a : Option Addr} {c : Nat} (hr : IsRec w (.slice a r.list.length c) r) :
    Ret P 17 #[.agg (rcV r (.slice a r.list.length c)).toArray] w fun v w' => (v = i64 0 ∨ v = i64 1) ∧ Fr [] w w' := by
  refine F17ok ?_
  unfold F17
  obtain ⟨W, hW⟩ : ∃ W, W = nw w (rcV r (.slice a r.list.length c)) 61 := ⟨_, rfl⟩
  have fW : Fr [] w W := by rw [hW]; exact (Fr.refl [] w).nw _ _
  have hm : mm W (sz w) = rcV r (.slice a r.list.length c) := by rw [hW]; simp [mm_nw]
  have hlen : ∀ l w, pBuiltin P .len #[9] 3 [strB l] w = some (i64 l.length, w) := fun l w => len_strB und9
  try simp (maxDischargeDepth := 8) [↓sC, sB, sM, rcC, ← hW, hm]
  by_cases h1 : (100 : Int) < r.list.length
  · try simp (maxDischargeDepth := 8) [↓sC, sB, sM, h1]
    exact fW
  by_cases h2 : (1000 : Int) < r.text.length
  · try simp (maxDischargeDepth := 8) [↓sC, sB, sM, h1, h2, hm, hlen]
    exact fW
  try simp (maxDischargeDepth := 8) [↓sC, sB, sM, h1, h2, hm, hlen]
  refine loopE_of (BigI W (.slice a r.list.length c) r.list.length) r.list.length ⟨0, by omega, by omega, by simp [put_get], by simp [put_get], by simp [put_get], Fr.refl [] W⟩ ?_
  rintro m e w1 ⟨j, rfl, hj, e16, e17, e18, hf⟩
  unfold F17B0
  by_cases hjl : j < r.list.length
  · obtain ⟨x, hx⟩ : ∃ x, r.list[j]? = some x := ⟨_, List.getElem?_eq_getElem hjl⟩
    obtain ⟨lb, o, c', hv, hb, hin, htk⟩ := flat_at ((hr.fr0 fW).fr0 hf).1 (itemV_len r.list) (by omega) hx
    rw [hv] at e16
    have hji : (j : Int) < r.list.length := by omega
    have hwj : IntKind.i64.wrap ((j : Int) + 1) = ((j + 1 : Nat) : Int) := wrap64 (by omega) (by omega)
    have hs2 : ∀ l : List Value, l.length = 2 → splice l 0 (itemV x) = itemV x := fun l hl => splice_full (by rw [hl]; rfl)
    obtain ⟨W2, hW2⟩ : ∃ W2, W2 = wr (nw w1 [Value.float FloatKind.f64 0, Value.string ByteArray.empty] 105) (sz w1) (itemV x) := ⟨_, rfl⟩
    have fW2 : Fr [] w1 W2 := by rw [hW2]; exact ((Fr.refl [] w1).nw _ _).wr (.inr (Nat.le_refl _)) _
    have hmx : mm W2 (sz w1) = itemV x := by rw [hW2]; exact mm_wr_same (by simp [fz_nw]) _
    by_cases h3 : (100 : Int) < x.name.length
    · try simp (maxDischargeDepth := 8) [↓sC, sB, sM, e16, e17, e18, hji, hjl, hin, htk, hs2, itemV_oneT, hlen, ← hW2, hmx, h3]
      exact (fW.trans0 hf).trans0 fW2
    · try simp (maxDischargeDepth := 8) [↓sC, sB, sM, e16, e17, e18, hji, hjl, hin, htk, hs2, itemV_oneT, hlen, ← hW2, hmx, h3, hwj, -Int.natCast_add]
      exact ⟨r.list.length - (j + 1), by omega, j + 1, rfl, by omega, by simp [put_get, e16, hv], by simp [put_get, e17], by simp [put_get], hf.trans0 fW2⟩
  · have : j = r.list.length := by omega
    subst this
    try simp (maxDischargeDepth := 8) [↓sC, sB, sM, e16, e17, e18]
    exact fW.trans0 hf
end Go.Proofs.YtieejbkbdfccdaaGreat
