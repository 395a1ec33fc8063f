/- Records as the program checks and writes them. -/
import Derived.Test.YtieejbkbdfccdaaDoorSim
import Derived.Test.YtieejbkbdfccdaaDoorR4
import Derived.Test.YtieejbkbdfccdaaDoorPackW
import Derived.Laws.Cover1
set_option linter.unusedVariables false
set_option linter.unusedSimpArgs false
namespace Go.Proofs.YtieejbkbdfccdaaDoor
open Go

theorem ge_strB {t : TypeId} {lit : Bool} {l m : List UInt8} {w : World} : pBin P .geq t lit (strB l) (strB m) w = some (.bool (!Op.bytesLess l m), w) := by
  simp only [pBin, runV, strB, eqGuard_at_string, Sem.run_bind, Sem.run_pure, Result.andThen_ok]
  simp only [binOp, Op.stringOp, ByteArray.toList_eq, Sem.run_pure]
def ItI (w0 : World) (k : Int) (v : Value) (n : Nat) (m : Nat) (e : Env) (w' : World) : Prop :=
  ∃ j : Nat, m = n - j ∧ j ≤ n ∧ e 0 = i64 k ∧ e 1 = v ∧ e 7 = v ∧ e 8 = i64 n ∧ e 9 = i64 j ∧ Fr [] w0 w'
theorem items_step {w : World} {k : Int} {a : Option Addr} {c : Nat} {L : List ItemP} (hr : RdV w (.slice a L.length c) L.length (flat itemV L)) (hok : ∀ x ∈ L, okI x) (hL : L.length ≤ 1000000) {j : Nat} (hP : itemP k L j) {e : Env} {w1 : World} (hj : j < L.length)
    (hI : ItI w k (.slice a L.length c) L.length (L.length - j) e w1) {K : KT} (hK : ∀ e' w'', ItI w k (.slice a L.length c) L.length (L.length - (j + 1)) e' w'' → K .normal e' w'') : F58B0 e w1 K := by
  obtain ⟨j', hmj, hj', e0, e1, e7, e8, e9, hf⟩ := hI
  obtain rfl : j = j' := by omega
  unfold F58B0
  obtain ⟨x, hx⟩ : ∃ x, L[j]? = some x := ⟨_, List.getElem?_eq_getElem hj⟩
  have hxok := hok x (List.mem_of_getElem? hx)
  obtain ⟨c1, hz, hp, hord⟩ := hP x hx
  have hr1 := hr.fr0 hf
  obtain ⟨b, o, c', hv, hb, hin, htk⟩ := flat_at hr1 (itemV_len L) (by omega) hx
  simp only [Value.slice.injEq] at hv
  obtain ⟨rfl, _, rfl⟩ := hv
  have hji : (j : Int) < L.length := by omega
  have hwj : IntKind.i64.wrap ((j : Int) + 1) = ((j + 1 : Nat) : Int) := wrap64 (by omega) (by omega)
  have hs2 : ∀ l : List Value, l.length = 2 → splice l 0 (itemV x) = itemV x := fun l hl => splice_full (by rw [hl]; rfl)
  obtain ⟨W, hW⟩ : ∃ W, W = wr (nw w1 [Value.float FloatKind.f64 0, Value.string ByteArray.empty] 80) (sz w1) (itemV x) := ⟨_, rfl⟩
  have fW : Fr [] w1 W := by rw [hW]; exact ((Fr.refl [] w1).nw _ _).wr (.inr (Nat.le_refl _)) _
  have hm : mm W (sz w1) = itemV x := by rw [hW]; exact mm_wr_same (by simp [fz_nw]) _
  have hsW : sz w1 < sz W := by rw [hW, sz_wr, sz_nw]; omega
  have hlen : ∀ w, pBuiltin P .len #[9] 3 [strB x.name] w = some (i64 x.name.length, w) := fun w => len_strB und9
  have c1i : ¬ (16 : Int) < x.name.length := by omega
  try simp (maxDischargeDepth := 8) [↓sC, sB, sM, e7, e8, e9, hji, hj, hin, htk, hs2, itemV_oneT, hlen, ← hW, hm]
  rcases Nat.eq_zero_or_pos j with i0 | i0
  · subst i0
    by_cases k8 : k = 8
    · subst k8
      try simp (maxDischargeDepth := 8) [↓sC, sB, sM, e0, c1i, hm]
      refine (same_spec hxok (b := 0) (by unfold H63; omega)).call ?_
      rintro _ w2 ⟨rfl, f1⟩
      have hm1 : mm w2 (sz w1) = itemV x := by rw [f1.mm hsW (by simp), hm]
      rw [decide_eq_true (hz rfl)]
      try simp (maxDischargeDepth := 8) [↓sC, sB, sM, hm1]
      refine (proper_spec hxok).call ?_
      rintro _ w3 ⟨rfl, f2⟩
      have hsf := (f1.trans0 f2).size
      have hm2 : mm w3 (sz w1) = itemV x := by rw [(f1.trans0 f2).mm hsW (by simp), hm]
      have g3 : Fr [] w1 w3 := (fW.trans0 f1).trans0 f2
      rw [decide_eq_true hp]
      try simp (maxDischargeDepth := 8) [↓sC, sB, sM, hm2, e0, e1, e9, wrap_1]
      exact hK _ _ ⟨1, rfl, by omega, by simp [put_get, e0], by simp [put_get, e1], by simp [put_get, e7], by simp [put_get, e8], by simp [put_get], (hf.trans0 g3).drew.drew⟩
    · skip
      try simp (maxDischargeDepth := 8) [↓sC, sB, sM, e0, c1i, k8, hm]
      have f1 : Fr [] W W := Fr.refl [] W
      refine (proper_spec hxok).call ?_
      rintro _ w3 ⟨rfl, f2⟩
      have hsf := (f1.trans0 f2).size
      have hm2 : mm w3 (sz w1) = itemV x := by rw [(f1.trans0 f2).mm hsW (by simp), hm]
      have g3 : Fr [] w1 w3 := (fW.trans0 f1).trans0 f2
      rw [decide_eq_true hp]
      try simp (maxDischargeDepth := 8) [↓sC, sB, sM, hm2, e0, e1, e9, wrap_1, k8]
      exact hK _ _ ⟨1, rfl, by omega, by simp [put_get, e0], by simp [put_get, e1], by simp [put_get, e7], by simp [put_get, e8], by simp [put_get], (hf.trans0 g3).drew.drew⟩
  · obtain ⟨y, hy⟩ : ∃ y, L[j - 1]? = some y := ⟨_, List.getElem?_eq_getElem (by omega)⟩
    have hyok := hok y (List.mem_of_getElem? hy)
    obtain ⟨hp8, hp9⟩ := hord y i0 hy
    obtain ⟨b', o', c', hv', hb', hin', htk'⟩ := flat_at hr1 (itemV_len L) (by omega) hy
    simp only [Value.slice.injEq, Option.some.injEq, Addr.mk.injEq] at hv'
    obtain ⟨⟨rfl, rfl, _⟩, _, rfl⟩ := hv'
    have hwm : IntKind.i64.wrap ((j : Int) - 1) = ((j - 1 : Nat) : Int) := by rw [wrap64 (by omega) (by omega)]; omega
    have i0i : (0 : Int) < j := by omega
    have him : ((j - 1 : Nat) : Int) < L.length := by omega
    have him' : j - 1 < L.length := by omega
    have hge : ∀ w, pBin P .geq 9 false (strB y.name) (strB x.name) w = some (.bool (!Op.bytesLess y.name x.name), w) := fun w => ge_strB
    by_cases k8 : k = 8
    · subst k8
      try simp (maxDischargeDepth := 8) [↓sC, sB, sM, e0, c1i, hm]
      refine (same_spec hxok (b := 0) (by unfold H63; omega)).call ?_
      rintro _ w2 ⟨rfl, f1⟩
      have hm1 : mm w2 (sz w1) = itemV x := by rw [f1.mm hsW (by simp), hm]
      rw [decide_eq_true (hz rfl)]
      try simp (maxDischargeDepth := 8) [↓sC, sB, sM, hm1]
      refine (proper_spec hxok).call ?_
      rintro _ w3 ⟨rfl, f2⟩
      have hsf := (f1.trans0 f2).size
      have hm2 : mm w3 (sz w1) = itemV x := by rw [(f1.trans0 f2).mm hsW (by simp), hm]
      have g3 : Fr [] w1 w3 := (fW.trans0 f1).trans0 f2
      rw [decide_eq_true hp]
      have q1 : o + (j - 1) * 2 + 2 ≤ (mm w3 b).length := by rw [g3.mm hb (by simp)]; exact hin'
      have q2 : ((mm w3 b).drop (o + (j - 1) * 2)).take 2 = itemV y := by rw [g3.mm hb (by simp)]; exact htk'
      have q3 : o + (j - 1) * 2 + 1 < (mm w3 b).length := by omega
      have q4 : gt (mm w3 b) (o + (j - 1) * 2 + 1) = strB y.name := by rw [cell_of q2 (by omega)]; rfl
      try simp (maxDischargeDepth := 8) [↓sC, sB, sM, e0, e1, e9, i0i, i0, hwm, hwj, him, him', hm2, q1, q2, q3, q4, hge, hp8 rfl, -Int.natCast_add]
      exact hK _ _ ⟨j + 1, rfl, by omega, by simp [put_get, e0], by simp [put_get, e1], by simp [put_get, e7], by simp [put_get, e8], by simp [put_get], (hf.trans0 g3).drew.drew⟩
    · skip
      try simp (maxDischargeDepth := 8) [↓sC, sB, sM, e0, c1i, k8, hm]
      have f1 : Fr [] W W := Fr.refl [] W
      refine (proper_spec hxok).call ?_
      rintro _ w3 ⟨rfl, f2⟩
      have hsf := (f1.trans0 f2).size
      have hm2 : mm w3 (sz w1) = itemV x := by rw [(f1.trans0 f2).mm hsW (by simp), hm]
      have g3 : Fr [] w1 w3 := (fW.trans0 f1).trans0 f2
      rw [decide_eq_true hp]
      have q1 : o + (j - 1) * 2 + 2 ≤ (mm w3 b).length := by rw [g3.mm hb (by simp)]; exact hin'
      have q2 : ((mm w3 b).drop (o + (j - 1) * 2)).take 2 = itemV y := by rw [g3.mm hb (by simp)]; exact htk'
      have q3 : o + (j - 1) * 2 + 1 < (mm w3 b).length := by omega
      have q4 : gt (mm w3 b) (o + (j - 1) * 2 + 1) = strB y.name := by rw [cell_of q2 (by omega)]; rfl
      by_cases k9 : k = 9
      · subst k9
        try simp (maxDischargeDepth := 8) [↓sC, sB, sM, e0, e1, e9, i0i, i0, hwm, hwj, him, him', hm2, q1, q2, q3, q4, hge, k8]
        refine (better_spec hyok hxok).call ?_
        rintro _ w4 ⟨rfl, f3⟩
        rw [hp9 rfl]
        try simp (maxDischargeDepth := 8) [↓sC, sB, sM, e9, hwj, -Int.natCast_add]
        exact hK _ _ ⟨j + 1, rfl, by omega, by simp [put_get, e0], by simp [put_get, e1], by simp [put_get, e7], by simp [put_get, e8], by simp [put_get], ((hf.trans0 g3).drew.drew).trans0 f3⟩
      · try simp (maxDischargeDepth := 8) [↓sC, sB, sM, e0, e1, e9, i0i, i0, hwm, hwj, him, him', hm2, q1, q2, q3, q4, hge, k8, k9, -Int.natCast_add]
        exact hK _ _ ⟨j + 1, rfl, by omega, by simp [put_get, e0], by simp [put_get, e1], by simp [put_get, e7], by simp [put_get, e8], by simp [put_get], (hf.trans0 g3).drew.drew⟩
end Go.Proofs.YtieejbkbdfccdaaDoor
