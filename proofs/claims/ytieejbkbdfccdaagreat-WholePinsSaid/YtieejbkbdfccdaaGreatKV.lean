/- The program's checks, of any record: code 0 says that it may be. -/
import Derived.Test.YtieejbkbdfccdaaGreatSim
import Derived.Test.YtieejbkbdfccdaaGreatKO
import Derived.Test.YtieejbkbdfccdaaGreatKG
import Derived.Laws.Cover3
set_option linter.unusedVariables false
set_option linter.unusedSimpArgs false
namespace Go.Proofs.YtieejbkbdfccdaaGreat
open Go
theorem shapes_of {k : Int} (h1 : 1 ≤ k) (h9 : k ≤ 9) :
    (k = 1 ∧ shapeV k = shB true false false false false ∧ fieldsR k = [116]) ∨ ((k = 2 ∨ k = 3) ∧ shapeV k = shB false true false false false ∧ fieldsR k = [110]) ∨ (k = 4 ∧ shapeV k = shB false true true false false ∧ fieldsR k = [110, 98]) ∨
    ((k = 5 ∨ k = 6 ∨ k = 7) ∧ shapeV k = shB false false false true false ∧ fieldsR k = [114]) ∨ ((k = 8 ∨ k = 9) ∧ shapeV k = shB false false false false true ∧ fieldsR k = [108]) := by
  rcases kinds_of h1 h9 with rfl | (rfl | rfl) | rfl | (rfl | rfl | rfl) | (rfl | rfl) <;> simp [shapeV, shB, fieldsR, fieldL]
set_option maxHeartbeats 2000000 in
set_option maxRecDepth 20000 in
theorem bareAny_spec {w : World} {r : RecP} {a : Option Addr} {c : Nat} (h1 : 1 ≤ r.kind) (h9 : r.kind ≤ 9) (hr : okR r) :
    Ret P 68 #[.agg (rcV r (.slice a r.list.length c)).toArray, .agg (shapeV r.kind).toArray] w fun v w' => ∃ b, v = .bool b ∧ (b = true → onlyP r (fieldsR r.kind)) ∧ Fr [] w w' := by
  refine F68ok ?_
  unfold F68
  have hne : ∀ l w, pBin P .eql 9 true (strB l) (Value.string { data := #[] }) w = some (.bool (decide (l = [])), w) := fun l w => eq_strB (m := [])
  have hll : ((r.list.length : Int) = 0) = (r.list = []) := by simp
  rcases shapes_of h1 h9 with ⟨_, hs, hf⟩ | ⟨_, hs, hf⟩ | ⟨_, hs, hf⟩ | ⟨_, hs, hf⟩ | ⟨_, hs, hf⟩ <;> rw [hs, hf]
  · obtain ⟨W, hW⟩ : ∃ W, W = nw (nw w (rcV r (.slice a r.list.length c)) 61) (shB true false false false false) 144 := ⟨_, rfl⟩
    have fW : Fr [] w W := by rw [hW]; exact ((Fr.refl [] w).nw _ _).nw _ _
    have hsz : sz W = sz w + 2 := by rw [hW]; simp [sz_nw]
    have m1 : mm W (sz w) = rcV r (.slice a r.list.length c) := by rw [hW]; simp [mm_nw, sz_nw]
    have z1 : mm W (sz w + 1) = shB true false false false false := by rw [hW]; simp [mm_nw, sz_nw]
    try simp (maxDischargeDepth := 8) [↓sC, sB, sM, rcC, shC, ← hW, z1]
    rcases (Decidable.em (r.num = 0)).symm with c1 | c1
    · try simp (maxDischargeDepth := 8) [↓sC, sB, sM, m1, z1, hne, hll, c1]
      exact fW
    rcases (Decidable.em (r.low = 0)).symm with c2 | c2
    · try simp (maxDischargeDepth := 8) [↓sC, sB, sM, m1, z1, hne, hll, c1, c2]
      exact fW
    rcases (Decidable.em (r.high = 0)).symm with c3 | c3
    · try simp (maxDischargeDepth := 8) [↓sC, sB, sM, m1, z1, hne, hll, c1, c2, c3]
      exact fW
    try simp (maxDischargeDepth := 8) [↓sC, sB, sM, m1, z1, hne, hll, c1, c2, c3]
    refine (same_spec hr.2.2.2.2.1 (b := 0) (by unfold H63; omega)).call ?_
    rintro _ w3 ⟨rfl, f3⟩
    have m3 : mm w3 (sz w) = rcV r (.slice a r.list.length c) := by rw [f3.mm (by omega) (by simp), m1]
    have z3 : mm w3 (sz w + 1) = shB true false false false false := by rw [f3.mm (by omega) (by simp), z1]
    rcases (Decidable.em (key r.real = key 0)).symm with c4 | c4
    · try simp (maxDischargeDepth := 8) [↓sC, sB, sM, c4]
      exact fW.trans0 f3
    rcases (Decidable.em (r.cap = 0)).symm with c5 | c5
    · try simp (maxDischargeDepth := 8) [↓sC, sB, sM, m3, z3, hne, hll, c1, c2, c3, c4, c5]
      exact fW.trans0 f3
    rcases (Decidable.em (r.list = [])).symm with c6 | c6
    · try simp (maxDischargeDepth := 8) [↓sC, sB, sM, m3, z3, hne, hll, c1, c2, c3, c4, c5, c6]
      exact fW.trans0 f3
    try simp (maxDischargeDepth := 8) [↓sC, sB, sM, m3, z3, hne, hll, c1, c2, c3, c4, c5, c6]
    exact ⟨by simp [onlyP, c1, c2, c3, c4, c5, c6], fW.trans0 f3⟩
  · obtain ⟨W, hW⟩ : ∃ W, W = nw (nw w (rcV r (.slice a r.list.length c)) 61) (shB false true false false false) 144 := ⟨_, rfl⟩
    have fW : Fr [] w W := by rw [hW]; exact ((Fr.refl [] w).nw _ _).nw _ _
    have hsz : sz W = sz w + 2 := by rw [hW]; simp [sz_nw]
    have m1 : mm W (sz w) = rcV r (.slice a r.list.length c) := by rw [hW]; simp [mm_nw, sz_nw]
    have z1 : mm W (sz w + 1) = shB false true false false false := by rw [hW]; simp [mm_nw, sz_nw]
    try simp (maxDischargeDepth := 8) [↓sC, sB, sM, rcC, shC, ← hW, z1]
    rcases (Decidable.em (r.text = [])).symm with c1 | c1
    · try simp (maxDischargeDepth := 8) [↓sC, sB, sM, m1, z1, hne, hll, c1]
      exact fW
    rcases (Decidable.em (r.low = 0)).symm with c2 | c2
    · try simp (maxDischargeDepth := 8) [↓sC, sB, sM, m1, z1, hne, hll, c1, c2]
      exact fW
    rcases (Decidable.em (r.high = 0)).symm with c3 | c3
    · try simp (maxDischargeDepth := 8) [↓sC, sB, sM, m1, z1, hne, hll, c1, c2, c3]
      exact fW
    try simp (maxDischargeDepth := 8) [↓sC, sB, sM, m1, z1, hne, hll, c1, c2, c3]
    refine (same_spec hr.2.2.2.2.1 (b := 0) (by unfold H63; omega)).call ?_
    rintro _ w3 ⟨rfl, f3⟩
    have m3 : mm w3 (sz w) = rcV r (.slice a r.list.length c) := by rw [f3.mm (by omega) (by simp), m1]
    have z3 : mm w3 (sz w + 1) = shB false true false false false := by rw [f3.mm (by omega) (by simp), z1]
    rcases (Decidable.em (key r.real = key 0)).symm with c4 | c4
    · try simp (maxDischargeDepth := 8) [↓sC, sB, sM, c4]
      exact fW.trans0 f3
    rcases (Decidable.em (r.cap = 0)).symm with c5 | c5
    · try simp (maxDischargeDepth := 8) [↓sC, sB, sM, m3, z3, hne, hll, c1, c2, c3, c4, c5]
      exact fW.trans0 f3
    rcases (Decidable.em (r.list = [])).symm with c6 | c6
    · try simp (maxDischargeDepth := 8) [↓sC, sB, sM, m3, z3, hne, hll, c1, c2, c3, c4, c5, c6]
      exact fW.trans0 f3
    try simp (maxDischargeDepth := 8) [↓sC, sB, sM, m3, z3, hne, hll, c1, c2, c3, c4, c5, c6]
    exact ⟨by simp [onlyP, c1, c2, c3, c4, c5, c6], fW.trans0 f3⟩
  · obtain ⟨W, hW⟩ : ∃ W, W = nw (nw w (rcV r (.slice a r.list.length c)) 61) (shB false true true false false) 144 := ⟨_, rfl⟩
    have fW : Fr [] w W := by rw [hW]; exact ((Fr.refl [] w).nw _ _).nw _ _
    have hsz : sz W = sz w + 2 := by rw [hW]; simp [sz_nw]
    have m1 : mm W (sz w) = rcV r (.slice a r.list.length c) := by rw [hW]; simp [mm_nw, sz_nw]
    have z1 : mm W (sz w + 1) = shB false true true false false := by rw [hW]; simp [mm_nw, sz_nw]
    try simp (maxDischargeDepth := 8) [↓sC, sB, sM, rcC, shC, ← hW, z1]
    rcases (Decidable.em (r.text = [])).symm with c1 | c1
    · try simp (maxDischargeDepth := 8) [↓sC, sB, sM, m1, z1, hne, hll, c1]
      exact fW
    try simp (maxDischargeDepth := 8) [↓sC, sB, sM, m1, z1, hne, hll, c1]
    refine (same_spec hr.2.2.2.2.1 (b := 0) (by unfold H63; omega)).call ?_
    rintro _ w3 ⟨rfl, f3⟩
    have m3 : mm w3 (sz w) = rcV r (.slice a r.list.length c) := by rw [f3.mm (by omega) (by simp), m1]
    have z3 : mm w3 (sz w + 1) = shB false true true false false := by rw [f3.mm (by omega) (by simp), z1]
    rcases (Decidable.em (key r.real = key 0)).symm with c2 | c2
    · try simp (maxDischargeDepth := 8) [↓sC, sB, sM, c2]
      exact fW.trans0 f3
    rcases (Decidable.em (r.cap = 0)).symm with c3 | c3
    · try simp (maxDischargeDepth := 8) [↓sC, sB, sM, m3, z3, hne, hll, c1, c2, c3]
      exact fW.trans0 f3
    rcases (Decidable.em (r.list = [])).symm with c4 | c4
    · try simp (maxDischargeDepth := 8) [↓sC, sB, sM, m3, z3, hne, hll, c1, c2, c3, c4]
      exact fW.trans0 f3
    try simp (maxDischargeDepth := 8) [↓sC, sB, sM, m3, z3, hne, hll, c1, c2, c3, c4]
    exact ⟨by simp [onlyP, c1, c2, c3, c4], fW.trans0 f3⟩
  · obtain ⟨W, hW⟩ : ∃ W, W = nw (nw w (rcV r (.slice a r.list.length c)) 61) (shB false false false true false) 144 := ⟨_, rfl⟩
    have fW : Fr [] w W := by rw [hW]; exact ((Fr.refl [] w).nw _ _).nw _ _
    have hsz : sz W = sz w + 2 := by rw [hW]; simp [sz_nw]
    have m1 : mm W (sz w) = rcV r (.slice a r.list.length c) := by rw [hW]; simp [mm_nw, sz_nw]
    have z1 : mm W (sz w + 1) = shB false false false true false := by rw [hW]; simp [mm_nw, sz_nw]
    try simp (maxDischargeDepth := 8) [↓sC, sB, sM, rcC, shC, ← hW, z1]
    rcases (Decidable.em (r.text = [])).symm with c1 | c1
    · try simp (maxDischargeDepth := 8) [↓sC, sB, sM, m1, z1, hne, hll, c1]
      exact fW
    rcases (Decidable.em (r.num = 0)).symm with c2 | c2
    · try simp (maxDischargeDepth := 8) [↓sC, sB, sM, m1, z1, hne, hll, c1, c2]
      exact fW
    rcases (Decidable.em (r.low = 0)).symm with c3 | c3
    · try simp (maxDischargeDepth := 8) [↓sC, sB, sM, m1, z1, hne, hll, c1, c2, c3]
      exact fW
    rcases (Decidable.em (r.high = 0)).symm with c4 | c4
    · try simp (maxDischargeDepth := 8) [↓sC, sB, sM, m1, z1, hne, hll, c1, c2, c3, c4]
      exact fW
    rcases (Decidable.em (r.cap = 0)).symm with c5 | c5
    · try simp (maxDischargeDepth := 8) [↓sC, sB, sM, m1, z1, hne, hll, c1, c2, c3, c4, c5]
      exact fW
    rcases (Decidable.em (r.list = [])).symm with c6 | c6
    · try simp (maxDischargeDepth := 8) [↓sC, sB, sM, m1, z1, hne, hll, c1, c2, c3, c4, c5, c6]
      exact fW
    try simp (maxDischargeDepth := 8) [↓sC, sB, sM, m1, z1, hne, hll, c1, c2, c3, c4, c5, c6]
    exact ⟨by simp [onlyP, c1, c2, c3, c4, c5, c6], fW⟩
  · obtain ⟨W, hW⟩ : ∃ W, W = nw (nw w (rcV r (.slice a r.list.length c)) 61) (shB false false false false true) 144 := ⟨_, rfl⟩
    have fW : Fr [] w W := by rw [hW]; exact ((Fr.refl [] w).nw _ _).nw _ _
    have hsz : sz W = sz w + 2 := by rw [hW]; simp [sz_nw]
    have m1 : mm W (sz w) = rcV r (.slice a r.list.length c) := by rw [hW]; simp [mm_nw, sz_nw]
    have z1 : mm W (sz w + 1) = shB false false false false true := by rw [hW]; simp [mm_nw, sz_nw]
    try simp (maxDischargeDepth := 8) [↓sC, sB, sM, rcC, shC, ← hW, z1]
    rcases (Decidable.em (r.text = [])).symm with c1 | c1
    · try simp (maxDischargeDepth := 8) [↓sC, sB, sM, m1, z1, hne, hll, c1]
      exact fW
    rcases (Decidable.em (r.num = 0)).symm with c2 | c2
    · try simp (maxDischargeDepth := 8) [↓sC, sB, sM, m1, z1, hne, hll, c1, c2]
      exact fW
    rcases (Decidable.em (r.low = 0)).symm with c3 | c3
    · try simp (maxDischargeDepth := 8) [↓sC, sB, sM, m1, z1, hne, hll, c1, c2, c3]
      exact fW
    rcases (Decidable.em (r.high = 0)).symm with c4 | c4
    · try simp (maxDischargeDepth := 8) [↓sC, sB, sM, m1, z1, hne, hll, c1, c2, c3, c4]
      exact fW
    try simp (maxDischargeDepth := 8) [↓sC, sB, sM, m1, z1, hne, hll, c1, c2, c3, c4]
    refine (same_spec hr.2.2.2.2.1 (b := 0) (by unfold H63; omega)).call ?_
    rintro _ w3 ⟨rfl, f3⟩
    have m3 : mm w3 (sz w) = rcV r (.slice a r.list.length c) := by rw [f3.mm (by omega) (by simp), m1]
    have z3 : mm w3 (sz w + 1) = shB false false false false true := by rw [f3.mm (by omega) (by simp), z1]
    rcases (Decidable.em (key r.real = key 0)).symm with c5 | c5
    · try simp (maxDischargeDepth := 8) [↓sC, sB, sM, c5]
      exact fW.trans0 f3
    try simp (maxDischargeDepth := 8) [↓sC, sB, sM, m3, z3, hne, hll, c1, c2, c3, c4, c5]
    exact ⟨by simp [onlyP, c1, c2, c3, c4, c5], fW.trans0 f3⟩
def ItAI (w0 : World) (k : Int) (v : Value) (L : List ItemP) (m : Nat) (e : Env) (w' : World) : Prop :=
  ∃ j : Nat, m = L.length - j ∧ j ≤ L.length ∧ (∀ i, i < j → itemP k L i) ∧ e 0 = i64 k ∧ e 1 = v ∧ e 7 = v ∧ e 8 = i64 L.length ∧ e 9 = i64 j ∧ Fr [] w0 w'
set_option maxHeartbeats 4000000 in
set_option maxRecDepth 20000 in
theorem itemsAny_step {w : World} {k : Int} {a : Option Addr} {c : Nat} {L : List ItemP} (hr : RdV w (.slice a L.length c) L.length (flat itemV L)) (hok : ∀ x ∈ L, okI x) (hL : L.length ≤ 1000000) {j : Nat} {e : Env} {w1 : World} (hj : j < L.length)
    (hI : ItAI w k (.slice a L.length c) L (L.length - j) e w1) {K : KT} (hbad : ∀ e' w' (n : Int), n ≠ 0 → Fr [] w w' → e' 4 = i64 n → K .ret e' w') (hK : ∀ e' w'', ItAI w k (.slice a L.length c) L (L.length - (j + 1)) e' w'' → K .normal e' w'') : F70B0 e w1 K := by
  obtain ⟨j', hmj, hj', hall, e0, e1, e7, e8, e9, hf⟩ := hI
  obtain rfl : j = j' := by omega
  unfold F70B0
  obtain ⟨x, hx⟩ : ∃ x, L[j]? = some x := ⟨_, List.getElem?_eq_getElem hj⟩
  have hxok := hok x (List.mem_of_getElem? hx)
  have hr1 := hr.fr0 hf
  obtain ⟨b, o, c', hv, hb, hin, htk⟩ := flat_at hr1 (itemV_len L) (by omega) hx
  simp only [Value.slice.injEq] at hv
  obtain ⟨rfl, _, rfl⟩ := hv
  have hji : (j : Int) < L.length := by omega
  have hwj : IntKind.i64.wrap ((j : Int) + 1) = ((j + 1 : Nat) : Int) := wrap64 (by omega) (by omega)
  have hs2 : ∀ l : List Value, l.length = 2 → splice l 0 (itemV x) = itemV x := fun l hl => splice_full (by rw [hl]; rfl)
  obtain ⟨W, hW⟩ : ∃ W, W = wr (nw w1 [Value.float FloatKind.f64 0, Value.string ByteArray.empty] 105) (sz w1) (itemV x) := ⟨_, rfl⟩
  have fW : Fr [] w1 W := by rw [hW]; exact ((Fr.refl [] w1).nw _ _).wr (.inr (Nat.le_refl _)) _
  have hm : mm W (sz w1) = itemV x := by rw [hW]; exact mm_wr_same (by simp [fz_nw]) _
  have hsW : sz w1 < sz W := by rw [hW, sz_wr, sz_nw]; omega
  have hlen : ∀ w, pBuiltin P .len #[9] 3 [strB x.name] w = some (i64 x.name.length, w) := fun w => len_strB und9
  have nxt : itemP k L j → ∀ i, i < j + 1 → itemP k L i := fun h i hi => by
    rcases Nat.lt_or_ge i j with h2 | h2
    · exact hall i h2
    · have : i = j := by omega
      subst this; exact h
  try simp (maxDischargeDepth := 8) [↓sC, sB, sM, e7, e8, e9, hji, hj, hin, htk, hs2, itemV_oneT, hlen, ← hW, hm]
  rcases (Decidable.em (x.name.length ≤ 16)).symm with c1 | c1
  · have c1i : (16 : Int) < x.name.length := by omega
    try simp (maxDischargeDepth := 8) [↓sC, sB, sM, c1i]
    exact hbad _ _ 3 (by omega) (hf.trans0 fW) (by simp [put_get])
  have c1i : ¬ (16 : Int) < x.name.length := by omega
  rcases Nat.eq_zero_or_pos j with i0 | i0
  · subst i0
    by_cases k8 : k = 8
    · subst k8
      try simp (maxDischargeDepth := 8) [↓sC, sB, sM, e0, c1i, hm]
      refine (same_spec hxok (b := 0) (by unfold H63; omega)).call ?_
      rintro _ w2 ⟨rfl, f1⟩
      have hm1 : mm w2 (sz w1) = itemV x := by rw [f1.mm hsW (by simp), hm]
      rcases (Decidable.em (key x.score = key 0)).symm with z | z
      · try simp (maxDischargeDepth := 8) [↓sC, sB, sM, z]
        exact hbad _ _ 4 (by omega) ((hf.trans0 fW).trans0 f1) (by simp [put_get])
      rw [decide_eq_true z]
      try simp (maxDischargeDepth := 8) [↓sC, sB, sM, hm1]
      refine (proper_spec hxok).call ?_
      rintro _ w3 ⟨rfl, f2⟩
      have hsf := (f1.trans0 f2).size
      have hm2 : mm w3 (sz w1) = itemV x := by rw [(f1.trans0 f2).mm hsW (by simp), hm]
      have g3 : Fr [] w1 w3 := (fW.trans0 f1).trans0 f2
      rcases (Decidable.em (x.score = canon x.score)).symm with hp | hp
      · try simp (maxDischargeDepth := 8) [↓sC, sB, sM, hp]
        exact hbad _ _ 4 (by omega) (hf.trans0 g3) (by simp [put_get])
      rw [decide_eq_true hp]
      try simp (maxDischargeDepth := 8) [↓sC, sB, sM, hm2, e0, e1, e9, wrap_1]
      exact hK _ _ ⟨1, rfl, by omega, nxt (fun x' hx' => by rw [hx] at hx'; cases hx'; exact ⟨c1, (fun _ => z), hp, fun y h0 _ => absurd h0 (by omega)⟩), by simp [put_get, e0], by simp [put_get, e1], by simp [put_get, e7], by simp [put_get, e8], by simp [put_get], (hf.trans0 g3).drew.drew⟩
    · skip
      try simp (maxDischargeDepth := 8) [↓sC, sB, sM, e0, c1i, k8, hm]
      have f1 : Fr [] W W := Fr.refl [] W
      refine (proper_spec hxok).call ?_
      rintro _ w3 ⟨rfl, f2⟩
      have hsf := (f1.trans0 f2).size
      have hm2 : mm w3 (sz w1) = itemV x := by rw [(f1.trans0 f2).mm hsW (by simp), hm]
      have g3 : Fr [] w1 w3 := (fW.trans0 f1).trans0 f2
      rcases (Decidable.em (x.score = canon x.score)).symm with hp | hp
      · try simp (maxDischargeDepth := 8) [↓sC, sB, sM, hp]
        exact hbad _ _ 4 (by omega) (hf.trans0 g3) (by simp [put_get])
      rw [decide_eq_true hp]
      try simp (maxDischargeDepth := 8) [↓sC, sB, sM, hm2, e0, e1, e9, wrap_1, k8]
      exact hK _ _ ⟨1, rfl, by omega, nxt (fun x' hx' => by rw [hx] at hx'; cases hx'; exact ⟨c1, (fun h => absurd h k8), hp, fun y h0 _ => absurd h0 (by omega)⟩), by simp [put_get, e0], by simp [put_get, e1], by simp [put_get, e7], by simp [put_get, e8], by simp [put_get], (hf.trans0 g3).drew.drew⟩
  · obtain ⟨y, hy⟩ : ∃ y, L[j - 1]? = some y := ⟨_, List.getElem?_eq_getElem (by omega)⟩
    have hyok := hok y (List.mem_of_getElem? hy)
    obtain ⟨b', o', c', hv', hb', hin', htk'⟩ := flat_at hr1 (itemV_len L) (by omega) hy
    simp only [Value.slice.injEq, Option.some.injEq, Addr.mk.injEq] at hv'
    obtain ⟨⟨rfl, rfl, _⟩, _, rfl⟩ := hv'
    have hwm : IntKind.i64.wrap ((j : Int) - 1) = ((j - 1 : Nat) : Int) := by rw [wrap64 (by omega) (by omega)]; omega
    have i0i : (0 : Int) < j := by omega
    have him : ((j - 1 : Nat) : Int) < L.length := by omega
    have him' : j - 1 < L.length := by omega
    have hge : ∀ w, pBin P .geq 9 false (strB y.name) (strB x.name) w = some (.bool (!Op.bytesLess y.name x.name), w) := fun w => ge_strB
    by_cases k8 : k = 8
    · subst k8
      try simp (maxDischargeDepth := 8) [↓sC, sB, sM, e0, c1i, hm]
      refine (same_spec hxok (b := 0) (by unfold H63; omega)).call ?_
      rintro _ w2 ⟨rfl, f1⟩
      have hm1 : mm w2 (sz w1) = itemV x := by rw [f1.mm hsW (by simp), hm]
      rcases (Decidable.em (key x.score = key 0)).symm with z | z
      · try simp (maxDischargeDepth := 8) [↓sC, sB, sM, z]
        exact hbad _ _ 4 (by omega) ((hf.trans0 fW).trans0 f1) (by simp [put_get])
      rw [decide_eq_true z]
      try simp (maxDischargeDepth := 8) [↓sC, sB, sM, hm1]
      refine (proper_spec hxok).call ?_
      rintro _ w3 ⟨rfl, f2⟩
      have hsf := (f1.trans0 f2).size
      have hm2 : mm w3 (sz w1) = itemV x := by rw [(f1.trans0 f2).mm hsW (by simp), hm]
      have g3 : Fr [] w1 w3 := (fW.trans0 f1).trans0 f2
      rcases (Decidable.em (x.score = canon x.score)).symm with hp | hp
      · try simp (maxDischargeDepth := 8) [↓sC, sB, sM, hp]
        exact hbad _ _ 4 (by omega) (hf.trans0 g3) (by simp [put_get])
      rw [decide_eq_true hp]
      have q1 : o + (j - 1) * 2 + 2 ≤ (mm w3 b).length := by rw [g3.mm hb (by simp)]; exact hin'
      have q2 : ((mm w3 b).drop (o + (j - 1) * 2)).take 2 = itemV y := by rw [g3.mm hb (by simp)]; exact htk'
      have q3 : o + (j - 1) * 2 + 1 < (mm w3 b).length := by omega
      have q4 : gt (mm w3 b) (o + (j - 1) * 2 + 1) = strB y.name := by rw [cell_of q2 (by omega)]; rfl
      cases hq : Op.bytesLess y.name x.name
      · try simp (maxDischargeDepth := 8) [↓sC, sB, sM, e0, e1, e9, i0i, i0, hwm, hwj, him, him', hm2, q1, q2, q3, q4, hge, hq, -Int.natCast_add]
        exact hbad _ _ 4 (by omega) ((hf.trans0 g3).drew) (by simp [put_get])
      try simp (maxDischargeDepth := 8) [↓sC, sB, sM, e0, e1, e9, i0i, i0, hwm, hwj, him, him', hm2, q1, q2, q3, q4, hge, hq, -Int.natCast_add]
      exact hK _ _ ⟨j + 1, rfl, by omega, nxt (fun x' hx' => by rw [hx] at hx'; cases hx'; exact ⟨c1, (fun _ => z), hp, fun y' _ hy' => by rw [hy] at hy'; cases hy'; simp [hq]⟩), by simp [put_get, e0], by simp [put_get, e1], by simp [put_get, e7], by simp [put_get, e8], by simp [put_get], (hf.trans0 g3).drew.drew⟩
    · skip
      try simp (maxDischargeDepth := 8) [↓sC, sB, sM, e0, c1i, k8, hm]
      have f1 : Fr [] W W := Fr.refl [] W
      refine (proper_spec hxok).call ?_
      rintro _ w3 ⟨rfl, f2⟩
      have hsf := (f1.trans0 f2).size
      have hm2 : mm w3 (sz w1) = itemV x := by rw [(f1.trans0 f2).mm hsW (by simp), hm]
      have g3 : Fr [] w1 w3 := (fW.trans0 f1).trans0 f2
      rcases (Decidable.em (x.score = canon x.score)).symm with hp | hp
      · try simp (maxDischargeDepth := 8) [↓sC, sB, sM, hp]
        exact hbad _ _ 4 (by omega) (hf.trans0 g3) (by simp [put_get])
      rw [decide_eq_true hp]
      have q1 : o + (j - 1) * 2 + 2 ≤ (mm w3 b).length := by rw [g3.mm hb (by simp)]; exact hin'
      have q2 : ((mm w3 b).drop (o + (j - 1) * 2)).take 2 = itemV y := by rw [g3.mm hb (by simp)]; exact htk'
      have q3 : o + (j - 1) * 2 + 1 < (mm w3 b).length := by omega
      have q4 : gt (mm w3 b) (o + (j - 1) * 2 + 1) = strB y.name := by rw [cell_of q2 (by omega)]; rfl
      by_cases k9 : k = 9
      · subst k9
        try simp (maxDischargeDepth := 8) [↓sC, sB, sM, e0, e1, e9, i0i, i0, hwm, hwj, him, him', hm2, q1, q2, q3, q4, hge, k8]
        refine (better_spec hyok hxok).call ?_
        rintro _ w4 ⟨rfl, f3⟩
        have g4 := ((hf.trans0 g3).drew.drew).trans0 f3
        cases hq : aheadB y x
        · try simp (maxDischargeDepth := 8) [↓sC, sB, sM]
          exact hbad _ _ 4 (by omega) (g4) (by simp [put_get])
        try simp (maxDischargeDepth := 8) [↓sC, sB, sM, e9, hwj, -Int.natCast_add]
        exact hK _ _ ⟨j + 1, rfl, by omega, nxt (fun x' hx' => by rw [hx] at hx'; cases hx'; exact ⟨c1, (fun h => absurd h k8), hp, fun y' _ hy' => by rw [hy] at hy'; cases hy'; simp [hq]⟩), by simp [put_get, e0], by simp [put_get, e1], by simp [put_get, e7], by simp [put_get, e8], by simp [put_get], g4⟩
      · try simp (maxDischargeDepth := 8) [↓sC, sB, sM, e0, e1, e9, i0i, i0, hwm, hwj, him, him', hm2, q1, q2, q3, q4, hge, k8, k9, -Int.natCast_add]
        exact hK _ _ ⟨j + 1, rfl, by omega, nxt (fun x' hx' => by rw [hx] at hx'; cases hx'; exact ⟨c1, (fun h => absurd h k8), hp, fun y' _ hy' => by simp [k8, k9]⟩), by simp [put_get, e0], by simp [put_get, e1], by simp [put_get, e7], by simp [put_get, e8], by simp [put_get], (hf.trans0 g3).drew.drew⟩
theorem itemsAny_spec {w : World} {k : Int} {a : Option Addr} {c : Nat} {L : List ItemP} (hr : RdV w (.slice a L.length c) L.length (flat itemV L)) (hok : ∀ x ∈ L, okI x) (hL : L.length ≤ 1000000) :
    Ret P 70 #[i64 k, .slice a L.length c] w fun v w' => ∃ n : Int, v = i64 n ∧ (n = 0 → ∀ i, i < L.length → itemP k L i) ∧ Fr [] w w' := by
  refine F70ok ?_
  unfold F70
  try simp (maxDischargeDepth := 8) [↓sC, sB, sM]
  refine loopE_of (ItAI w k (.slice a L.length c) L) L.length ⟨0, by omega, by omega, by simp, by simp [put_get, argE_get], by simp [put_get, argE_get], by simp [put_get], by simp [put_get], by simp [put_get], Fr.refl [] w⟩ ?_
  rintro m e w1 hI
  obtain ⟨j, rfl, hj, hall, e0, e1, e7, e8, e9, hf⟩ := id hI
  by_cases hjl : j < L.length
  · refine itemsAny_step hr hok hL hjl hI (fun e' w' n hn hf' e4 => ?_) (fun e' w'' hK => ⟨L.length - (j + 1), by omega, hK⟩)
    try simp (maxDischargeDepth := 8) [↓sC, sB, sM, e4, hn]
    exact hf'
  have : j = L.length := by omega
  subst this
  unfold F70B0
  try simp (maxDischargeDepth := 8) [↓sC, sB, sM, e8, e9]
  exact ⟨hall, hf⟩
end Go.Proofs.YtieejbkbdfccdaaGreat

set_option linter.unusedVariables false
set_option linter.unusedSimpArgs false
namespace Go.Proofs.YtieejbkbdfccdaaGreat
open Go
set_option maxHeartbeats 4000000 in
set_option maxRecDepth 20000 in
theorem recCheckAny_spec {w : World} {r : RecP} {a : Option Addr} {c : Nat} (hr : IsRec w (.slice a r.list.length c) r) :
    Ret P 41 #[.agg (rcV r (.slice a r.list.length c)).toArray] w fun v w' => ∃ n : Int, v = i64 n ∧ (n = 0 → RecOk r) ∧ Fr [] w w' := by
  refine F41ok ?_
  unfold F41
  obtain ⟨W, hW⟩ : ∃ W, W = nw w (rcV r (.slice a r.list.length c)) 61 := ⟨_, rfl⟩
  have fW : Fr [] w W := by rw [hW]; exact (Fr.refl [] w).nw _ _
  have hm : mm W (sz w) = rcV r (.slice a r.list.length c) := by rw [hW]; simp [mm_nw]
  have hsW : sz w < sz W := by rw [hW, sz_nw]; omega
  try simp (maxDischargeDepth := 8) [↓sC, sB, sM, rcC, ← hW, hm]
  refine shaped_spec.call ?_
  rintro _ w1 ⟨rfl, f1⟩
  have hs1 := f1.lt hsW
  have hS5 : (shapeV r.kind).length = 5 := rfl
  have hSo : (∀ v, v ∈ shapeV r.kind → v.oneCell' = true) = True := shB_one
  have hs5 : ∀ l : List Value, l.length = 5 → splice l 0 (shapeV r.kind) = shapeV r.kind := fun l hl => splice_full (by rw [hl]; rfl)
  have t8 : ∀ r lv, (rcV r lv).take 8 = rcV r lv := fun _ _ => rfl
  have t5 : (shapeV r.kind).take 5 = shapeV r.kind := rfl
  have hlen : ∀ w, pBuiltin P .len #[9] 3 [strB r.text] w = some (i64 r.text.length, w) := fun w => len_strB und9
  obtain ⟨W2, hW2⟩ : ∃ W2, W2 = wr (nw w1 [Value.bool false, Value.bool false, Value.bool false, Value.bool false, Value.bool false] 144) (sz w1) (shapeV r.kind) := ⟨_, rfl⟩
  have fW2 : Fr [] w1 W2 := by rw [hW2]; exact ((Fr.refl [] w1).nw _ _).wr (.inr (Nat.le_refl _)) _
  have hm2 : mm W2 (sz w) = rcV r (.slice a r.list.length c) := by rw [fW2.mm hs1 (by simp), f1.mm hsW (by simp), hm]
  have hz2 : mm W2 (sz w1) = shapeV r.kind := by rw [hW2]; exact mm_wr_same (by simp [fz_nw]) _
  have hsz2 : sz w1 < sz W2 := by rw [hW2, sz_wr, sz_nw]; omega
  have hsz1 : sz w < sz W2 := by omega
  have g2 := (fW.trans0 f1).trans0 fW2
  try simp (maxDischargeDepth := 8) [↓sC, sB, sM, hs5, hS5, hSo, ← hW2, hm2, hz2]
  rcases (Decidable.em (1 ≤ r.kind)).symm with a1 | a1
  · have k0 : r.kind ≤ 0 := by omega
    try simp (maxDischargeDepth := 8) [↓sC, sB, sM, k0]
    exact g2
  have k0 : ¬ r.kind ≤ 0 := by omega
  rcases (Decidable.em (r.kind ≤ 9)).symm with a9 | a9
  · have k10 : 10 ≤ r.kind := by omega
    try simp (maxDischargeDepth := 8) [↓sC, sB, sM, k0, k10, hm2]
    exact g2
  have k10 : ¬ 10 ≤ r.kind := by omega
  try simp (maxDischargeDepth := 8) [↓sC, sB, sM, k0, k10, hm2, hz2, t8, t5, hS5]
  refine (bareAny_spec a1 a9 hr.2).call ?_
  rintro _ w3 ⟨bb, rfl, hb, f3⟩
  have g3 := g2.trans0 f3
  have hm3 : mm w3 (sz w) = rcV r (.slice a r.list.length c) := by rw [f3.mm hsz1 (by simp), hm2]
  have hz3' : mm w3 (sz w1) = shapeV r.kind := by rw [f3.mm hsz2 (by simp), hz2]
  have hl1 := f3.lt hsz1
  have hl2 := f3.lt hsz2
  cases bb
  · try simp (maxDischargeDepth := 8) [↓sC, sB, sM]
    exact g3
  have hon := hb rfl
  clear hb hz2 hs5 hSo hS5 t5 hW2
  rcases shapes_of a1 a9 with ⟨hk, hs, hf⟩ | ⟨hk, hs, hf⟩ | ⟨hk, hs, hf⟩ | ⟨hk, hs, hf⟩ | ⟨hk, hs, hf⟩
  · have hon' := hon
    rw [hf] at hon'
    have hz3 : mm w3 (sz w1) = shB true false false false false := by rw [hz3', hs]
    rcases (Decidable.em (r.text.length ≤ 64)).symm with t1' | t1'
    · have t1 : (64 : Int) < r.text.length := by omega
      try simp (maxDischargeDepth := 8) [↓sC, sB, sM, hm3, hz3, hlen, t1]
      exact g3
    have t1 : ¬ (64 : Int) < r.text.length := by omega
    have tx : r.kind = 1 → r.text.length ≤ 64 := fun _ => t1'
    have bd : r.kind = 4 → -MP ≤ r.low ∧ r.high ≤ MP ∧ r.low ≤ r.num ∧ r.num ≤ r.high := fun h => absurd h (by omega)
    try simp (maxDischargeDepth := 8) [↓sC, sB, sM, hm3, hz3, hlen, t1]
    refine (proper_spec hr.2.2.2.2.2.1).call ?_
    rintro _ w4 ⟨rfl, f4⟩
    have hm4 : mm w4 (sz w) = rcV r (.slice a r.list.length c) := by rw [f4.mm hl1 (by simp), hm3]
    have hz4 : mm w4 (sz w1) = shB true false false false false := by rw [f4.mm hl2 (by simp), hz3]
    have g4 := g3.trans0 f4
    rcases (Decidable.em (r.real = canon r.real)).symm with p | p
    · try simp (maxDischargeDepth := 8) [↓sC, sB, sM, p]
      exact g4
    rw [decide_eq_true p]
    try simp (maxDischargeDepth := 8) [↓sC, sB, sM, hm4, hz4]
    exact ⟨⟨a1, a9, hon, tx, bd, p, fun h => absurd h (by omega)⟩, g4⟩
  · have hon' := hon
    rw [hf] at hon'
    have hz3 : mm w3 (sz w1) = shB false true false false false := by rw [hz3', hs]
    have c1 : r.text = [] := hon'.1 (by decide)
    have t1 : ¬ (64 : Int) < r.text.length := by rw [c1]; simp
    have tx : r.kind = 1 → r.text.length ≤ 64 := fun _ => by rw [c1]; simp
    have bd : r.kind = 4 → -MP ≤ r.low ∧ r.high ≤ MP ∧ r.low ≤ r.num ∧ r.num ≤ r.high := fun h => absurd h (by omega)
    try simp (maxDischargeDepth := 8) [↓sC, sB, sM, hm3, hz3, hlen, t1]
    refine (proper_spec hr.2.2.2.2.2.1).call ?_
    rintro _ w4 ⟨rfl, f4⟩
    have hm4 : mm w4 (sz w) = rcV r (.slice a r.list.length c) := by rw [f4.mm hl1 (by simp), hm3]
    have hz4 : mm w4 (sz w1) = shB false true false false false := by rw [f4.mm hl2 (by simp), hz3]
    have g4 := g3.trans0 f4
    rcases (Decidable.em (r.real = canon r.real)).symm with p | p
    · try simp (maxDischargeDepth := 8) [↓sC, sB, sM, p]
      exact g4
    rw [decide_eq_true p]
    try simp (maxDischargeDepth := 8) [↓sC, sB, sM, hm4, hz4]
    exact ⟨⟨a1, a9, hon, tx, bd, p, fun h => absurd h (by omega)⟩, g4⟩
  · have hon' := hon
    rw [hf] at hon'
    have hz3 : mm w3 (sz w1) = shB false true true false false := by rw [hz3', hs]
    have c1 : r.text = [] := hon'.1 (by decide)
    have t1 : ¬ (64 : Int) < r.text.length := by rw [c1]; simp
    have tx : r.kind = 1 → r.text.length ≤ 64 := fun _ => by rw [c1]; simp
    rcases (Decidable.em (-MP ≤ r.low)).symm with b1 | b1
    · have b1i : r.low < -2305843009213693952 := by unfold MP at b1; omega
      try simp (maxDischargeDepth := 8) [↓sC, sB, sM, hm3, hz3, hlen, t1, b1i]
      exact g3
    have b1i : ¬ r.low < -2305843009213693952 := by unfold MP at b1; omega
    rcases (Decidable.em (r.high ≤ MP)).symm with b2 | b2
    · have b2i : 2305843009213693952 < r.high := by unfold MP at b2; omega
      try simp (maxDischargeDepth := 8) [↓sC, sB, sM, hm3, hz3, hlen, t1, b1i, b2i]
      exact g3
    have b2i : ¬ 2305843009213693952 < r.high := by unfold MP at b2; omega
    rcases (Decidable.em (r.low ≤ r.num)).symm with b3 | b3
    · have b3i : r.num < r.low := by omega
      try simp (maxDischargeDepth := 8) [↓sC, sB, sM, hm3, hz3, hlen, t1, b1i, b2i, b3i]
      exact g3
    have b3i : ¬ r.num < r.low := by omega
    rcases (Decidable.em (r.num ≤ r.high)).symm with b4 | b4
    · have b4i : r.high < r.num := by omega
      try simp (maxDischargeDepth := 8) [↓sC, sB, sM, hm3, hz3, hlen, t1, b1i, b2i, b3i, b4i]
      exact g3
    have b4i : ¬ r.high < r.num := by omega
    have bd : r.kind = 4 → -MP ≤ r.low ∧ r.high ≤ MP ∧ r.low ≤ r.num ∧ r.num ≤ r.high := fun _ => ⟨b1, b2, b3, b4⟩
    try simp (maxDischargeDepth := 8) [↓sC, sB, sM, hm3, hz3, hlen, t1, b1i, b2i, b3i, b4i]
    refine (proper_spec hr.2.2.2.2.2.1).call ?_
    rintro _ w4 ⟨rfl, f4⟩
    have hm4 : mm w4 (sz w) = rcV r (.slice a r.list.length c) := by rw [f4.mm hl1 (by simp), hm3]
    have hz4 : mm w4 (sz w1) = shB false true true false false := by rw [f4.mm hl2 (by simp), hz3]
    have g4 := g3.trans0 f4
    rcases (Decidable.em (r.real = canon r.real)).symm with p | p
    · try simp (maxDischargeDepth := 8) [↓sC, sB, sM, p]
      exact g4
    rw [decide_eq_true p]
    try simp (maxDischargeDepth := 8) [↓sC, sB, sM, hm4, hz4]
    exact ⟨⟨a1, a9, hon, tx, bd, p, fun h => absurd h (by omega)⟩, g4⟩
  · have hon' := hon
    rw [hf] at hon'
    have hz3 : mm w3 (sz w1) = shB false false false true false := by rw [hz3', hs]
    have c1 : r.text = [] := hon'.1 (by decide)
    have t1 : ¬ (64 : Int) < r.text.length := by rw [c1]; simp
    have tx : r.kind = 1 → r.text.length ≤ 64 := fun _ => by rw [c1]; simp
    have bd : r.kind = 4 → -MP ≤ r.low ∧ r.high ≤ MP ∧ r.low ≤ r.num ∧ r.num ≤ r.high := fun h => absurd h (by omega)
    try simp (maxDischargeDepth := 8) [↓sC, sB, sM, hm3, hz3, hlen, t1]
    refine (proper_spec hr.2.2.2.2.2.1).call ?_
    rintro _ w4 ⟨rfl, f4⟩
    have hm4 : mm w4 (sz w) = rcV r (.slice a r.list.length c) := by rw [f4.mm hl1 (by simp), hm3]
    have hz4 : mm w4 (sz w1) = shB false false false true false := by rw [f4.mm hl2 (by simp), hz3]
    have g4 := g3.trans0 f4
    rcases (Decidable.em (r.real = canon r.real)).symm with p | p
    · try simp (maxDischargeDepth := 8) [↓sC, sB, sM, p]
      exact g4
    rw [decide_eq_true p]
    try simp (maxDischargeDepth := 8) [↓sC, sB, sM, hm4, hz4]
    exact ⟨⟨a1, a9, hon, tx, bd, p, fun h => absurd h (by omega)⟩, g4⟩
  · have hon' := hon
    rw [hf] at hon'
    have hz3 : mm w3 (sz w1) = shB false false false false true := by rw [hz3', hs]
    have c1 : r.text = [] := hon'.1 (by decide)
    have t1 : ¬ (64 : Int) < r.text.length := by rw [c1]; simp
    have tx : r.kind = 1 → r.text.length ≤ 64 := fun _ => by rw [c1]; simp
    have bd : r.kind = 4 → -MP ≤ r.low ∧ r.high ≤ MP ∧ r.low ≤ r.num ∧ r.num ≤ r.high := fun h => absurd h (by omega)
    try simp (maxDischargeDepth := 8) [↓sC, sB, sM, hm3, hz3, hlen, t1]
    refine (proper_spec hr.2.2.2.2.2.1).call ?_
    rintro _ w4 ⟨rfl, f4⟩
    have hm4 : mm w4 (sz w) = rcV r (.slice a r.list.length c) := by rw [f4.mm hl1 (by simp), hm3]
    have hz4 : mm w4 (sz w1) = shB false false false false true := by rw [f4.mm hl2 (by simp), hz3]
    have g4 := g3.trans0 f4
    rcases (Decidable.em (r.real = canon r.real)).symm with p | p
    · try simp (maxDischargeDepth := 8) [↓sC, sB, sM, p]
      exact g4
    rw [decide_eq_true p]
    rcases (Decidable.em (1 ≤ r.cap)).symm with q1 | q1
    · have q1i : r.cap < 1 := by omega
      try simp (maxDischargeDepth := 8) [↓sC, sB, sM, hm4, hz4, q1i]
      exact g4
    have q1i : ¬ r.cap < 1 := by omega
    rcases (Decidable.em (r.cap ≤ 32)).symm with q2 | q2
    · have q2i : 32 < r.cap := by omega
      try simp (maxDischargeDepth := 8) [↓sC, sB, sM, hm4, hz4, q1i, q2i]
      exact g4
    have q2i : ¬ 32 < r.cap := by omega
    rcases (Decidable.em ((r.list.length : Int) ≤ r.cap)).symm with q3 | q3
    · have q3i : r.cap < (r.list.length : Int) := by omega
      try simp (maxDischargeDepth := 8) [↓sC, sB, sM, hm4, hz4, q1i, q2i, q3i]
      exact g4
    have q3i : ¬ r.cap < (r.list.length : Int) := by omega
    try simp (maxDischargeDepth := 8) [↓sC, sB, sM, hm4, hz4, q1i, q2i, q3i]
    refine (itemsAny_spec (hr.fr0 g4).1 hr.2.2.2.2.2.2.2 (by omega)).call ?_
    rintro _ w5 ⟨n, rfl, hn, f5⟩
    try simp (maxDischargeDepth := 8) [↓sC, sB, sM]
    exact ⟨fun h => ⟨a1, a9, hon, tx, bd, p, fun _ => ⟨q1, q2, q3, hn h⟩⟩, g4.trans0 f5⟩
end Go.Proofs.YtieejbkbdfccdaaGreat

set_option linter.unusedVariables false
set_option linter.unusedSimpArgs false
namespace Go.Proofs.YtieejbkbdfccdaaGreat
open Go
theorem eq_slice23 {w : World} {a : Option Addr} {n c : Nat} : pBin P .eql 59 true (.slice a n c) (.slice none 0 0) w = some (.bool a.isNone, w) := by
  have hu := sliceE_und sliceE59
  have hg : ∀ x, eqGuard .eql 59 x (.tmp 0) (.slice a n c) (.slice none 0 0) = pure () := fun x => rfl
  have h := run_equal_slice_nil (P := P) w 59 105 a n c hu
  simp only [pBin, runV, hg, Sem.run_bind, Sem.run_pure, Result.andThen_ok]
  simp [binOp, h]
theorem cloneL_spec {w : World} {a : Option Addr} {c : Nat} {L : List ItemP} (hr : RdV w (.slice a L.length c) L.length (flat itemV L)) (hL : L.length ≤ 1000000) :
    Ret P 73 #[.slice a L.length c] w fun v w' => ∃ a' c', v = .slice a' L.length c' ∧ RdV w' (.slice a' L.length c') L.length (flat itemV L) ∧ (∀ k, (Value.slice a' L.length c').ownBlock = some k → sz w ≤ k ∧ k < sz w') ∧ Fr [] w w' := by
  refine F73ok ?_
  unfold F73
  cases a with
  | none =>
    have h0 : L = [] := by
      rcases hr with ⟨_, _, _, h0, _⟩ | ⟨_, _, _, hv, _⟩
      · exact List.eq_nil_of_length_eq_zero h0
      · simp at hv
    subst h0
    try simp (maxDischargeDepth := 8) [↓sC, sB, sM, eq_slice23]
    exact ⟨none, 0, ⟨rfl, rfl⟩, .inl ⟨none, 0, rfl, rfl, rfl⟩, by simp [Value.ownBlock]⟩
  | some ad =>
    have f0 : Fr [] w (nw w [] 105) := (Fr.refl [] w).nw _ _
    obtain ⟨v', w1, hrun, hown, hg, _⟩ := append_own2 (P := P) (t := 59) (ty := 59) (sz w) sliceE59 hasZero105 cellsOf105 (by rw [zeroL105]; rfl) (by omega) (own_made (Nat.le_refl _)) (by rw [sz_nw]; omega) (hr.fr0 f0) (by rw [flat_len (itemV_len L)])
      (by intro u hu; obtain ⟨l, hl, hu⟩ := List.mem_flatten.1 hu; obtain ⟨x, _, rfl⟩ := List.mem_map.1 hl; exact itemV_one x u hu) (by unfold maxLen; omega) (by rw [bytesOf105]; omega)
    simp only [Nat.zero_add, List.nil_append] at hown
    have hf : Fr [] w w1 := f0.trans (Fr.of_grown hg) (fun b hb => .inr (by simp [Value.ownBlock] at hb; omega))
    obtain ⟨a', c', rfl⟩ := own_val hown
    try simp (maxDischargeDepth := 8) [↓sC, sB, sM, eq_slice23, hrun]
    exact ⟨a', c', ⟨rfl, rfl⟩, own_rd hown, fun k hk => hown.lt k hk, hf⟩
theorem recCloneO_spec {w : World} {r : RecP} {a : Option Addr} {c : Nat} (hr : IsRec w (.slice a r.list.length c) r) (hL : r.list.length ≤ 1000000) :
    Ret P 44 #[.agg (rcV r (.slice a r.list.length c)).toArray] w fun v w' => ∃ a' c', v = .agg (rcV r (.slice a' r.list.length c')).toArray ∧ IsRec w' (.slice a' r.list.length c') r ∧ (∀ k, (Value.slice a' r.list.length c').ownBlock = some k → sz w ≤ k ∧ k < sz w') ∧ Fr [] w w' := by
  refine F44ok ?_
  unfold F44
  obtain ⟨W, hW⟩ : ∃ W, W = nw (nw w (rcV r (.slice a r.list.length c)) 61) (rcV rz (.slice none 0 0)) 61 := ⟨_, rfl⟩
  have fW : Fr [] w W := by rw [hW]; exact ((Fr.refl [] w).nw _ _).nw _ _
  have hs : sz W = sz w + 2 := by rw [hW]; simp [sz_nw]
  have m1 : mm W (sz w) = rcV r (.slice a r.list.length c) := by rw [hW]; simp [mm_nw, sz_nw]
  have m2 : mm W (sz w + 1) = rcV rz (.slice none 0 0) := by rw [hW]; simp [mm_nw, sz_nw]
  have z1 : fz W (sz w) = false := by rw [hW]; simp [fz_nw, sz_nw]
  have z2 : fz W (sz w + 1) = false := by rw [hW]; simp [fz_nw, sz_nw]
  have hz : [Value.int IntKind.i64 0, Value.int IntKind.i64 0, Value.int IntKind.i64 0, Value.int IntKind.i64 0, Value.float FloatKind.f64 0, Value.int IntKind.i64 0, Value.string ByteArray.empty, Value.slice none 0 0] = rcV rz (.slice none 0 0) := rfl
  try simp (maxDischargeDepth := 8) [↓sC, sB, sM, rcC, hz, ← hW, m1]
  refine (cloneL_spec (hr.fr0 fW).1 hL).call ?_
  rintro _ w1 ⟨a', c', rfl, hr1, hk1, f1⟩
  have n1 : mm w1 (sz w) = rcV r (.slice a r.list.length c) := by rw [f1.mm (by omega) (by simp), m1]
  have n2 : mm w1 (sz w + 1) = rcV rz (.slice none 0 0) := by rw [f1.mm (by omega) (by simp), m2]
  have y1 : fz w1 (sz w) = false := by rw [f1.fz (by omega) (by simp), z1]
  have y2 : fz w1 (sz w + 1) = false := by rw [f1.fz (by omega) (by simp), z2]
  have hset : ∀ v, (rcV r (.slice a r.list.length c)).set 7 v = rcV r v := fun _ => rfl
  have t8 : ∀ r lv, (rcV r lv).take 8 = rcV r lv := fun _ _ => rfl
  have hs8 : ∀ l : List Value, l.length = 8 → splice l 0 (rcV r (.slice a' r.list.length c')) = rcV r (.slice a' r.list.length c') := fun l hl => splice_full (by rw [hl]; rfl)
  have e1 : ¬ sz w = sz w + 1 := by omega
  have e2 : ¬ sz w + 1 = sz w := by omega
  obtain ⟨W2, hW2⟩ : ∃ W2, W2 = wr w1 (sz w) (rcV r (.slice a' r.list.length c')) := ⟨_, rfl⟩
  have q1 : mm W2 (sz w) = rcV r (.slice a' r.list.length c') := by rw [hW2]; exact mm_wr_same y1 _
  have q2 : mm W2 (sz w + 1) = rcV rz (.slice none 0 0) := by rw [hW2, mm_wr_ne e2, n2]
  have q3 : fz W2 (sz w + 1) = false := by rw [hW2, fz_wr, y2]
  obtain ⟨W3, hW3⟩ : ∃ W3, W3 = wr W2 (sz w + 1) (rcV r (.slice a' r.list.length c')) := ⟨_, rfl⟩
  have p2 : mm W3 (sz w + 1) = rcV r (.slice a' r.list.length c') := by rw [hW3]; exact mm_wr_same q3 _
  have hf : Fr [] w W3 := by
    rw [hW3, hW2]
    exact ((fW.trans0 f1).wr (.inr (Nat.le_refl _)) _).wr (.inr (by omega)) _
  have hsp : splice (rcV rz (.slice none 0 0)) 0 (rcV r (.slice a' r.list.length c')) = rcV r (.slice a' r.list.length c') := splice_full rfl
  have hr3 : RdV W3 (.slice a' r.list.length c') r.list.length (flat itemV r.list) := by
    have hS : Fr [sz w, sz w + 1] w1 W3 := by
      rw [hW3, hW2]
      exact ((Fr.refl _ w1).wr (.inl (by simp)) _).wr (.inl (by simp)) _
    exact hr1.fr hS (fun k hk hm => by have := hk1 k hk; simp at hm; omega)
  try simp (maxDischargeDepth := 8) [↓sC, sB, sM, n1, y1, hset, ← hW2, q1, q2, q3, t8, hsp, rcV_oneT, ← hW3, p2]
  have hkk : ∀ k, (Value.slice a' r.list.length c').ownBlock = some k → sz w ≤ k ∧ k < sz W3 := fun k hk => by
    have := hk1 k hk
    have e : sz W3 = sz w1 := by rw [hW3, hW2, sz_wr, sz_wr]
    omega
  exact ⟨a', c', rfl, ⟨hr3, hr.2⟩, hkk, hf⟩
end Go.Proofs.YtieejbkbdfccdaaGreat
