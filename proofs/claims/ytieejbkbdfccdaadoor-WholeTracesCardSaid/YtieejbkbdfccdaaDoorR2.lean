/- Records, as the document checks them. -/
import Derived.Test.YtieejbkbdfccdaaDoorSim
import Derived.Test.YtieejbkbdfccdaaDoorR1
set_option linter.unusedVariables false
set_option linter.unusedSimpArgs false
namespace Go.Proofs.YtieejbkbdfccdaaDoor
open Go

structure RecP where
  kind : Int
  num : Int
  low : Int
  high : Int
  real : Nat
  cap : Int
  text : List UInt8
  list : List ItemP
def rcV (r : RecP) (lv : Value) : List Value := [i64 r.kind, i64 r.num, i64 r.low, i64 r.high, fl r.real, i64 r.cap, strB r.text, lv]
def in64 (n : Int) : Prop := -9223372036854775808 ≤ n ∧ n < 9223372036854775808
def okR (r : RecP) : Prop := in64 r.kind ∧ in64 r.num ∧ in64 r.low ∧ in64 r.high ∧ r.real < 2 * H63 ∧ in64 r.cap ∧ ∀ x ∈ r.list, okI x
def IsRec (w : World) (lv : Value) (r : RecP) : Prop := RdV w lv r.list.length (flat itemV r.list) ∧ okR r
theorem IsRec.fr0 {w w' : World} {lv : Value} {r : RecP} (h : IsRec w lv r) (hf : Fr [] w w') : IsRec w' lv r := ⟨h.1.fr0 hf, h.2⟩
@[simp] theorem rlen {r : RecP} {lv : Value} : (rcV r lv).length = 8 := rfl
@[simp] theorem rg0 {r : RecP} {lv : Value} : gt (rcV r lv) 0 = i64 r.kind := rfl
@[simp] theorem rg1 {r : RecP} {lv : Value} : gt (rcV r lv) 1 = i64 r.num := rfl
@[simp] theorem rg2 {r : RecP} {lv : Value} : gt (rcV r lv) 2 = i64 r.low := rfl
@[simp] theorem rg3 {r : RecP} {lv : Value} : gt (rcV r lv) 3 = i64 r.high := rfl
@[simp] theorem rg4 {r : RecP} {lv : Value} : gt (rcV r lv) 4 = fl r.real := rfl
@[simp] theorem rg5 {r : RecP} {lv : Value} : gt (rcV r lv) 5 = i64 r.cap := rfl
@[simp] theorem rg6 {r : RecP} {lv : Value} : gt (rcV r lv) 6 = strB r.text := rfl
@[simp] theorem rg7 {r : RecP} {lv : Value} : gt (rcV r lv) 7 = lv := rfl
@[simp] theorem ilen {x : ItemP} : (itemV x).length = 2 := rfl
@[simp] theorem ig0 {x : ItemP} : gt (itemV x) 0 = fl x.score := rfl
@[simp] theorem ig1 {x : ItemP} : gt (itemV x) 1 = strB x.name := rfl
theorem rcV_one {r : RecP} {a : Option Addr} {n c : Nat} : ∀ v ∈ rcV r (.slice a n c), v.oneCell' = true := by
  intro v hv
  simp only [rcV, List.mem_cons, List.not_mem_nil, or_false] at hv
  rcases hv with rfl | rfl | rfl | rfl | rfl | rfl | rfl | rfl <;> first | exact oc_strB _ | rfl
theorem rcV_oneT {r : RecP} {a : Option Addr} {n c : Nat} : (∀ v, v ∈ rcV r (.slice a n c) → v.oneCell' = true) = True := by simpa using fun v hv => rcV_one v hv
theorem itemC (x : ItemP) : (Value.agg (itemV x).toArray).cells.toList = itemV x := rfl
theorem rcC (r : RecP) (lv : Value) : (Value.agg (rcV r lv).toArray).cells.toList = rcV r lv := rfl

theorem wrap_1 : IntKind.i64.wrap 1 = 1 := by decide
theorem wrap_2 : IntKind.i64.wrap 2 = 2 := by decide
def onlyP (r : RecP) (s : List UInt8) : Prop :=
  (s.contains 116 = false → r.text = []) ∧ (s.contains 110 = false → r.num = 0) ∧ (s.contains 98 = false → r.low = 0 ∧ r.high = 0) ∧ (s.contains 114 = false → key r.real = key 0) ∧ (s.contains 108 = false → r.cap = 0 ∧ r.list = [])
def fiveS (s : List UInt8) : Prop := s = [116] ∨ s = [110] ∨ s = [110, 98] ∨ s = [114] ∨ s = [108]
def OnlyI (w1 : World) (s : List UInt8) (b : Nat) (m : Nat) (e : Env) (w' : World) : Prop :=
  ∃ j : Nat, m = s.length - j ∧ j ≤ s.length ∧ e 10 = i64 j ∧ e 1 = strB s ∧ e 2 = pt b 0 ∧ e 5 = .bool ((s.take j).contains 116) ∧ e 6 = .bool ((s.take j).contains 110) ∧ e 7 = .bool ((s.take j).contains 98) ∧ e 8 = .bool ((s.take j).contains 114) ∧ e 9 = .bool ((s.take j).contains 108) ∧ w' = w1
theorem only_step {w1 : World} {s : List UInt8} {b : Nat} (hs : fiveS s) {j : Nat} {e : Env} {w2 : World} (hj : j < s.length) (hI : OnlyI w1 s b (s.length - j) e w2) {K : KT}
    (hK : ∀ e' w'', OnlyI w1 s b (s.length - (j + 1)) e' w'' → K .normal e' w'') : F63B0 e w2 K := by
  obtain ⟨j', hm, hj', e10, e1, e2, e5, e6, e7, e8, e9, rfl⟩ := hI
  have : j' = j := by omega
  subst this
  unfold F63B0
  have hlen : ∀ w, pBuiltin P .len #[9] 3 [strB s] w = some (i64 s.length, w) := fun w => len_strB und9
  have hji : (j' : Int) < s.length := by omega
  have hix : ∀ w, pIndex P 9 (strB s) (i64 j') w = some (bv (gb s j'), w) := fun w => ix_strB und9 hj
  have hwj : IntKind.i64.wrap ((j' : Int) + 1) = ((j' + 1 : Nat) : Int) := by
    have : s.length ≤ 2 := by rcases hs with rfl | rfl | rfl | rfl | rfl <;> decide
    exact wrap64 (by omega) (by omega)
  try simp (maxDischargeDepth := 8) [↓sC, sB, sM, e10, e1, hlen, hji, hj]
  have hcase : (s = [116] ∧ j' = 0) ∨ (s = [110] ∧ j' = 0) ∨ (s = [110, 98] ∧ j' = 0) ∨ (s = [110, 98] ∧ j' = 1) ∨ (s = [114] ∧ j' = 0) ∨ (s = [108] ∧ j' = 0) := by
    rcases hs with rfl | rfl | rfl | rfl | rfl <;> simp at hj ⊢ <;> omega
  rcases hcase with ⟨rfl, rfl⟩ | ⟨rfl, rfl⟩ | ⟨rfl, rfl⟩ | ⟨rfl, rfl⟩ | ⟨rfl, rfl⟩ | ⟨rfl, rfl⟩
  · have hix : ∀ w, pIndex P 9 (strB [116]) (i64 0) w = some (bv 116, w) := fun w => ix_strB und9 (j := 0) (by decide)
    try simp (maxDischargeDepth := 8) [↓sC, sB, sM, e10, e1, e5, e6, e7, e8, e9, hix, hwj]
    exact hK _ _ ⟨1, rfl, by simp, by simp [put_get, e10, wrap_1, wrap_2], by simp [put_get, e1], by simp [put_get, e2], by simp [put_get, e5], by simp [put_get, e6], by simp [put_get, e7], by simp [put_get, e8], by simp [put_get, e9], rfl⟩
  · have hix : ∀ w, pIndex P 9 (strB [110]) (i64 0) w = some (bv 110, w) := fun w => ix_strB und9 (j := 0) (by decide)
    try simp (maxDischargeDepth := 8) [↓sC, sB, sM, e10, e1, e5, e6, e7, e8, e9, hix, hwj]
    exact hK _ _ ⟨1, rfl, by simp, by simp [put_get, e10, wrap_1, wrap_2], by simp [put_get, e1], by simp [put_get, e2], by simp [put_get, e5], by simp [put_get, e6], by simp [put_get, e7], by simp [put_get, e8], by simp [put_get, e9], rfl⟩
  · have hix : ∀ w, pIndex P 9 (strB [110, 98]) (i64 0) w = some (bv 110, w) := fun w => ix_strB und9 (j := 0) (by decide)
    try simp (maxDischargeDepth := 8) [↓sC, sB, sM, e10, e1, e5, e6, e7, e8, e9, hix, hwj]
    exact hK _ _ ⟨1, rfl, by simp, by simp [put_get, e10, wrap_1, wrap_2], by simp [put_get, e1], by simp [put_get, e2], by simp [put_get, e5], by simp [put_get, e6], by simp [put_get, e7], by simp [put_get, e8], by simp [put_get, e9], rfl⟩
  · have hix : ∀ w, pIndex P 9 (strB [110, 98]) (i64 1) w = some (bv 98, w) := fun w => ix_strB und9 (j := 1) (by decide)
    try simp (maxDischargeDepth := 8) [↓sC, sB, sM, e10, e1, e5, e6, e7, e8, e9, hix, hwj]
    exact hK _ _ ⟨2, rfl, by simp, by simp [put_get, e10, wrap_1, wrap_2], by simp [put_get, e1], by simp [put_get, e2], by simp [put_get, e5], by simp [put_get, e6], by simp [put_get, e7], by simp [put_get, e8], by simp [put_get, e9], rfl⟩
  · have hix : ∀ w, pIndex P 9 (strB [114]) (i64 0) w = some (bv 114, w) := fun w => ix_strB und9 (j := 0) (by decide)
    try simp (maxDischargeDepth := 8) [↓sC, sB, sM, e10, e1, e5, e6, e7, e8, e9, hix, hwj]
    exact hK _ _ ⟨1, rfl, by simp, by simp [put_get, e10, wrap_1, wrap_2], by simp [put_get, e1], by simp [put_get, e2], by simp [put_get, e5], by simp [put_get, e6], by simp [put_get, e7], by simp [put_get, e8], by simp [put_get, e9], rfl⟩
  · have hix : ∀ w, pIndex P 9 (strB [108]) (i64 0) w = some (bv 108, w) := fun w => ix_strB und9 (j := 0) (by decide)
    try simp (maxDischargeDepth := 8) [↓sC, sB, sM, e10, e1, e5, e6, e7, e8, e9, hix, hwj]
    exact hK _ _ ⟨1, rfl, by simp, by simp [put_get, e10, wrap_1, wrap_2], by simp [put_get, e1], by simp [put_get, e2], by simp [put_get, e5], by simp [put_get, e6], by simp [put_get, e7], by simp [put_get, e8], by simp [put_get, e9], rfl⟩
theorem only_spec {w : World} {r : RecP} {a : Option Addr} {c : Nat} {s : List UInt8} (hs : fiveS s) (hr : okR r) :
    Ret P 63 #[.agg (rcV r (.slice a r.list.length c)).toArray, strB s] w fun v w' => ∃ b, v = .bool b ∧ (b = true → onlyP r s) ∧ Fr [] w w' := by
  refine F63ok ?_
  unfold F63
  obtain ⟨W, hW⟩ : ∃ W, W = nw w (rcV r (.slice a r.list.length c)) 25 := ⟨_, rfl⟩
  have fW : Fr [] w W := by rw [hW]; exact (Fr.refl [] w).nw _ _
  have hm : mm W (sz w) = rcV r (.slice a r.list.length c) := by rw [hW]; simp [mm_nw]
  try simp (maxDischargeDepth := 8) [↓sC, sB, sM, rcC, ← hW]
  refine loopE_of (OnlyI W s (sz w)) s.length ⟨0, by omega, by omega, by simp [put_get], by simp [put_get, argE_get], by simp [put_get], by simp [put_get], by simp [put_get], by simp [put_get], by simp [put_get], by simp [put_get], rfl⟩ ?_
  rintro m e w2 hI
  obtain ⟨j, rfl, hj, e10, e1, e2, e5, e6, e7, e8, e9, rfl⟩ := id hI
  by_cases hjl : j < s.length
  · exact only_step hs hjl hI fun e' w'' hK => ⟨s.length - (j + 1), by omega, hK⟩
  have : j = s.length := by omega
  subst this
  unfold F63B0
  have hlen : ∀ w, pBuiltin P .len #[9] 3 [strB s] w = some (i64 s.length, w) := fun w => len_strB und9
  try simp (maxDischargeDepth := 8) [↓sC, sB, sM, e10, e1, hlen]
  rw [List.take_length] at e5 e6 e7 e8 e9
  have hne : ∀ l w, pBin P .neq 9 true (strB l) (Value.string { data := #[] }) w = some (.bool (decide (l ≠ [])), w) := fun l w => ne_strB (m := [])
  have hll : ((r.list.length : Int) = 0) = (r.list = []) := by simp
  have hsW : sz w < sz w2 := by rw [hW, sz_nw]; omega
  clear hI hW hlen hj
  rcases hs with rfl | rfl | rfl | rfl | rfl
  · rcases (Decidable.em (r.num = 0)).symm with c1 | c1
    · try simp (maxDischargeDepth := 8) [↓sC, sB, sM, e2, e5, e6, e7, e8, e9, hm, hne, hll, c1]
      exact fW
    rcases (Decidable.em (r.low = 0)).symm with c2 | c2
    · try simp (maxDischargeDepth := 8) [↓sC, sB, sM, e2, e5, e6, e7, e8, e9, hm, hne, hll, c1, c2]
      exact fW
    rcases (Decidable.em (r.high = 0)).symm with c3 | c3
    · try simp (maxDischargeDepth := 8) [↓sC, sB, sM, e2, e5, e6, e7, e8, e9, hm, hne, hll, c1, c2, c3]
      exact fW
    try simp (maxDischargeDepth := 8) [↓sC, sB, sM, e2, e5, e6, e7, e8, e9, hm, hne, hll, c1, c2, c3]
    refine (zero_spec hr.2.2.2.2.1).call ?_
    rintro _ w3 ⟨rfl, f3⟩
    have hm3 : mm w3 (sz w) = rcV r (.slice a r.list.length c) := by rw [f3.mm (by omega) (by simp), hm]
    rcases (Decidable.em (key r.real = key 0)).symm with c4 | c4
    · try simp (maxDischargeDepth := 8) [↓sC, sB, sM, c4]
      exact fW.trans0 f3
    rcases (Decidable.em (r.cap = 0)).symm with c5 | c5
    · try simp (maxDischargeDepth := 8) [↓sC, sB, sM, e2, e5, e6, e7, e8, e9, hm3, hne, hll, c1, c2, c3, c4, c5]
      exact fW.trans0 f3
    rcases (Decidable.em (r.list = [])).symm with c6 | c6
    · try simp (maxDischargeDepth := 8) [↓sC, sB, sM, e2, e5, e6, e7, e8, e9, hm3, hne, hll, c1, c2, c3, c4, c5, c6]
      exact fW.trans0 f3
    try simp (maxDischargeDepth := 8) [↓sC, sB, sM, e2, e5, e6, e7, e8, e9, hm3, hne, hll, c1, c2, c3, c4, c5, c6]
    exact ⟨by simp [onlyP, c1, c2, c3, c4, c5, c6], fW.trans0 f3⟩
  · rcases (Decidable.em (r.text = [])).symm with c1 | c1
    · try simp (maxDischargeDepth := 8) [↓sC, sB, sM, e2, e5, e6, e7, e8, e9, hm, hne, hll, c1]
      exact fW
    rcases (Decidable.em (r.low = 0)).symm with c2 | c2
    · try simp (maxDischargeDepth := 8) [↓sC, sB, sM, e2, e5, e6, e7, e8, e9, hm, hne, hll, c1, c2]
      exact fW
    rcases (Decidable.em (r.high = 0)).symm with c3 | c3
    · try simp (maxDischargeDepth := 8) [↓sC, sB, sM, e2, e5, e6, e7, e8, e9, hm, hne, hll, c1, c2, c3]
      exact fW
    try simp (maxDischargeDepth := 8) [↓sC, sB, sM, e2, e5, e6, e7, e8, e9, hm, hne, hll, c1, c2, c3]
    refine (zero_spec hr.2.2.2.2.1).call ?_
    rintro _ w3 ⟨rfl, f3⟩
    have hm3 : mm w3 (sz w) = rcV r (.slice a r.list.length c) := by rw [f3.mm (by omega) (by simp), hm]
    rcases (Decidable.em (key r.real = key 0)).symm with c4 | c4
    · try simp (maxDischargeDepth := 8) [↓sC, sB, sM, c4]
      exact fW.trans0 f3
    rcases (Decidable.em (r.cap = 0)).symm with c5 | c5
    · try simp (maxDischargeDepth := 8) [↓sC, sB, sM, e2, e5, e6, e7, e8, e9, hm3, hne, hll, c1, c2, c3, c4, c5]
      exact fW.trans0 f3
    rcases (Decidable.em (r.list = [])).symm with c6 | c6
    · try simp (maxDischargeDepth := 8) [↓sC, sB, sM, e2, e5, e6, e7, e8, e9, hm3, hne, hll, c1, c2, c3, c4, c5, c6]
      exact fW.trans0 f3
    try simp (maxDischargeDepth := 8) [↓sC, sB, sM, e2, e5, e6, e7, e8, e9, hm3, hne, hll, c1, c2, c3, c4, c5, c6]
    exact ⟨by simp [onlyP, c1, c2, c3, c4, c5, c6], fW.trans0 f3⟩
  · rcases (Decidable.em (r.text = [])).symm with c1 | c1
    · try simp (maxDischargeDepth := 8) [↓sC, sB, sM, e2, e5, e6, e7, e8, e9, hm, hne, hll, c1]
      exact fW
    try simp (maxDischargeDepth := 8) [↓sC, sB, sM, e2, e5, e6, e7, e8, e9, hm, hne, hll, c1]
    refine (zero_spec hr.2.2.2.2.1).call ?_
    rintro _ w3 ⟨rfl, f3⟩
    have hm3 : mm w3 (sz w) = rcV r (.slice a r.list.length c) := by rw [f3.mm (by omega) (by simp), hm]
    rcases (Decidable.em (key r.real = key 0)).symm with c2 | c2
    · try simp (maxDischargeDepth := 8) [↓sC, sB, sM, c2]
      exact fW.trans0 f3
    rcases (Decidable.em (r.cap = 0)).symm with c3 | c3
    · try simp (maxDischargeDepth := 8) [↓sC, sB, sM, e2, e5, e6, e7, e8, e9, hm3, hne, hll, c1, c2, c3]
      exact fW.trans0 f3
    rcases (Decidable.em (r.list = [])).symm with c4 | c4
    · try simp (maxDischargeDepth := 8) [↓sC, sB, sM, e2, e5, e6, e7, e8, e9, hm3, hne, hll, c1, c2, c3, c4]
      exact fW.trans0 f3
    try simp (maxDischargeDepth := 8) [↓sC, sB, sM, e2, e5, e6, e7, e8, e9, hm3, hne, hll, c1, c2, c3, c4]
    exact ⟨by simp [onlyP, c1, c2, c3, c4], fW.trans0 f3⟩
  · rcases (Decidable.em (r.text = [])).symm with c1 | c1
    · try simp (maxDischargeDepth := 8) [↓sC, sB, sM, e2, e5, e6, e7, e8, e9, hm, hne, hll, c1]
      exact fW
    rcases (Decidable.em (r.num = 0)).symm with c2 | c2
    · try simp (maxDischargeDepth := 8) [↓sC, sB, sM, e2, e5, e6, e7, e8, e9, hm, hne, hll, c1, c2]
      exact fW
    rcases (Decidable.em (r.low = 0)).symm with c3 | c3
    · try simp (maxDischargeDepth := 8) [↓sC, sB, sM, e2, e5, e6, e7, e8, e9, hm, hne, hll, c1, c2, c3]
      exact fW
    rcases (Decidable.em (r.high = 0)).symm with c4 | c4
    · try simp (maxDischargeDepth := 8) [↓sC, sB, sM, e2, e5, e6, e7, e8, e9, hm, hne, hll, c1, c2, c3, c4]
      exact fW
    rcases (Decidable.em (r.cap = 0)).symm with c5 | c5
    · try simp (maxDischargeDepth := 8) [↓sC, sB, sM, e2, e5, e6, e7, e8, e9, hm, hne, hll, c1, c2, c3, c4, c5]
      exact fW
    rcases (Decidable.em (r.list = [])).symm with c6 | c6
    · try simp (maxDischargeDepth := 8) [↓sC, sB, sM, e2, e5, e6, e7, e8, e9, hm, hne, hll, c1, c2, c3, c4, c5, c6]
      exact fW
    try simp (maxDischargeDepth := 8) [↓sC, sB, sM, e2, e5, e6, e7, e8, e9, hm, hne, hll, c1, c2, c3, c4, c5, c6]
    exact ⟨by simp [onlyP, c1, c2, c3, c4, c5, c6], fW⟩
  · rcases (Decidable.em (r.text = [])).symm with c1 | c1
    · try simp (maxDischargeDepth := 8) [↓sC, sB, sM, e2, e5, e6, e7, e8, e9, hm, hne, hll, c1]
      exact fW
    rcases (Decidable.em (r.num = 0)).symm with c2 | c2
    · try simp (maxDischargeDepth := 8) [↓sC, sB, sM, e2, e5, e6, e7, e8, e9, hm, hne, hll, c1, c2]
      exact fW
    rcases (Decidable.em (r.low = 0)).symm with c3 | c3
    · try simp (maxDischargeDepth := 8) [↓sC, sB, sM, e2, e5, e6, e7, e8, e9, hm, hne, hll, c1, c2, c3]
      exact fW
    rcases (Decidable.em (r.high = 0)).symm with c4 | c4
    · try simp (maxDischargeDepth := 8) [↓sC, sB, sM, e2, e5, e6, e7, e8, e9, hm, hne, hll, c1, c2, c3, c4]
      exact fW
    try simp (maxDischargeDepth := 8) [↓sC, sB, sM, e2, e5, e6, e7, e8, e9, hm, hne, hll, c1, c2, c3, c4]
    refine (zero_spec hr.2.2.2.2.1).call ?_
    rintro _ w3 ⟨rfl, f3⟩
    have hm3 : mm w3 (sz w) = rcV r (.slice a r.list.length c) := by rw [f3.mm (by omega) (by simp), hm]
    rcases (Decidable.em (key r.real = key 0)).symm with c5 | c5
    · try simp (maxDischargeDepth := 8) [↓sC, sB, sM, c5]
      exact fW.trans0 f3
    try simp (maxDischargeDepth := 8) [↓sC, sB, sM, e2, e5, e6, e7, e8, e9, hm3, hne, hll, c1, c2, c3, c4, c5]
    exact ⟨by simp [onlyP, c1, c2, c3, c4, c5], fW.trans0 f3⟩

def itemP (k : Int) (L : List ItemP) (i : Nat) : Prop :=
  ∀ x, L[i]? = some x → x.name.length ≤ 16 ∧ (k = 8 → key x.score = key 0) ∧ x.score = canon x.score ∧ ∀ y, 0 < i → L[i - 1]? = some y → (k = 8 → Op.bytesLess y.name x.name = true) ∧ (k = 9 → aheadB y x = true)
theorem item_spec {w : World} {k : Int} {a : Option Addr} {c : Nat} {L : List ItemP} (hr : RdV w (.slice a L.length c) L.length (flat itemV L)) (hok : ∀ x ∈ L, okI x) (hL : L.length ≤ 1000000) {i : Nat} (hi : i < L.length) :
    Ret P 65 #[i64 k, .slice a L.length c, i64 i] w fun v w' => ∃ n : Int, v = i64 n ∧ (n = 0 → itemP k L i) ∧ Fr [] w w' := by
  refine F65ok ?_
  unfold F65
  obtain ⟨x, hx⟩ : ∃ x, L[i]? = some x := ⟨_, List.getElem?_eq_getElem hi⟩
  have hxok := hok x (List.mem_of_getElem? hx)
  obtain ⟨b, o, c', hv, hb, hin, htk⟩ := flat_at hr (itemV_len L) (by omega) hx
  simp only [Value.slice.injEq] at hv
  obtain ⟨rfl, _, rfl⟩ := hv
  have hii : (i : Int) < L.length := by omega
  have hs2 : ∀ l : List Value, l.length = 2 → splice l 0 (itemV x) = itemV x := fun l hl => splice_full (by rw [hl]; rfl)
  obtain ⟨W, hW⟩ : ∃ W, W = wr (nw w [Value.float FloatKind.f64 0, Value.string ByteArray.empty] 80) (sz w) (itemV x) := ⟨_, rfl⟩
  have fW : Fr [] w W := by rw [hW]; exact ((Fr.refl [] w).nw _ _).wr (.inr (Nat.le_refl _)) _
  have hm : mm W (sz w) = itemV x := by rw [hW]; exact mm_wr_same (by simp [fz_nw]) _
  have hsW : sz w < sz W := by rw [hW, sz_wr, sz_nw]; omega
  have hlen : ∀ w, pBuiltin P .len #[9] 3 [strB x.name] w = some (i64 x.name.length, w) := fun w => len_strB und9
  try simp (maxDischargeDepth := 8) [↓sC, sB, sM, hii, hi, hin, htk, hs2, itemV_oneT, hlen, ← hW, hm]
  rcases (Decidable.em (x.name.length ≤ 16)).symm with c1 | c1
  · have c1i : (16 : Int) < x.name.length := by omega
    try simp (maxDischargeDepth := 8) [↓sC, sB, sM, c1i]
    exact fW
  have c1i : ¬ (16 : Int) < x.name.length := by omega
  rcases Nat.eq_zero_or_pos i with i0 | i0
  · subst i0
    by_cases k8 : k = 8
    · subst k8
      try simp (maxDischargeDepth := 8) [↓sC, sB, sM, c1i, hm]
      refine (zero_spec hxok).call ?_
      rintro _ w1 ⟨rfl, f1⟩
      have hm1 : mm w1 (sz w) = itemV x := by rw [f1.mm hsW (by simp), hm]
      rcases (Decidable.em (key x.score = key 0)).symm with z | z
      · try simp (maxDischargeDepth := 8) [↓sC, sB, sM, z]
        exact fW.trans0 f1
      try simp (maxDischargeDepth := 8) [↓sC, sB, sM, z, hm1]
      refine (refProper_spec hxok).call ?_
      rintro _ w2 ⟨rfl, f2⟩
      have hsf := (f1.trans0 f2).size
      have hm2 : mm w2 (sz w) = itemV x := by rw [(f1.trans0 f2).mm hsW (by simp), hm]
      rcases (Decidable.em (x.score = canon x.score)).symm with p | p
      · try simp (maxDischargeDepth := 8) [↓sC, sB, sM, p]
        exact (fW.trans0 f1).trans0 f2
      rw [decide_eq_true p]
      try simp (maxDischargeDepth := 8) [↓sC, sB, sM, hm2]
      exact ⟨fun x' hx' => by rw [hx] at hx'; cases hx'; exact ⟨c1, by simp [z], p, fun y h0 _ => absurd h0 (by omega)⟩, ((fW.trans0 f1).trans0 f2).drew.drew⟩
    · skip
      try simp (maxDischargeDepth := 8) [↓sC, sB, sM, c1i, k8, hm]
      have f1 : Fr [] W W := Fr.refl [] W
      have z : True := trivial
      refine (refProper_spec hxok).call ?_
      rintro _ w2 ⟨rfl, f2⟩
      have hsf := (f1.trans0 f2).size
      have hm2 : mm w2 (sz w) = itemV x := by rw [(f1.trans0 f2).mm hsW (by simp), hm]
      rcases (Decidable.em (x.score = canon x.score)).symm with p | p
      · try simp (maxDischargeDepth := 8) [↓sC, sB, sM, p]
        exact (fW.trans0 f1).trans0 f2
      rw [decide_eq_true p]
      try simp (maxDischargeDepth := 8) [↓sC, sB, sM, hm2, k8]
      exact ⟨fun x' hx' => by rw [hx] at hx'; cases hx'; exact ⟨c1, by simp [k8], p, fun y h0 _ => absurd h0 (by omega)⟩, ((fW.trans0 f1).trans0 f2).drew.drew⟩
  · obtain ⟨y, hy⟩ : ∃ y, L[i - 1]? = some y := ⟨_, List.getElem?_eq_getElem (by omega)⟩
    have hyok := hok y (List.mem_of_getElem? hy)
    obtain ⟨b', o', c', hv, hb', hin', htk'⟩ := flat_at hr (itemV_len L) (by omega) hy
    simp only [Value.slice.injEq, Option.some.injEq, Addr.mk.injEq] at hv
    obtain ⟨⟨rfl, rfl, _⟩, _, rfl⟩ := hv
    have hwm : IntKind.i64.wrap ((i : Int) - 1) = ((i - 1 : Nat) : Int) := by rw [wrap64 (by omega) (by omega)]; omega
    have i0i : (0 : Int) < i := by omega
    have him : ((i - 1 : Nat) : Int) < L.length := by omega
    have him' : i - 1 < L.length := by omega
    have hlt : ∀ w, pBin P .lss 9 false (strB y.name) (strB x.name) w = some (.bool (Op.bytesLess y.name x.name), w) := fun w => lt_strB
    by_cases k8 : k = 8
    · subst k8
      try simp (maxDischargeDepth := 8) [↓sC, sB, sM, c1i, hm]
      refine (zero_spec hxok).call ?_
      rintro _ w1 ⟨rfl, f1⟩
      have hm1 : mm w1 (sz w) = itemV x := by rw [f1.mm hsW (by simp), hm]
      rcases (Decidable.em (key x.score = key 0)).symm with z | z
      · try simp (maxDischargeDepth := 8) [↓sC, sB, sM, z]
        exact fW.trans0 f1
      try simp (maxDischargeDepth := 8) [↓sC, sB, sM, z, hm1]
      refine (refProper_spec hxok).call ?_
      rintro _ w2 ⟨rfl, f2⟩
      have hsf := (f1.trans0 f2).size
      have hm2 : mm w2 (sz w) = itemV x := by rw [(f1.trans0 f2).mm hsW (by simp), hm]
      rcases (Decidable.em (x.score = canon x.score)).symm with p | p
      · try simp (maxDischargeDepth := 8) [↓sC, sB, sM, p]
        exact (fW.trans0 f1).trans0 f2
      have q1 : o + (i - 1) * 2 + 2 ≤ (mm w2 b).length := by rw [((fW.trans0 f1).trans0 f2).mm hb (by simp)]; exact hin'
      have q2 : ((mm w2 b).drop (o + (i - 1) * 2)).take 2 = itemV y := by rw [((fW.trans0 f1).trans0 f2).mm hb (by simp)]; exact htk'
      have q3 : o + (i - 1) * 2 + 1 < (mm w2 b).length := by omega
      have q4 : gt (mm w2 b) (o + (i - 1) * 2 + 1) = strB y.name := by rw [cell_of q2 (by omega)]; rfl
      rw [decide_eq_true p]
      cases hq : Op.bytesLess y.name x.name
      · try simp (maxDischargeDepth := 8) [↓sC, sB, sM, i0i, i0, hwm, him, him', hm2, q1, q2, q3, q4, hlt, hq]
        exact ((fW.trans0 f1).trans0 f2).drew
      try simp (maxDischargeDepth := 8) [↓sC, sB, sM, i0i, i0, hwm, him, him', hm2, q1, q2, q3, q4, hlt, hq]
      exact ⟨fun x' hx' => by rw [hx] at hx'; cases hx'; exact ⟨c1, by simp [z], p, fun y' _ hy' => by rw [hy] at hy'; cases hy'; simp [hq]⟩, ((fW.trans0 f1).trans0 f2).drew.drew⟩
    · skip
      try simp (maxDischargeDepth := 8) [↓sC, sB, sM, c1i, k8, hm]
      have f1 : Fr [] W W := Fr.refl [] W
      have z : True := trivial
      refine (refProper_spec hxok).call ?_
      rintro _ w2 ⟨rfl, f2⟩
      have hsf := (f1.trans0 f2).size
      have hm2 : mm w2 (sz w) = itemV x := by rw [(f1.trans0 f2).mm hsW (by simp), hm]
      rcases (Decidable.em (x.score = canon x.score)).symm with p | p
      · try simp (maxDischargeDepth := 8) [↓sC, sB, sM, p]
        exact (fW.trans0 f1).trans0 f2
      have q1 : o + (i - 1) * 2 + 2 ≤ (mm w2 b).length := by rw [((fW.trans0 f1).trans0 f2).mm hb (by simp)]; exact hin'
      have q2 : ((mm w2 b).drop (o + (i - 1) * 2)).take 2 = itemV y := by rw [((fW.trans0 f1).trans0 f2).mm hb (by simp)]; exact htk'
      have q3 : o + (i - 1) * 2 + 1 < (mm w2 b).length := by omega
      have q4 : gt (mm w2 b) (o + (i - 1) * 2 + 1) = strB y.name := by rw [cell_of q2 (by omega)]; rfl
      rw [decide_eq_true p]
      by_cases k9 : k = 9
      · subst k9
        try simp (maxDischargeDepth := 8) [↓sC, sB, sM, i0i, i0, hwm, him, him', hm2, q1, q2, q3, q4, hlt, k8]
        refine (ahead_spec hyok hxok).call ?_
        rintro _ w3 ⟨rfl, f3⟩
        have fin := (((fW.trans0 f1).trans0 f2).drew.drew).trans0 f3
        cases hq : aheadB y x
        · try simp (maxDischargeDepth := 8) [↓sC, sB, sM]
          exact fin
        · try simp (maxDischargeDepth := 8) [↓sC, sB, sM]
          exact ⟨fun x' hx' => by rw [hx] at hx'; cases hx'; exact ⟨c1, by simp, p, fun y' _ hy' => by rw [hy] at hy'; cases hy'; simp [hq]⟩, fin⟩
      · try simp (maxDischargeDepth := 8) [↓sC, sB, sM, i0i, i0, hwm, him, him', hm2, q1, q2, q3, q4, hlt, k8, k9]
        exact ⟨fun x' hx' => by rw [hx] at hx'; cases hx'; exact ⟨c1, by simp [k8], p, fun y' _ hy' => by simp [k8, k9]⟩, ((fW.trans0 f1).trans0 f2).drew.drew⟩
end Go.Proofs.YtieejbkbdfccdaaDoor
