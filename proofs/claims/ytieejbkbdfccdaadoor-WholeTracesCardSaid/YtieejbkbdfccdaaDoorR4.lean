/- Records, as the program checks them: of those that may be. -/
import Derived.Test.YtieejbkbdfccdaaDoorSim
import Derived.Test.YtieejbkbdfccdaaDoorR3
set_option linter.unusedVariables false
set_option linter.unusedSimpArgs false
namespace Go.Proofs.YtieejbkbdfccdaaDoor
open Go

theorem kinds_of {k : Int} (h1 : 1 ≤ k) (h9 : k ≤ 9) : k = 1 ∨ (k = 2 ∨ k = 3) ∨ k = 4 ∨ (k = 5 ∨ k = 6 ∨ k = 7) ∨ (k = 8 ∨ k = 9) := by omega
def shB (a b c d e : Bool) : List Value := [.bool a, .bool b, .bool c, .bool d, .bool e]
@[simp] theorem shlen {a b c d e : Bool} : (shB a b c d e).length = 5 := rfl
@[simp] theorem shg0 {a b c d e : Bool} : gt (shB a b c d e) 0 = .bool a := rfl
@[simp] theorem shg1 {a b c d e : Bool} : gt (shB a b c d e) 1 = .bool b := rfl
@[simp] theorem shg2 {a b c d e : Bool} : gt (shB a b c d e) 2 = .bool c := rfl
@[simp] theorem shg3 {a b c d e : Bool} : gt (shB a b c d e) 3 = .bool d := rfl
@[simp] theorem shg4 {a b c d e : Bool} : gt (shB a b c d e) 4 = .bool e := rfl
theorem shB_one {a b c d e : Bool} : (∀ v, v ∈ shB a b c d e → v.oneCell' = true) = True := by
  simp only [shB, eq_iff_iff, iff_true]
  intro v hv
  simp only [List.mem_cons, List.not_mem_nil, or_false] at hv
  rcases hv with rfl | rfl | rfl | rfl | rfl <;> rfl
theorem shC {a b c d e : Bool} : (Value.agg (shB a b c d e).toArray).cells.toList = shB a b c d e := rfl
/-- The five shapes, and what is zero in each. -/
theorem five_kinds {r : RecP} (h1 : 1 ≤ r.kind) (h9 : r.kind ≤ 9) (ho : onlyP r (fieldsR r.kind)) :
    (r.kind = 1 ∧ shapeV r.kind = shB true false false false false ∧ r.num = 0 ∧ r.low = 0 ∧ r.high = 0 ∧ key r.real = key 0 ∧ r.cap = 0 ∧ r.list = []) ∨
    ((r.kind = 2 ∨ r.kind = 3) ∧ shapeV r.kind = shB false true false false false ∧ r.text = [] ∧ r.low = 0 ∧ r.high = 0 ∧ key r.real = key 0 ∧ r.cap = 0 ∧ r.list = []) ∨
    (r.kind = 4 ∧ shapeV r.kind = shB false true true false false ∧ r.text = [] ∧ key r.real = key 0 ∧ r.cap = 0 ∧ r.list = []) ∨
    ((r.kind = 5 ∨ r.kind = 6 ∨ r.kind = 7) ∧ shapeV r.kind = shB false false false true false ∧ r.text = [] ∧ r.num = 0 ∧ r.low = 0 ∧ r.high = 0 ∧ r.cap = 0 ∧ r.list = []) ∨
    ((r.kind = 8 ∨ r.kind = 9) ∧ shapeV r.kind = shB false false false false true ∧ r.text = [] ∧ r.num = 0 ∧ r.low = 0 ∧ r.high = 0 ∧ key r.real = key 0) := by
  obtain ⟨o1, o2, o3, o4, o5⟩ := ho
  rcases kinds_of h1 h9 with h | (h | h) | h | (h | h | h) | (h | h) <;> rw [h] at o1 o2 o3 o4 o5 <;> simp [fieldsR, fieldL] at o1 o2 o3 o4 o5
  all_goals simp only [h, shapeV, shB]
  all_goals simp
  all_goals first | exact ⟨o2, o3.1, o3.2, o4, o5⟩ | exact ⟨o1, o3.1, o3.2, o4, o5⟩ | exact ⟨o1, o4, o5⟩ | exact ⟨o1, o2, o3.1, o3.2, o5⟩ | exact ⟨o1, o2, o3.1, o3.2, o4⟩
theorem bare_spec {w : World} {r : RecP} {a : Option Addr} {c : Nat} (h1 : 1 ≤ r.kind) (h9 : r.kind ≤ 9) (ho : onlyP r (fieldsR r.kind)) (hr : okR r) :
    Ret P 57 #[.agg (rcV r (.slice a r.list.length c)).toArray, .agg (shapeV r.kind).toArray] w fun v w' => v = .bool true ∧ Fr [] w w' := by
  refine F57ok ?_
  unfold F57
  have hne : ∀ l w, pBin P .eql 9 true (strB l) (Value.string { data := #[] }) w = some (.bool (decide (l = [])), w) := fun l w => eq_strB (m := [])
  have hr0 := hr.2.2.2.2.1
  rcases five_kinds h1 h9 ho with ⟨_, hs, c1, c2, c3, c4, c5, c6⟩ | ⟨_, hs, c1, c2, c3, c4, c5, c6⟩ | ⟨_, hs, c1, c4, c5, c6⟩ | ⟨_, hs, c1, c2, c3, c4, c5, c6⟩ | ⟨_, hs, c1, c2, c3, c4, c5⟩ <;> rw [hs]
  · try simp (maxDischargeDepth := 8) [↓sC, sB, sM, rcC, shC, hne, c1, c2, c3]
    refine (same_spec hr0 (b := 0) (by unfold H63; omega)).call ?_
    rintro _ w1 ⟨rfl, f1⟩
    have m1 : mm w1 (sz w) = rcV r (.slice a r.list.length c) := by rw [f1.mm (by simp only [sz_nw]; omega) (by simp)]; simp [mm_nw, sz_nw]
    have m2 : mm w1 (sz w + 1) = shB true false false false false := by rw [f1.mm (by simp only [sz_nw]; omega) (by simp)]; simp [mm_nw, sz_nw]
    try simp (maxDischargeDepth := 8) [↓sC, sB, sM, c4, c5, c6, c1, c2, c3, m1, m2]
    exact (((Fr.refl [] w).nw _ _).nw _ _).trans0 f1
  · try simp (maxDischargeDepth := 8) [↓sC, sB, sM, rcC, shC, hne, c1, c2, c3]
    refine (same_spec hr0 (b := 0) (by unfold H63; omega)).call ?_
    rintro _ w1 ⟨rfl, f1⟩
    have m1 : mm w1 (sz w) = rcV r (.slice a r.list.length c) := by rw [f1.mm (by simp only [sz_nw]; omega) (by simp)]; simp [mm_nw, sz_nw]
    have m2 : mm w1 (sz w + 1) = shB false true false false false := by rw [f1.mm (by simp only [sz_nw]; omega) (by simp)]; simp [mm_nw, sz_nw]
    try simp (maxDischargeDepth := 8) [↓sC, sB, sM, c4, c5, c6, c1, c2, c3, m1, m2]
    exact (((Fr.refl [] w).nw _ _).nw _ _).trans0 f1
  · try simp (maxDischargeDepth := 8) [↓sC, sB, sM, rcC, shC, hne, c1]
    refine (same_spec hr0 (b := 0) (by unfold H63; omega)).call ?_
    rintro _ w1 ⟨rfl, f1⟩
    have m1 : mm w1 (sz w) = rcV r (.slice a r.list.length c) := by rw [f1.mm (by simp only [sz_nw]; omega) (by simp)]; simp [mm_nw, sz_nw]
    have m2 : mm w1 (sz w + 1) = shB false true true false false := by rw [f1.mm (by simp only [sz_nw]; omega) (by simp)]; simp [mm_nw, sz_nw]
    try simp (maxDischargeDepth := 8) [↓sC, sB, sM, c4, c5, c6, c1, m1, m2]
    exact (((Fr.refl [] w).nw _ _).nw _ _).trans0 f1
  · try simp (maxDischargeDepth := 8) [↓sC, sB, sM, rcC, shC, hne, c1, c2, c3, c4, c5, c6]
  · try simp (maxDischargeDepth := 8) [↓sC, sB, sM, rcC, shC, hne, c1, c2, c3, c4]
    refine (same_spec hr0 (b := 0) (by unfold H63; omega)).call ?_
    rintro _ w1 ⟨rfl, f1⟩
    have m1 : mm w1 (sz w) = rcV r (.slice a r.list.length c) := by rw [f1.mm (by simp only [sz_nw]; omega) (by simp)]; simp [mm_nw, sz_nw]
    have m2 : mm w1 (sz w + 1) = shB false false false false true := by rw [f1.mm (by simp only [sz_nw]; omega) (by simp)]; simp [mm_nw, sz_nw]
    try simp (maxDischargeDepth := 8) [↓sC, sB, sM, c5, c1, c2, c3, c4, m1, m2]
    exact (((Fr.refl [] w).nw _ _).nw _ _).trans0 f1

def itemK (x : ItemP) : Nat × List UInt8 := (key x.score, x.name)
def sameR (r r' : RecP) : Prop := r.kind = r'.kind ∧ r.num = r'.num ∧ r.low = r'.low ∧ r.high = r'.high ∧ key r.real = key r'.real ∧ r.cap = r'.cap ∧ r.text = r'.text ∧ r.list.map itemK = r'.list.map itemK
theorem same1_spec {w : World} {x y : ItemP} (hx : okI x) (hy : okI y) : Ret P 68 #[.agg (itemV x).toArray, .agg (itemV y).toArray] w fun v w' => v = .bool (decide (x.name = y.name) && decide (key x.score = key y.score)) ∧ Fr [] w w' := by
  refine F68ok ?_
  unfold F68
  have he : ∀ l m w, pBin P .eql 9 false (strB l) (strB m) w = some (.bool (decide (l = m)), w) := fun l m w => eq_strB
  by_cases h : x.name = y.name
  · try simp (maxDischargeDepth := 8) [↓sC, sB, sM, itemC, he, h]
    refine (same_spec hx hy).call ?_
    rintro _ w1 ⟨rfl, f1⟩
    try simp (maxDischargeDepth := 8) [↓sC, sB, sM, h]
    exact (((Fr.refl [] w).nw _ _).nw _ _).trans0 f1
  · try simp (maxDischargeDepth := 8) [↓sC, sB, sM, itemC, he, h]
theorem callV {f : FuncId} {args : List Value} {w : World} {K : Value → World → Prop} {KP : List PanicEntry → World → Prop} (hC : C f = true) (h : callE P f args.toArray w K KP) :
    callVE P C (.func (.func f) #[] #[]) args w K KP := ⟨f, #[], #[], rfl, hC, by simpa using h⟩
theorem map_at {L M : List ItemP} (h : L.map itemK = M.map itemK) {j : Nat} {x y : ItemP} (hx : L[j]? = some x) (hy : M[j]? = some y) : x.name = y.name ∧ key x.score = key y.score := by
  have h2 : (L.map itemK)[j]? = (M.map itemK)[j]? := by rw [h]
  rw [List.getElem?_map, List.getElem?_map, hx, hy] at h2
  simp [itemK] at h2
  exact ⟨h2.2, h2.1⟩
def EqI (w0 : World) (v1 v2 : Value) (L M : List ItemP) (m : Nat) (e : Env) (w' : World) : Prop :=
  ∃ j : Nat, m = L.length - j ∧ j ≤ L.length ∧ e 15 = v1 ∧ e 16 = i64 L.length ∧ e 17 = i64 j ∧ e 1 = v2 ∧ e 2 = .func (.func 68) #[] #[] ∧ Fr [] w0 w'
theorem equal_spec {w : World} {a a' : Option Addr} {c c' : Nat} {L M : List ItemP} (h1 : RdV w (.slice a L.length c) L.length (flat itemV L)) (h2 : RdV w (.slice a' M.length c') M.length (flat itemV M)) (ho1 : ∀ x ∈ L, okI x) (ho2 : ∀ x ∈ M, okI x)
    (h : L.map itemK = M.map itemK) (hL : L.length ≤ 1000000) : Ret P 67 #[.slice a L.length c, .slice a' M.length c', .func (.func 68) #[] #[]] w fun v w' => v = .bool true ∧ Fr [] w w' := by
  refine F67ok ?_
  unfold F67
  have hll : L.length = M.length := by have := congrArg List.length h; simpa using this
  try simp (maxDischargeDepth := 8) [↓sC, sB, sM, hll]
  refine loopE_of (EqI w (.slice a L.length c) (.slice a' M.length c') L M) L.length ⟨0, by omega, by omega, by simp [put_get, hll], by simp [put_get, hll], by simp [put_get], by simp [put_get, argE_get], by simp [put_get, argE_get], Fr.refl [] w⟩ ?_
  rintro m e w1 ⟨j, rfl, hj, e15, e16, e17, e1, e2, hf⟩
  unfold F67B0
  by_cases hjl : j < L.length
  · obtain ⟨x, hx⟩ : ∃ x, L[j]? = some x := ⟨_, List.getElem?_eq_getElem hjl⟩
    obtain ⟨y, hy⟩ : ∃ y, M[j]? = some y := ⟨_, List.getElem?_eq_getElem (by omega)⟩
    obtain ⟨b, o, d, hv, hb, hin, htk⟩ := flat_at (h1.fr0 hf) (itemV_len L) (by omega) hx
    obtain ⟨b', o', d', hv', hb', hin', htk'⟩ := flat_at (h2.fr0 hf) (itemV_len M) (by omega) hy
    rw [hv] at e15; rw [hv'] at e1
    have hji : (j : Int) < L.length := by omega
    have hji2 : (j : Int) < M.length := by omega
    have hjl2 : j < M.length := by omega
    have hwj : IntKind.i64.wrap ((j : Int) + 1) = ((j + 1 : Nat) : Int) := wrap64 (by omega) (by omega)
    have hs2 : ∀ x, ∀ l : List Value, l.length = 2 → splice l 0 (itemV x) = itemV x := fun x l hl => splice_full (by rw [hl]; rfl)
    obtain ⟨W, hW⟩ : ∃ W, W = wr (nw w1 [Value.float FloatKind.f64 0, Value.string ByteArray.empty] 80) (sz w1) (itemV x) := ⟨_, rfl⟩
    have fW : Fr [] w1 W := by rw [hW]; exact ((Fr.refl [] w1).nw _ _).wr (.inr (Nat.le_refl _)) _
    have hm : mm W (sz w1) = itemV x := by rw [hW]; exact mm_wr_same (by simp [fz_nw]) _
    have hsW : sz W = sz w1 + 1 := by rw [hW, sz_wr, sz_nw]
    have hmb : mm W b' = mm w1 b' := fW.mm hb' (by simp)
    obtain ⟨W2, hW2⟩ : ∃ W2, W2 = wr (nw W [Value.float FloatKind.f64 0, Value.string ByteArray.empty] 80) (sz W) (itemV y) := ⟨_, rfl⟩
    have fW2 : Fr [] W W2 := by rw [hW2]; exact ((Fr.refl [] W).nw _ _).wr (.inr (Nat.le_refl _)) _
    have hm2 : mm W2 (sz W) = itemV y := by rw [hW2]; exact mm_wr_same (by simp [fz_nw]) _
    have hm1 : mm W2 (sz w1) = itemV x := by rw [fW2.mm (by omega) (by simp), hm]
    have t2 : ∀ x, (itemV x).take 2 = itemV x := fun _ => rfl
    try simp (maxDischargeDepth := 8) [↓sC, sB, sM, e15, e16, e17, e1, e2, hji, hjl, hji2, hjl2, hin, htk, hin', htk', hs2, itemV_oneT, ← hW, hmb, hm]
    rw [← hW2]
    try simp (maxDischargeDepth := 8) [↓sC, sB, sM, hm1, hm2, t2]
    refine callV (by kernel_rfl) ?_
    refine (same1_spec (ho1 x (List.mem_of_getElem? hx)) (ho2 y (List.mem_of_getElem? hy))).call ?_
    rintro _ w4 ⟨rfl, f4⟩
    obtain ⟨n1, n2⟩ := map_at h hx hy
    try simp (maxDischargeDepth := 8) [↓sC, sB, sM, n1, n2, hwj, e17, -Int.natCast_add]
    exact ⟨L.length - (j + 1), by omega, j + 1, rfl, by omega, by simp [put_get, e15, hv], by simp [put_get, e16], by simp [put_get], by simp [put_get, e1, hv'], by simp [put_get, e2], ((hf.trans0 fW).trans0 fW2).trans0 f4⟩
  · have : j = L.length := by omega
    subst this
    try simp (maxDischargeDepth := 8) [↓sC, sB, sM, e15, e16, e17]
    exact hf
theorem recSame_spec {w : World} {r r' : RecP} {a a' : Option Addr} {c c' : Nat} (h1 : IsRec w (.slice a r.list.length c) r) (h2 : IsRec w (.slice a' r'.list.length c') r') (h : sameR r r') (hL : r.list.length ≤ 1000000) :
    Ret P 34 #[.agg (rcV r (.slice a r.list.length c)).toArray, .agg (rcV r' (.slice a' r'.list.length c')).toArray] w fun v w' => v = .bool true ∧ Fr [] w w' := by
  refine F34ok ?_
  unfold F34
  obtain ⟨s1, s2, s3, s4, s5, s6, s7, s8⟩ := h
  have he : ∀ l m w, pBin P .eql 9 false (strB l) (strB m) w = some (.bool (decide (l = m)), w) := fun l m w => eq_strB
  obtain ⟨W, hW⟩ : ∃ W, W = nw (nw w (rcV r (.slice a r.list.length c)) 25) (rcV r' (.slice a' r'.list.length c')) 25 := ⟨_, rfl⟩
  have fW : Fr [] w W := by rw [hW]; exact ((Fr.refl [] w).nw _ _).nw _ _
  have hs : sz W = sz w + 2 := by rw [hW]; simp [sz_nw]
  have m1 : mm W (sz w) = rcV r (.slice a r.list.length c) := by rw [hW]; simp [mm_nw, sz_nw]
  have m2 : mm W (sz w + 1) = rcV r' (.slice a' r'.list.length c') := by rw [hW]; simp [mm_nw, sz_nw]
  try simp (maxDischargeDepth := 8) [↓sC, sB, sM, rcC, ← hW, m1, m2, s1, s2, s3, s4]
  refine (same_spec h1.2.2.2.2.2.1 h2.2.2.2.2.2.1).call ?_
  rintro _ w1 ⟨rfl, f1⟩
  have n1 : mm w1 (sz w) = rcV r (.slice a r.list.length c) := by rw [f1.mm (by omega) (by simp), m1]
  have n2 : mm w1 (sz w + 1) = rcV r' (.slice a' r'.list.length c') := by rw [f1.mm (by omega) (by simp), m2]
  rw [decide_eq_true s5]
  try simp (maxDischargeDepth := 8) [↓sC, sB, sM, n1, n2, s6, s7, he]
  refine (equal_spec ((h1.fr0 fW).fr0 f1).1 ((h2.fr0 fW).fr0 f1).1 h1.2.2.2.2.2.2.2 h2.2.2.2.2.2.2.2 s8 hL).call ?_
  rintro _ w2 ⟨rfl, f2⟩
  try simp (maxDischargeDepth := 8) [↓sC, sB, sM]
  exact (fW.trans0 f1).trans0 f2
end Go.Proofs.YtieejbkbdfccdaaDoor
