/- Records and acts: kinds, fields, shapes: the small functions. -/
import Derived.Test.YtieejbkbdfccdaaGreatSim
import Derived.Test.YtieejbkbdfccdaaGreatKG
import Derived.Test.YtieejbkbdfccdaaGreatKL
set_option linter.unusedVariables false
set_option linter.unusedSimpArgs false
namespace Go.Proofs.YtieejbkbdfccdaaGreat
open Go
def fieldL : List (List UInt8) := [[], [116], [110], [110], [110, 98], [114], [114], [114], [108], [108]]
def hasL : List (List UInt8) := [[], [109], [], [], [], [115], [115], [110], [110], [110], [110], [110], [110], [120], [120], [120], [120], [120], [115], [115], [115], [120, 115]]
def onL : List Int := [0, 0, 0, 0, 0, 1, 1, 2, 3, 3, 4, 4, 4, 5, 6, 7, 7, 7, 8, 8, 8, 9]
def wordL : List (List UInt8) := [[], [110, 101, 119], [100, 114, 111, 112], [105, 115], [108, 111, 111, 107], [112, 117, 116], [115, 119, 97, 112], [97, 100, 100], [112, 108, 117, 115], [114, 101, 97, 99, 104], [105, 110], [111, 117, 116], [101, 110, 111, 117, 103, 104], [114, 97, 105, 115, 101], [108, 111, 119, 101, 114], [115, 104, 105, 102, 116], [115, 99, 97, 108, 101], [102, 105, 120], [106, 111, 105, 110], [108, 101, 97, 118, 101], [104, 97, 115], [111, 102, 102, 101, 114]]
def fieldsR (k : Int) : List UInt8 := if k < 1 ∨ 9 < k then [] else fieldL.getD k.toNat []
theorem gt_map {α : Type} {f : α → Value} {L : List α} {i : Nat} (d : α) (h : i < L.length) : gt (L.map f) i = f (L.getD i d) := by
  show (L.map f).getD i undef = _
  rw [List.getD_eq_getElem?_getD, List.getElem?_map, List.getElem?_eq_getElem h, List.getD_eq_getElem?_getD, List.getElem?_eq_getElem h]
  rfl
theorem fields_spec {w : World} {k : Int} : Ret P 75 #[i64 k] w fun v w' => v = strB (fieldsR k) ∧ Fr [] w w' := by
  refine F75ok ?_
  unfold F75
  rw [show pBuildSlice P 168 10 _ w = some (sl (sz w) 0 10 10, nw w (fieldL.map strB) 9) from by rw [bsl168 (by omega) (by simp [Value.cells])]; rfl]
  by_cases h1 : k < 1
  · try simp (maxDischargeDepth := 8) [↓sC, sB, sM, h1]
    exact by simp [fieldsR, h1]; rfl
  by_cases h2 : 9 < k
  · try simp (maxDischargeDepth := 8) [↓sC, sB, sM, h1, h2]
    exact by simp [fieldsR, h1, h2]; rfl
  have h3 : 0 ≤ k := by omega
  have h4 : k < 10 := by omega
  have h5 : k.toNat < fieldL.length := by simp [fieldL]; omega
  have h6 : k.toNat < 10 := by omega
  have h7 := gt_map (f := strB) ([] : List UInt8) h5
  have h8 : fieldL.length = 10 := rfl
  try simp (maxDischargeDepth := 8) [↓sC, sB, sM, h1, h2, h3, h4, h6, h7, h8]
  simp [fieldsR, h1, h2, List.getElem?_eq_getElem h5]
/-! ### A byte in a text -/
theorem byte_eq (a b : UInt8) : ((a.toNat : Int) = (b.toNat : Int)) = (a = b) := by
  simp only [Int.natCast_inj, eq_iff_iff]
  exact ⟨fun h => UInt8.toNat_inj.1 h, fun h => by rw [h]⟩
/-! ### Kinds of acts, as the program holds them -/
abbrev KindT := List UInt8 × Int × List UInt8
def kindV (t : KindT) : List Value := [strB t.1, i64 t.2.1, strB t.2.2]
def kindT : List KindT := (List.range 22).map fun k => (wordL.getD k [], onL.getD k 0, hasL.getD k [])
def KW (w : World) : Prop := mm w 1 = flat kindV kindT ∧ 1 < sz w
theorem KW.fr {S : List Nat} {w w' : World} (h : KW w) (hf : Fr S w w') (hS : 1 ∉ S) : KW w' := ⟨by rw [hf.mm h.2 hS]; exact h.1, hf.lt h.2⟩
theorem KW.fr0 {w w' : World} (h : KW w) (hf : Fr [] w w') : KW w' := h.fr hf (by simp)
theorem kindV_one (t : KindT) : ∀ v ∈ kindV t, v.oneCell' = true := by
  intro v hv
  simp only [kindV, List.mem_cons, List.not_mem_nil, or_false] at hv
  rcases hv with rfl | rfl | rfl <;> first | exact oc_strB _ | rfl
/-! ### Shapes of records -/
def shapeV (k : Int) : List Value := [.bool (decide (k = 1)), .bool (decide (k = 2 ∨ k = 3 ∨ k = 4)), .bool (decide (k = 4)), .bool (decide (k = 5 ∨ k = 6 ∨ k = 7)), .bool (decide (k = 8 ∨ k = 9))]
theorem shaped_spec {w : World} {k : Int} : Ret P 67 #[i64 k] w fun v w' => v = .agg (shapeV k).toArray ∧ Fr [] w w' := by
  refine F67ok ?_
  unfold F67
  unfold shapeV
  by_cases h1 : k = 1
  · subst h1; try simp (maxDischargeDepth := 8) [↓sC, sB, sM, splice]
  by_cases h2 : k = 2
  · subst h2; try simp (maxDischargeDepth := 8) [↓sC, sB, sM, splice]
  by_cases h3 : k = 3
  · subst h3; try simp (maxDischargeDepth := 8) [↓sC, sB, sM, splice]
  by_cases h4 : k = 4
  · subst h4; try simp (maxDischargeDepth := 8) [↓sC, sB, sM, splice]
  by_cases h5 : k = 5
  · subst h5; try simp (maxDischargeDepth := 8) [↓sC, sB, sM, splice]
  by_cases h6 : k = 6
  · subst h6; try simp (maxDischargeDepth := 8) [↓sC, sB, sM, splice]
  by_cases h7 : k = 7
  · subst h7; try simp (maxDischargeDepth := 8) [↓sC, sB, sM, splice]
  by_cases h8 : k = 8
  · subst h8; try simp (maxDischargeDepth := 8) [↓sC, sB, sM, splice]
  by_cases h9 : k = 9
  · subst h9; try simp (maxDischargeDepth := 8) [↓sC, sB, sM, splice]
  · try simp (maxDischargeDepth := 8) [↓sC, sB, sM, h1, h2, h3, h4, h5, h6, h7, h8, h9, splice]
/-! ### Items, one ahead of another -/
structure ItemP where
  score : Nat
  name : List UInt8
def itemV (x : ItemP) : List Value := [fl x.score, strB x.name]
theorem itemV_len : ∀ (L : List ItemP), ∀ p ∈ L, (itemV p).length = 2 := fun _ _ _ => rfl
theorem itemV_one (x : ItemP) : ∀ v ∈ itemV x, v.oneCell' = true := by
  intro v hv
  simp only [itemV, List.mem_cons, List.not_mem_nil, or_false] at hv
  rcases hv with rfl | rfl <;> first | exact oc_strB _ | rfl
theorem itemV_oneT (x : ItemP) : (∀ v, v ∈ itemV x → v.oneCell' = true) = True := by simpa using fun v hv => itemV_one x v hv
def okI (x : ItemP) : Prop := x.score < 2 * H63
def aheadB (a b : ItemP) : Bool := decide (key b.score < key a.score) || (decide (key a.score = key b.score) && Op.bytesLess a.name b.name)
theorem zero_spec {w : World} {a : Nat} (ha : a < 2 * H63) : Ret P 95 #[fl a] w fun v w' => v = .bool (decide (key a = key 0)) ∧ Fr [] w w' := by
  refine F95ok ?_
  unfold F95
  refine (refSame_spec ha (b := 0) (by unfold H63; omega)).call ?_
  rintro _ w1 ⟨rfl, f1⟩
  exact ⟨_, rfl, rfl, f1⟩
theorem refProper_spec {w : World} {a : Nat} (ha : a < 2 * H63) : Ret P 76 #[fl a] w fun v w' => v = .bool (decide (a = canon a)) ∧ Fr [] w w' := by
  refine F76ok ?_
  unfold F76
  refine none_spec.call ?_
  rintro _ w1 ⟨rfl, f1⟩
  cases h : isN a
  · have hc : a = canon a := by simp [canon, h]
    try simp (maxDischargeDepth := 8) [↓sC, sB, sM]
    exact ⟨by simpa using hc, f1⟩
  · have hN : ((a : Int) = 9221120237041090561) = (a = canon a) := by
      simp only [canon, h, if_true, NAN, eq_iff_iff]; omega
    try simp (maxDischargeDepth := 8) [↓sC, sB, sM, fbits, hN]
    exact f1
theorem ahead_spec {w : World} {a b : ItemP} (ha : okI a) (hb : okI b) : Ret P 97 #[.agg (itemV a).toArray, .agg (itemV b).toArray] w fun v w' => v = .bool (aheadB a b) ∧ Fr [] w w' := by
  refine F97ok ?_
  unfold F97
  have hl : ∀ a, (itemV a).length = 2 := fun _ => rfl
  have g0 : ∀ a, gt (itemV a) 0 = fl a.score := fun _ => rfl
  have g1 : ∀ a, gt (itemV a) 1 = strB a.name := fun _ => rfl
  have hlt : ∀ w, pBin P .lss 9 false (strB a.name) (strB b.name) w = some (.bool (Op.bytesLess a.name b.name), w) := fun w => lt_strB
  obtain ⟨W, hW⟩ : ∃ W, W = nw (nw w (itemV a) 105) (itemV b) 105 := ⟨_, rfl⟩
  have fW : Fr [] w W := by rw [hW]; exact ((Fr.refl [] w).nw _ _).nw _ _
  have hs : sz W = sz w + 2 := by rw [hW]; simp [sz_nw]
  have m1 : mm W (sz w) = itemV a := by rw [hW]; simp [mm_nw, sz_nw]
  have m2 : mm W (sz w + 1) = itemV b := by rw [hW]; simp [mm_nw, sz_nw]
  try simp (maxDischargeDepth := 8) [↓sC, sB, sM, Value.cells, hl, g0, g1, ← hW, m1, m2]
  refine (refLess_spec hb ha).call ?_
  rintro _ w1 ⟨rfl, f1⟩
  have n1 : mm w1 (sz w) = itemV a := by rw [f1.mm (by omega) (by simp), m1]
  have n2 : mm w1 (sz w + 1) = itemV b := by rw [f1.mm (by omega) (by simp), m2]
  have hs1 := f1.size
  by_cases hk : key b.score < key a.score
  · try simp (maxDischargeDepth := 8) [↓sC, sB, sM, hk]
    exact ⟨by simp [aheadB, hk], fW.trans0 f1⟩
  try simp (maxDischargeDepth := 8) [↓sC, sB, sM, hk, hl, g0, g1, n1, n2]
  refine (refSame_spec ha hb).call ?_
  rintro _ w2 ⟨rfl, f2⟩
  have p1 : mm w2 (sz w) = itemV a := by rw [f2.mm (by omega) (by simp), n1]
  have p2 : mm w2 (sz w + 1) = itemV b := by rw [f2.mm (by omega) (by simp), n2]
  by_cases hk2 : key a.score = key b.score
  · try simp (maxDischargeDepth := 8) [↓sC, sB, sM, hk2, hl, g0, g1, p1, p2, hlt]
    exact ⟨by simp [aheadB, hk, hk2], (fW.trans0 f1).trans0 f2⟩
  · try simp (maxDischargeDepth := 8) [↓sC, sB, sM, hk2, hl, g0, g1, p1, p2, hlt]
    exact ⟨by simp [aheadB, hk, hk2], (fW.trans0 f1).trans0 f2⟩
theorem better_spec {w : World} {a b : ItemP} (ha : okI a) (hb : okI b) : Ret P 93 #[.agg (itemV a).toArray, .agg (itemV b).toArray] w fun v w' => v = .bool (aheadB a b) ∧ Fr [] w w' := by
  refine F93ok ?_
  unfold F93
  have hl : ∀ a, (itemV a).length = 2 := fun _ => rfl
  have g0 : ∀ a, gt (itemV a) 0 = fl a.score := fun _ => rfl
  have g1 : ∀ a, gt (itemV a) 1 = strB a.name := fun _ => rfl
  have hlt : ∀ w, pBin P .lss 9 false (strB a.name) (strB b.name) w = some (.bool (Op.bytesLess a.name b.name), w) := fun w => lt_strB
  obtain ⟨W, hW⟩ : ∃ W, W = nw (nw w (itemV a) 105) (itemV b) 105 := ⟨_, rfl⟩
  have fW : Fr [] w W := by rw [hW]; exact ((Fr.refl [] w).nw _ _).nw _ _
  have hs : sz W = sz w + 2 := by rw [hW]; simp [sz_nw]
  have m1 : mm W (sz w) = itemV a := by rw [hW]; simp [mm_nw, sz_nw]
  have m2 : mm W (sz w + 1) = itemV b := by rw [hW]; simp [mm_nw, sz_nw]
  try simp (maxDischargeDepth := 8) [↓sC, sB, sM, Value.cells, hl, g0, g1, ← hW, m1, m2]
  refine (same_spec ha hb).call ?_
  rintro _ w1 ⟨rfl, f1⟩
  have n1 : mm w1 (sz w) = itemV a := by rw [f1.mm (by omega) (by simp), m1]
  have n2 : mm w1 (sz w + 1) = itemV b := by rw [f1.mm (by omega) (by simp), m2]
  have hs1 := f1.size
  by_cases hk2 : key a.score = key b.score
  · try simp (maxDischargeDepth := 8) [↓sC, sB, sM, hk2, hl, g0, g1, n1, n2, hlt]
    exact ⟨by simp [aheadB, hk2], fW.trans0 f1⟩
  · try simp (maxDischargeDepth := 8) [↓sC, sB, sM, hk2, hl, g0, g1, n1, n2, hlt]
    refine (less_spec hb ha).call ?_
    rintro _ w2 ⟨rfl, f2⟩
    try simp (maxDischargeDepth := 8) [↓sC, sB, sM]
    exact ⟨by simp [aheadB, hk2], (fW.trans0 f1).trans0 f2⟩
end Go.Proofs.YtieejbkbdfccdaaGreat

set_option linter.unusedVariables false
set_option linter.unusedSimpArgs false
namespace Go.Proofs.YtieejbkbdfccdaaGreat
open Go
structure RecP where
  kind : Int
  num : Int
  low : Int
  high : Int
  real : Nat
  cap : Int
  text : List UInt8
  list : List ItemP
def rcV (r : RecP) (lv : Value) : List Value := [i64 r.kind, i64 r.num, i64 r.low, i64 r.high, fl r.real, i64 r.cap, strB r.text, lv]
def in64 (n : Int) : Prop := -9223372036854775808 ≤ n ∧ n < 9223372036854775808
def okR (r : RecP) : Prop := in64 r.kind ∧ in64 r.num ∧ in64 r.low ∧ in64 r.high ∧ r.real < 2 * H63 ∧ in64 r.cap ∧ ∀ x ∈ r.list, okI x
def IsRec (w : World) (lv : Value) (r : RecP) : Prop := RdV w lv r.list.length (flat itemV r.list) ∧ okR r
theorem IsRec.fr0 {w w' : World} {lv : Value} {r : RecP} (h : IsRec w lv r) (hf : Fr [] w w') : IsRec w' lv r := ⟨h.1.fr0 hf, h.2⟩
@[simp] theorem rlen {r : RecP} {lv : Value} : (rcV r lv).length = 8 := rfl
@[simp] theorem rg0 {r : RecP} {lv : Value} : gt (rcV r lv) 0 = i64 r.kind := rfl
@[simp] theorem rg1 {r : RecP} {lv : Value} : gt (rcV r lv) 1 = i64 r.num := rfl
@[simp] theorem rg2 {r : RecP} {lv : Value} : gt (rcV r lv) 2 = i64 r.low := rfl
@[simp] theorem rg3 {r : RecP} {lv : Value} : gt (rcV r lv) 3 = i64 r.high := rfl
@[simp] theorem rg4 {r : RecP} {lv : Value} : gt (rcV r lv) 4 = fl r.real := rfl
@[simp] theorem rg5 {r : RecP} {lv : Value} : gt (rcV r lv) 5 = i64 r.cap := rfl
@[simp] theorem rg6 {r : RecP} {lv : Value} : gt (rcV r lv) 6 = strB r.text := rfl
@[simp] theorem rg7 {r : RecP} {lv : Value} : gt (rcV r lv) 7 = lv := rfl
@[simp] theorem ilen {x : ItemP} : (itemV x).length = 2 := rfl
@[simp] theorem ig0 {x : ItemP} : gt (itemV x) 0 = fl x.score := rfl
@[simp] theorem ig1 {x : ItemP} : gt (itemV x) 1 = strB x.name := rfl
theorem rcV_one {r : RecP} {a : Option Addr} {n c : Nat} : ∀ v ∈ rcV r (.slice a n c), v.oneCell' = true := by
  intro v hv
  simp only [rcV, List.mem_cons, List.not_mem_nil, or_false] at hv
  rcases hv with rfl | rfl | rfl | rfl | rfl | rfl | rfl | rfl <;> first | exact oc_strB _ | rfl
theorem rcV_oneT {r : RecP} {a : Option Addr} {n c : Nat} : (∀ v, v ∈ rcV r (.slice a n c) → v.oneCell' = true) = True := by simpa using fun v hv => rcV_one v hv
theorem rcC (r : RecP) (lv : Value) : (Value.agg (rcV r lv).toArray).cells.toList = rcV r lv := rfl
theorem wrap_1 : IntKind.i64.wrap 1 = 1 := by decide
theorem wrap_2 : IntKind.i64.wrap 2 = 2 := by decide
def onlyP (r : RecP) (s : List UInt8) : Prop :=
  (s.contains 116 = false → r.text = []) ∧ (s.contains 110 = false → r.num = 0) ∧ (s.contains 98 = false → r.low = 0 ∧ r.high = 0) ∧ (s.contains 114 = false → key r.real = key 0) ∧ (s.contains 108 = false → r.cap = 0 ∧ r.list = [])
def fiveS (s : List UInt8) : Prop := s = [116] ∨ s = [110] ∨ s = [110, 98] ∨ s = [114] ∨ s = [108]
def OnlyI (w1 : World) (s : List UInt8) (b : Nat) (m : Nat) (e : Env) (w' : World) : Prop :=
  ∃ j : Nat, m = s.length - j ∧ j ≤ s.length ∧ e 10 = i64 j ∧ e 1 = strB s ∧ e 2 = pt b 0 ∧ e 5 = .bool ((s.take j).contains 116) ∧ e 6 = .bool ((s.take j).contains 110) ∧ e 7 = .bool ((s.take j).contains 98) ∧ e 8 = .bool ((s.take j).contains 114) ∧ e 9 = .bool ((s.take j).contains 108) ∧ w' = w1
theorem only_step {w1 : World} {s : List UInt8} {b : Nat} (hs : fiveS s) {j : Nat} {e : Env} {w2 : World} (hj : j < s.length) (hI : OnlyI w1 s b (s.length - j) e w2) {K : KT}
    (hK : ∀ e' w'', OnlyI w1 s b (s.length - (j + 1)) e' w'' → K .normal e' w'') : F74B0 e w2 K := by
  obtain ⟨j', hm, hj', e10, e1, e2, e5, e6, e7, e8, e9, rfl⟩ := hI
  have : j' = j := by omega
  subst this
  unfold F74B0
  have hlen : ∀ w, pBuiltin P .len #[9] 3 [strB s] w = some (i64 s.length, w) := fun w => len_strB und9
  have hji : (j' : Int) < s.length := by omega
  have hix : ∀ w, pIndex P 9 (strB s) (i64 j') w = some (bv (gb s j'), w) := fun w => ix_strB und9 hj
  have hwj : IntKind.i64.wrap ((j' : Int) + 1) = ((j' + 1 : Nat) : Int) := by
    have : s.length ≤ 2 := by rcases hs with rfl | rfl | rfl | rfl | rfl <;> decide
    exact wrap64 (by omega) (by omega)
  try simp (maxDischargeDepth := 8) [↓sC, sB, sM, e10, e1, hlen, hji, hj]
  have hcase : (s = [116] ∧ j' = 0) ∨ (s = [110] ∧ j' = 0) ∨ (s = [110, 98] ∧ j' = 0) ∨ (s = [110, 98] ∧ j' = 1) ∨ (s = [114] ∧ j' = 0) ∨ (s = [108] ∧ j' = 0) := by
    rcases hs with rfl | rfl | rfl | rfl | rfl <;> simp at hj ⊢ <;> omega
  rcases hcase with ⟨rfl, rfl⟩ | ⟨rfl, rfl⟩ | ⟨rfl, rfl⟩ | ⟨rfl, rfl⟩ | ⟨rfl, rfl⟩ | ⟨rfl, rfl⟩
  · have hix : ∀ w, pIndex P 9 (strB [116]) (i64 0) w = some (bv 116, w) := fun w => ix_strB und9 (j := 0) (by decide)
    try simp (maxDischargeDepth := 8) [↓sC, sB, sM, e10, e1, e5, e6, e7, e8, e9, hix, hwj]
    exact hK _ _ ⟨1, rfl, by simp, by simp [put_get, e10, wrap_1, wrap_2], by simp [put_get, e1], by simp [put_get, e2], by simp [put_get, e5], by simp [put_get, e6], by simp [put_get, e7], by simp [put_get, e8], by simp [put_get, e9], rfl⟩
  · have hix : ∀ w, pIndex P 9 (strB [110]) (i64 0) w = some (bv 110, w) := fun w => ix_strB und9 (j := 0) (by decide)
    try simp (maxDischargeDepth := 8) [↓sC, sB, sM, e10, e1, e5, e6, e7, e8, e9, hix, hwj]
    exact hK _ _ ⟨1, rfl, by simp, by simp [put_get, e10, wrap_1, wrap_2], by simp [put_get, e1], by simp [put_get, e2], by simp [put_get, e5], by simp [put_get, e6], by simp [put_get, e7], by simp [put_get, e8], by simp [put_get, e9], rfl⟩
  · have hix : ∀ w, pIndex P 9 (strB [110, 98]) (i64 0) w = some (bv 110, w) := fun w => ix_strB und9 (j := 0) (by decide)
    try simp (maxDischargeDepth := 8) [↓sC, sB, sM, e10, e1, e5, e6, e7, e8, e9, hix, hwj]
    exact hK _ _ ⟨1, rfl, by simp, by simp [put_get, e10, wrap_1, wrap_2], by simp [put_get, e1], by simp [put_get, e2], by simp [put_get, e5], by simp [put_get, e6], by simp [put_get, e7], by simp [put_get, e8], by simp [put_get, e9], rfl⟩
  · have hix : ∀ w, pIndex P 9 (strB [110, 98]) (i64 1) w = some (bv 98, w) := fun w => ix_strB und9 (j := 1) (by decide)
    try simp (maxDischargeDepth := 8) [↓sC, sB, sM, e10, e1, e5, e6, e7, e8, e9, hix, hwj]
    exact hK _ _ ⟨2, rfl, by simp, by simp [put_get, e10, wrap_1, wrap_2], by simp [put_get, e1], by simp [put_get, e2], by simp [put_get, e5], by simp [put_get, e6], by simp [put_get, e7], by simp [put_get, e8], by simp [put_get, e9], rfl⟩
  · have hix : ∀ w, pIndex P 9 (strB [114]) (i64 0) w = some (bv 114, w) := fun w => ix_strB und9 (j := 0) (by decide)
    try simp (maxDischargeDepth := 8) [↓sC, sB, sM, e10, e1, e5, e6, e7, e8, e9, hix, hwj]
    exact hK _ _ ⟨1, rfl, by simp, by simp [put_get, e10, wrap_1, wrap_2], by simp [put_get, e1], by simp [put_get, e2], by simp [put_get, e5], by simp [put_get, e6], by simp [put_get, e7], by simp [put_get, e8], by simp [put_get, e9], rfl⟩
  · have hix : ∀ w, pIndex P 9 (strB [108]) (i64 0) w = some (bv 108, w) := fun w => ix_strB und9 (j := 0) (by decide)
    try simp (maxDischargeDepth := 8) [↓sC, sB, sM, e10, e1, e5, e6, e7, e8, e9, hix, hwj]
    exact hK _ _ ⟨1, rfl, by simp, by simp [put_get, e10, wrap_1, wrap_2], by simp [put_get, e1], by simp [put_get, e2], by simp [put_get, e5], by simp [put_get, e6], by simp [put_get, e7], by simp [put_get, e8], by simp [put_get, e9], rfl⟩
theorem only_spec {w : World} {r : RecP} {a : Option Addr} {c : Nat} {s : List UInt8} (hs : fiveS s) (hr : okR r) :
    Ret P 74 #[.agg (rcV r (.slice a r.list.length c)).toArray, strB s] w fun v w' => ∃ b, v = .bool b ∧ (b = true → onlyP r s) ∧ Fr [] w w' := by
  refine F74ok ?_
  unfold F74
  obtain ⟨W, hW⟩ : ∃ W, W = nw w (rcV r (.slice a r.list.length c)) 61 := ⟨_, rfl⟩
  have fW : Fr [] w W := by rw [hW]; exact (Fr.refl [] w).nw _ _
  have hm : mm W (sz w) = rcV r (.slice a r.list.length c) := by rw [hW]; simp [mm_nw]
  try simp (maxDischargeDepth := 8) [↓sC, sB, sM, rcC, ← hW]
  refine loopE_of (OnlyI W s (sz w)) s.length ⟨0, by omega, by omega, by simp [put_get], by simp [put_get, argE_get], by simp [put_get], by simp [put_get], by simp [put_get], by simp [put_get], by simp [put_get], by simp [put_get], rfl⟩ ?_
  rintro m e w2 hI
  obtain ⟨j, rfl, hj, e10, e1, e2, e5, e6, e7, e8, e9, rfl⟩ := id hI
  by_cases hjl : j < s.length
  · exact only_step hs hjl hI fun e' w'' hK => ⟨s.length - (j + 1), by omega, hK⟩
  have : j = s.length := by omega
  subst this
  unfold F74B0
  have hlen : ∀ w, pBuiltin P .len #[9] 3 [strB s] w = some (i64 s.length, w) := fun w => len_strB und9
  try simp (maxDischargeDepth := 8) [↓sC, sB, sM, e10, e1, hlen]
  rw [List.take_length] at e5 e6 e7 e8 e9
  have hne : ∀ l w, pBin P .neq 9 true (strB l) (Value.string { data := #[] }) w = some (.bool (decide (l ≠ [])), w) := fun l w => ne_strB (m := [])
  have hll : ((r.list.length : Int) = 0) = (r.list = []) := by simp
  have hsW : sz w < sz w2 := by rw [hW, sz_nw]; omega
  clear hI hW hlen hj
  rcases hs with rfl | rfl | rfl | rfl | rfl
  · rcases (Decidable.em (r.num = 0)).symm with c1 | c1
    · try simp (maxDischargeDepth := 8) [↓sC, sB, sM, e2, e5, e6, e7, e8, e9, hm, hne, hll, c1]
      exact fW
    rcases (Decidable.em (r.low = 0)).symm with c2 | c2
    · try simp (maxDischargeDepth := 8) [↓sC, sB, sM, e2, e5, e6, e7, e8, e9, hm, hne, hll, c1, c2]
      exact fW
    rcases (Decidable.em (r.high = 0)).symm with c3 | c3
    · try simp (maxDischargeDepth := 8) [↓sC, sB, sM, e2, e5, e6, e7, e8, e9, hm, hne, hll, c1, c2, c3]
      exact fW
    try simp (maxDischargeDepth := 8) [↓sC, sB, sM, e2, e5, e6, e7, e8, e9, hm, hne, hll, c1, c2, c3]
    refine (zero_spec hr.2.2.2.2.1).call ?_
    rintro _ w3 ⟨rfl, f3⟩
    have hm3 : mm w3 (sz w) = rcV r (.slice a r.list.length c) := by rw [f3.mm (by omega) (by simp), hm]
    rcases (Decidable.em (key r.real = key 0)).symm with c4 | c4
    · try simp (maxDischargeDepth := 8) [↓sC, sB, sM, c4]
      exact fW.trans0 f3
    rcases (Decidable.em (r.cap = 0)).symm with c5 | c5
    · try simp (maxDischargeDepth := 8) [↓sC, sB, sM, e2, e5, e6, e7, e8, e9, hm3, hne, hll, c1, c2, c3, c4, c5]
      exact fW.trans0 f3
    rcases (Decidable.em (r.list = [])).symm with c6 | c6
    · try simp (maxDischargeDepth := 8) [↓sC, sB, sM, e2, e5, e6, e7, e8, e9, hm3, hne, hll, c1, c2, c3, c4, c5, c6]
      exact fW.trans0 f3
    try simp (maxDischargeDepth := 8) [↓sC, sB, sM, e2, e5, e6, e7, e8, e9, hm3, hne, hll, c1, c2, c3, c4, c5, c6]
    exact ⟨by simp [onlyP, c1, c2, c3, c4, c5, c6], fW.trans0 f3⟩
  · rcases (Decidable.em (r.text = [])).symm with c1 | c1
    · try simp (maxDischargeDepth := 8) [↓sC, sB, sM, e2, e5, e6, e7, e8, e9, hm, hne, hll, c1]
      exact fW
    rcases (Decidable.em (r.low = 0)).symm with c2 | c2
    · try simp (maxDischargeDepth := 8) [↓sC, sB, sM, e2, e5, e6, e7, e8, e9, hm, hne, hll, c1, c2]
      exact fW
    rcases (Decidable.em (r.high = 0)).symm with c3 | c3
    · try simp (maxDischargeDepth := 8) [↓sC, sB, sM, e2, e5, e6, e7, e8, e9, hm, hne, hll, c1, c2, c3]
      exact fW
    try simp (maxDischargeDepth := 8) [↓sC, sB, sM, e2, e5, e6, e7, e8, e9, hm, hne, hll, c1, c2, c3]
    refine (zero_spec hr.2.2.2.2.1).call ?_
    rintro _ w3 ⟨rfl, f3⟩
    have hm3 : mm w3 (sz w) = rcV r (.slice a r.list.length c) := by rw [f3.mm (by omega) (by simp), hm]
    rcases (Decidable.em (key r.real = key 0)).symm with c4 | c4
    · try simp (maxDischargeDepth := 8) [↓sC, sB, sM, c4]
      exact fW.trans0 f3
    rcases (Decidable.em (r.cap = 0)).symm with c5 | c5
    · try simp (maxDischargeDepth := 8) [↓sC, sB, sM, e2, e5, e6, e7, e8, e9, hm3, hne, hll, c1, c2, c3, c4, c5]
      exact fW.trans0 f3
    rcases (Decidable.em (r.list = [])).symm with c6 | c6
    · try simp (maxDischargeDepth := 8) [↓sC, sB, sM, e2, e5, e6, e7, e8, e9, hm3, hne, hll, c1, c2, c3, c4, c5, c6]
      exact fW.trans0 f3
    try simp (maxDischargeDepth := 8) [↓sC, sB, sM, e2, e5, e6, e7, e8, e9, hm3, hne, hll, c1, c2, c3, c4, c5, c6]
    exact ⟨by simp [onlyP, c1, c2, c3, c4, c5, c6], fW.trans0 f3⟩
  · rcases (Decidable.em (r.text = [])).symm with c1 | c1
    · try simp (maxDischargeDepth := 8) [↓sC, sB, sM, e2, e5, e6, e7, e8, e9, hm, hne, hll, c1]
      exact fW
    try simp (maxDischargeDepth := 8) [↓sC, sB, sM, e2, e5, e6, e7, e8, e9, hm, hne, hll, c1]
    refine (zero_spec hr.2.2.2.2.1).call ?_
    rintro _ w3 ⟨rfl, f3⟩
    have hm3 : mm w3 (sz w) = rcV r (.slice a r.list.length c) := by rw [f3.mm (by omega) (by simp), hm]
    rcases (Decidable.em (key r.real = key 0)).symm with c2 | c2
    · try simp (maxDischargeDepth := 8) [↓sC, sB, sM, c2]
      exact fW.trans0 f3
    rcases (Decidable.em (r.cap = 0)).symm with c3 | c3
    · try simp (maxDischargeDepth := 8) [↓sC, sB, sM, e2, e5, e6, e7, e8, e9, hm3, hne, hll, c1, c2, c3]
      exact fW.trans0 f3
    rcases (Decidable.em (r.list = [])).symm with c4 | c4
    · try simp (maxDischargeDepth := 8) [↓sC, sB, sM, e2, e5, e6, e7, e8, e9, hm3, hne, hll, c1, c2, c3, c4]
      exact fW.trans0 f3
    try simp (maxDischargeDepth := 8) [↓sC, sB, sM, e2, e5, e6, e7, e8, e9, hm3, hne, hll, c1, c2, c3, c4]
    exact ⟨by simp [onlyP, c1, c2, c3, c4], fW.trans0 f3⟩
  · rcases (Decidable.em (r.text = [])).symm with c1 | c1
    · try simp (maxDischargeDepth := 8) [↓sC, sB, sM, e2, e5, e6, e7, e8, e9, hm, hne, hll, c1]
      exact fW
    rcases (Decidable.em (r.num = 0)).symm with c2 | c2
    · try simp (maxDischargeDepth := 8) [↓sC, sB, sM, e2, e5, e6, e7, e8, e9, hm, hne, hll, c1, c2]
      exact fW
    rcases (Decidable.em (r.low = 0)).symm with c3 | c3
    · try simp (maxDischargeDepth := 8) [↓sC, sB, sM, e2, e5, e6, e7, e8, e9, hm, hne, hll, c1, c2, c3]
      exact fW
    rcases (Decidable.em (r.high = 0)).symm with c4 | c4
    · try simp (maxDischargeDepth := 8) [↓sC, sB, sM, e2, e5, e6, e7, e8, e9, hm, hne, hll, c1, c2, c3, c4]
      exact fW
    rcases (Decidable.em (r.cap = 0)).symm with c5 | c5
    · try simp (maxDischargeDepth := 8) [↓sC, sB, sM, e2, e5, e6, e7, e8, e9, hm, hne, hll, c1, c2, c3, c4, c5]
      exact fW
    rcases (Decidable.em (r.list = [])).symm with c6 | c6
    · try simp (maxDischargeDepth := 8) [↓sC, sB, sM, e2, e5, e6, e7, e8, e9, hm, hne, hll, c1, c2, c3, c4, c5, c6]
      exact fW
    try simp (maxDischargeDepth := 8) [↓sC, sB, sM, e2, e5, e6, e7, e8, e9, hm, hne, hll, c1, c2, c3, c4, c5, c6]
    exact ⟨by simp [onlyP, c1, c2, c3, c4, c5, c6], fW⟩
  · rcases (Decidable.em (r.text = [])).symm with c1 | c1
    · try simp (maxDischargeDepth := 8) [↓sC, sB, sM, e2, e5, e6, e7, e8, e9, hm, hne, hll, c1]
      exact fW
    rcases (Decidable.em (r.num = 0)).symm with c2 | c2
    · try simp (maxDischargeDepth := 8) [↓sC, sB, sM, e2, e5, e6, e7, e8, e9, hm, hne, hll, c1, c2]
      exact fW
    rcases (Decidable.em (r.low = 0)).symm with c3 | c3
    · try simp (maxDischargeDepth := 8) [↓sC, sB, sM, e2, e5, e6, e7, e8, e9, hm, hne, hll, c1, c2, c3]
      exact fW
    rcases (Decidable.em (r.high = 0)).symm with c4 | c4
    · try simp (maxDischargeDepth := 8) [↓sC, sB, sM, e2, e5, e6, e7, e8, e9, hm, hne, hll, c1, c2, c3, c4]
      exact fW
    try simp (maxDischargeDepth := 8) [↓sC, sB, sM, e2, e5, e6, e7, e8, e9, hm, hne, hll, c1, c2, c3, c4]
    refine (zero_spec hr.2.2.2.2.1).call ?_
    rintro _ w3 ⟨rfl, f3⟩
    have hm3 : mm w3 (sz w) = rcV r (.slice a r.list.length c) := by rw [f3.mm (by omega) (by simp), hm]
    rcases (Decidable.em (key r.real = key 0)).symm with c5 | c5
    · try simp (maxDischargeDepth := 8) [↓sC, sB, sM, c5]
      exact fW.trans0 f3
    try simp (maxDischargeDepth := 8) [↓sC, sB, sM, e2, e5, e6, e7, e8, e9, hm3, hne, hll, c1, c2, c3, c4, c5]
    exact ⟨by simp [onlyP, c1, c2, c3, c4, c5], fW.trans0 f3⟩
def itemP (k : Int) (L : List ItemP) (i : Nat) : Prop :=
  ∀ x, L[i]? = some x → x.name.length ≤ 16 ∧ (k = 8 → key x.score = key 0) ∧ x.score = canon x.score ∧ ∀ y, 0 < i → L[i - 1]? = some y → (k = 8 → Op.bytesLess y.name x.name = true) ∧ (k = 9 → aheadB y x = true)
theorem item_spec {w : World} {k : Int} {a : Option Addr} {c : Nat} {L : List ItemP} (hr : RdV w (.slice a L.length c) L.length (flat itemV L)) (hok : ∀ x ∈ L, okI x) (hL : L.length ≤ 1000000) {i : Nat} (hi : i < L.length) :
    Ret P 77 #[i64 k, .slice a L.length c, i64 i] w fun v w' => ∃ n : Int, v = i64 n ∧ (n = 0 → itemP k L i) ∧ Fr [] w w' := by
  refine F77ok ?_
  unfold F77
  obtain ⟨x, hx⟩ : ∃ x, L[i]? = some x := ⟨_, List.getElem?_eq_getElem hi⟩
  have hxok := hok x (List.mem_of_getElem? hx)
  obtain ⟨b, o, c', hv, hb, hin, htk⟩ := flat_at hr (itemV_len L) (by omega) hx
  simp only [Value.slice.injEq] at hv
  obtain ⟨rfl, _, rfl⟩ := hv
  have hii : (i : Int) < L.length := by omega
  have hs2 : ∀ l : List Value, l.length = 2 → splice l 0 (itemV x) = itemV x := fun l hl => splice_full (by rw [hl]; rfl)
  obtain ⟨W, hW⟩ : ∃ W, W = wr (nw w [Value.float FloatKind.f64 0, Value.string ByteArray.empty] 105) (sz w) (itemV x) := ⟨_, rfl⟩
  have fW : Fr [] w W := by rw [hW]; exact ((Fr.refl [] w).nw _ _).wr (.inr (Nat.le_refl _)) _
  have hm : mm W (sz w) = itemV x := by rw [hW]; exact mm_wr_same (by simp [fz_nw]) _
  have hsW : sz w < sz W := by rw [hW, sz_wr, sz_nw]; omega
  have hlen : ∀ w, pBuiltin P .len #[9] 3 [strB x.name] w = some (i64 x.name.length, w) := fun w => len_strB und9
  try simp (maxDischargeDepth := 8) [↓sC, sB, sM, hii, hi, hin, htk, hs2, itemV_oneT, hlen, ← hW, hm]
  rcases (Decidable.em (x.name.length ≤ 16)).symm with c1 | c1
  · have c1i : (16 : Int) < x.name.length := by omega
    try simp (maxDischargeDepth := 8) [↓sC, sB, sM, c1i]
    exact fW
  have c1i : ¬ (16 : Int) < x.name.length := by omega
  rcases Nat.eq_zero_or_pos i with i0 | i0
  · subst i0
    by_cases k8 : k = 8
    · subst k8
      try simp (maxDischargeDepth := 8) [↓sC, sB, sM, c1i, hm]
      refine (zero_spec hxok).call ?_
      rintro _ w1 ⟨rfl, f1⟩
      have hm1 : mm w1 (sz w) = itemV x := by rw [f1.mm hsW (by simp), hm]
      rcases (Decidable.em (key x.score = key 0)).symm with z | z
      · try simp (maxDischargeDepth := 8) [↓sC, sB, sM, z]
        exact fW.trans0 f1
      try simp (maxDischargeDepth := 8) [↓sC, sB, sM, z, hm1]
      refine (refProper_spec hxok).call ?_
      rintro _ w2 ⟨rfl, f2⟩
      have hsf := (f1.trans0 f2).size
      have hm2 : mm w2 (sz w) = itemV x := by rw [(f1.trans0 f2).mm hsW (by simp), hm]
      rcases (Decidable.em (x.score = canon x.score)).symm with p | p
      · try simp (maxDischargeDepth := 8) [↓sC, sB, sM, p]
        exact (fW.trans0 f1).trans0 f2
      rw [decide_eq_true p]
      try simp (maxDischargeDepth := 8) [↓sC, sB, sM, hm2]
      exact ⟨fun x' hx' => by rw [hx] at hx'; cases hx'; exact ⟨c1, by simp [z], p, fun y h0 _ => absurd h0 (by omega)⟩, ((fW.trans0 f1).trans0 f2).drew.drew⟩
    · skip
      try simp (maxDischargeDepth := 8) [↓sC, sB, sM, c1i, k8, hm]
      have f1 : Fr [] W W := Fr.refl [] W
      have z : True := trivial
      refine (refProper_spec hxok).call ?_
      rintro _ w2 ⟨rfl, f2⟩
      have hsf := (f1.trans0 f2).size
      have hm2 : mm w2 (sz w) = itemV x := by rw [(f1.trans0 f2).mm hsW (by simp), hm]
      rcases (Decidable.em (x.score = canon x.score)).symm with p | p
      · try simp (maxDischargeDepth := 8) [↓sC, sB, sM, p]
        exact (fW.trans0 f1).trans0 f2
      rw [decide_eq_true p]
      try simp (maxDischargeDepth := 8) [↓sC, sB, sM, hm2, k8]
      exact ⟨fun x' hx' => by rw [hx] at hx'; cases hx'; exact ⟨c1, by simp [k8], p, fun y h0 _ => absurd h0 (by omega)⟩, ((fW.trans0 f1).trans0 f2).drew.drew⟩
  · obtain ⟨y, hy⟩ : ∃ y, L[i - 1]? = some y := ⟨_, List.getElem?_eq_getElem (by omega)⟩
    have hyok := hok y (List.mem_of_getElem? hy)
    obtain ⟨b', o', c', hv, hb', hin', htk'⟩ := flat_at hr (itemV_len L) (by omega) hy
    simp only [Value.slice.injEq, Option.some.injEq, Addr.mk.injEq] at hv
    obtain ⟨⟨rfl, rfl, _⟩, _, rfl⟩ := hv
    have hwm : IntKind.i64.wrap ((i : Int) - 1) = ((i - 1 : Nat) : Int) := by rw [wrap64 (by omega) (by omega)]; omega
    have i0i : (0 : Int) < i := by omega
    have him : ((i - 1 : Nat) : Int) < L.length := by omega
    have him' : i - 1 < L.length := by omega
    have hlt : ∀ w, pBin P .lss 9 false (strB y.name) (strB x.name) w = some (.bool (Op.bytesLess y.name x.name), w) := fun w => lt_strB
    by_cases k8 : k = 8
    · subst k8
      try simp (maxDischargeDepth := 8) [↓sC, sB, sM, c1i, hm]
      refine (zero_spec hxok).call ?_
      rintro _ w1 ⟨rfl, f1⟩
      have hm1 : mm w1 (sz w) = itemV x := by rw [f1.mm hsW (by simp), hm]
      rcases (Decidable.em (key x.score = key 0)).symm with z | z
      · try simp (maxDischargeDepth := 8) [↓sC, sB, sM, z]
        exact fW.trans0 f1
      try simp (maxDischargeDepth := 8) [↓sC, sB, sM, z, hm1]
      refine (refProper_spec hxok).call ?_
      rintro _ w2 ⟨rfl, f2⟩
      have hsf := (f1.trans0 f2).size
      have hm2 : mm w2 (sz w) = itemV x := by rw [(f1.trans0 f2).mm hsW (by simp), hm]
      rcases (Decidable.em (x.score = canon x.score)).symm with p | p
      · try simp (maxDischargeDepth := 8) [↓sC, sB, sM, p]
        exact (fW.trans0 f1).trans0 f2
      have q1 : o + (i - 1) * 2 + 2 ≤ (mm w2 b).length := by rw [((fW.trans0 f1).trans0 f2).mm hb (by simp)]; exact hin'
      have q2 : ((mm w2 b).drop (o + (i - 1) * 2)).take 2 = itemV y := by rw [((fW.trans0 f1).trans0 f2).mm hb (by simp)]; exact htk'
      have q3 : o + (i - 1) * 2 + 1 < (mm w2 b).length := by omega
      have q4 : gt (mm w2 b) (o + (i - 1) * 2 + 1) = strB y.name := by rw [cell_of q2 (by omega)]; rfl
      rw [decide_eq_true p]
      cases hq : Op.bytesLess y.name x.name
      · try simp (maxDischargeDepth := 8) [↓sC, sB, sM, i0i, i0, hwm, him, him', hm2, q1, q2, q3, q4, hlt, hq]
        exact ((fW.trans0 f1).trans0 f2).drew
      try simp (maxDischargeDepth := 8) [↓sC, sB, sM, i0i, i0, hwm, him, him', hm2, q1, q2, q3, q4, hlt, hq]
      exact ⟨fun x' hx' => by rw [hx] at hx'; cases hx'; exact ⟨c1, by simp [z], p, fun y' _ hy' => by rw [hy] at hy'; cases hy'; simp [hq]⟩, ((fW.trans0 f1).trans0 f2).drew.drew⟩
    · skip
      try simp (maxDischargeDepth := 8) [↓sC, sB, sM, c1i, k8, hm]
      have f1 : Fr [] W W := Fr.refl [] W
      have z : True := trivial
      refine (refProper_spec hxok).call ?_
      rintro _ w2 ⟨rfl, f2⟩
      have hsf := (f1.trans0 f2).size
      have hm2 : mm w2 (sz w) = itemV x := by rw [(f1.trans0 f2).mm hsW (by simp), hm]
      rcases (Decidable.em (x.score = canon x.score)).symm with p | p
      · try simp (maxDischargeDepth := 8) [↓sC, sB, sM, p]
        exact (fW.trans0 f1).trans0 f2
      have q1 : o + (i - 1) * 2 + 2 ≤ (mm w2 b).length := by rw [((fW.trans0 f1).trans0 f2).mm hb (by simp)]; exact hin'
      have q2 : ((mm w2 b).drop (o + (i - 1) * 2)).take 2 = itemV y := by rw [((fW.trans0 f1).trans0 f2).mm hb (by simp)]; exact htk'
      have q3 : o + (i - 1) * 2 + 1 < (mm w2 b).length := by omega
      have q4 : gt (mm w2 b) (o + (i - 1) * 2 + 1) = strB y.name := by rw [cell_of q2 (by omega)]; rfl
      rw [decide_eq_true p]
      by_cases k9 : k = 9
      · subst k9
        try simp (maxDischargeDepth := 8) [↓sC, sB, sM, i0i, i0, hwm, him, him', hm2, q1, q2, q3, q4, hlt, k8]
        refine (ahead_spec hyok hxok).call ?_
        rintro _ w3 ⟨rfl, f3⟩
        have fin := (((fW.trans0 f1).trans0 f2).drew.drew).trans0 f3
        cases hq : aheadB y x
        · try simp (maxDischargeDepth := 8) [↓sC, sB, sM]
          exact fin
        · try simp (maxDischargeDepth := 8) [↓sC, sB, sM]
          exact ⟨fun x' hx' => by rw [hx] at hx'; cases hx'; exact ⟨c1, by simp, p, fun y' _ hy' => by rw [hy] at hy'; cases hy'; simp [hq]⟩, fin⟩
      · try simp (maxDischargeDepth := 8) [↓sC, sB, sM, i0i, i0, hwm, him, him', hm2, q1, q2, q3, q4, hlt, k8, k9]
        exact ⟨fun x' hx' => by rw [hx] at hx'; cases hx'; exact ⟨c1, by simp [k8], p, fun y' _ hy' => by simp [k8, k9]⟩, ((fW.trans0 f1).trans0 f2).drew.drew⟩
end Go.Proofs.YtieejbkbdfccdaaGreat

set_option linter.unusedVariables false
set_option linter.unusedSimpArgs false
namespace Go.Proofs.YtieejbkbdfccdaaGreat
open Go
def MP : Int := 2305843009213693952
structure RecOk (r : RecP) : Prop where
  k1 : 1 ≤ r.kind
  k9 : r.kind ≤ 9
  only : onlyP r (fieldsR r.kind)
  text : r.kind = 1 → r.text.length ≤ 64
  bounds : r.kind = 4 → -MP ≤ r.low ∧ r.high ≤ MP ∧ r.low ≤ r.num ∧ r.num ≤ r.high
  real : r.real = canon r.real
  cap : 8 ≤ r.kind → 1 ≤ r.cap ∧ r.cap ≤ 32 ∧ (r.list.length : Int) ≤ r.cap ∧ ∀ i, i < r.list.length → itemP r.kind r.list i
theorem fields_five {k : Int} (h1 : 1 ≤ k) (h2 : k ≤ 9) : fiveS (fieldsR k) := by
  have : k = 1 ∨ k = 2 ∨ k = 3 ∨ k = 4 ∨ k = 5 ∨ k = 6 ∨ k = 7 ∨ k = 8 ∨ k = 9 := by omega
  rcases this with rfl | rfl | rfl | rfl | rfl | rfl | rfl | rfl | rfl <;> simp [fieldsR, fieldL, fiveS]
theorem wneg_MP : IntKind.i64.wrap (-2305843009213693952) = -2305843009213693952 := by decide
def RefI (w0 : World) (r : RecP) (lv : Value) (b : Nat) (m : Nat) (e : Env) (w' : World) : Prop :=
  ∃ j : Nat, m = r.list.length - j ∧ j ≤ r.list.length ∧ (∀ i, i < j → itemP r.kind r.list i) ∧ e 1 = pt b 0 ∧ e 4 = i64 j ∧ mm w' b = rcV r lv ∧ b < sz w' ∧ IsRec w' lv r ∧ Fr [] w0 w'
theorem refCheck_list {w : World} {r : RecP} {a : Option Addr} {c : Nat} {b : Nat} (hb : sz w ≤ b) (hc : r.list.length ≤ 32) {e : Env} {w2 : World} (e1 : e 1 = pt b 0) (e4 : e 4 = i64 0) (hm : mm w2 b = rcV r (.slice a r.list.length c)) (hb2 : b < sz w2)
    (hr : IsRec w2 (.slice a r.list.length c) r) (hf : Fr [] w w2) {K : KT} (hbad : ∀ e' w' (n : Int), n ≠ 0 → Fr [] w w' → e' 2 = i64 n → K .ret e' w') (hok : ∀ e' w', Fr [] w w' → (∀ i, i < r.list.length → itemP r.kind r.list i) → K (.exit 0) e' w') :
    loopE F45B0 e w2 K := by
  refine loopE_of (RefI w r (.slice a r.list.length c) b) r.list.length ⟨0, by omega, by omega, by simp, e1, e4, hm, hb2, hr, hf⟩ ?_
  rintro m e w3 ⟨j, rfl, hj, hall, e1, e4, hm, hb2, hr, hf⟩
  unfold F45B0
  have hml : 0 + 7 < (mm w3 b).length := by rw [hm]; simp
  by_cases hjl : j < r.list.length
  · have hji : (j : Int) < r.list.length := by omega
    have hwj : IntKind.i64.wrap ((j : Int) + 1) = ((j + 1 : Nat) : Int) := wrap64 (by omega) (by omega)
    try simp (maxDischargeDepth := 8) [↓sC, sB, sM, e1, e4, hm, hji, hjl]
    refine (item_spec hr.1 hr.2.2.2.2.2.2.2 (by omega) hjl).call ?_
    rintro _ w4 ⟨n, rfl, hn, f4⟩
    rcases (Decidable.em (n = 0)).symm with n0 | n0
    · try simp (maxDischargeDepth := 8) [↓sC, sB, sM, n0]
      exact hbad _ _ n n0 (hf.trans0 f4) (by simp [put_get])
    try simp (maxDischargeDepth := 8) [↓sC, sB, sM, n0, hwj, e4, -Int.natCast_add]
    refine ⟨r.list.length - (j + 1), by omega, j + 1, rfl, by omega, fun i hi => ?_, by simp [put_get, e1], by simp [put_get], by rw [f4.mm hb2 (by simp), hm], f4.lt hb2, hr.fr0 f4, hf.trans0 f4⟩
    rcases Nat.lt_or_ge i j with h | h
    · exact hall i h
    · have : i = j := by omega
      subst this; exact hn n0
  · have : j = r.list.length := by omega
    subst this
    try simp (maxDischargeDepth := 8) [↓sC, sB, sM, e1, e4, hm]
    exact hok _ _ hf hall
theorem refCheck_spec {w : World} {r : RecP} {a : Option Addr} {c : Nat} (hr : IsRec w (.slice a r.list.length c) r) :
    Ret P 45 #[.agg (rcV r (.slice a r.list.length c)).toArray] w fun v w' => ∃ n : Int, v = i64 n ∧ (n = 0 → RecOk r) ∧ Fr [] w w' := by
  refine F45ok ?_
  unfold F45
  obtain ⟨W, hW⟩ : ∃ W, W = nw w (rcV r (.slice a r.list.length c)) 61 := ⟨_, rfl⟩
  have fW : Fr [] w W := by rw [hW]; exact (Fr.refl [] w).nw _ _
  have hm : mm W (sz w) = rcV r (.slice a r.list.length c) := by rw [hW]; simp [mm_nw]
  have hsW : sz w < sz W := by rw [hW, sz_nw]; omega
  have t8 : ∀ r lv, (rcV r lv).take 8 = rcV r lv := fun _ _ => rfl
  try simp (maxDischargeDepth := 8) [↓sC, sB, sM, rcC, ← hW, hm]
  rcases (Decidable.em (1 ≤ r.kind)).symm with a1 | a1
  · have a1i : r.kind < 1 := by omega
    try simp (maxDischargeDepth := 8) [↓sC, sB, sM, a1i]
    exact fW
  have a1i : ¬ r.kind < 1 := by omega
  rcases (Decidable.em (r.kind ≤ 9)).symm with a9 | a9
  · have a9i : 9 < r.kind := by omega
    try simp (maxDischargeDepth := 8) [↓sC, sB, sM, a1i, a9i, hm]
    exact fW
  have a9i : ¬ 9 < r.kind := by omega
  try simp (maxDischargeDepth := 8) [↓sC, sB, sM, a1i, a9i, hm, t8]
  refine fields_spec.call ?_
  rintro _ w1 ⟨rfl, f1⟩
  have hm1 : mm w1 (sz w) = rcV r (.slice a r.list.length c) := by rw [f1.mm (by rw [sz_drew]; exact hsW) (by simp), mm_drew, hm]
  have g1 : Fr [] w w1 := fW.drew.trans0 f1
  have hs1 : sz w < sz w1 := f1.lt (by rw [sz_drew]; exact hsW)
  try simp (maxDischargeDepth := 8) [↓sC, sB, sM, hm1, t8]
  refine (only_spec (fields_five a1 a9) hr.2).call ?_
  rintro _ w2 ⟨bb, rfl, hb, f2⟩
  have hm2 : mm w2 (sz w) = rcV r (.slice a r.list.length c) := by rw [f2.mm hs1 (by simp), hm1]
  have g2 := g1.trans0 f2
  have hs2 := f2.lt hs1
  cases bb
  · try simp (maxDischargeDepth := 8) [↓sC, sB, sM]
    exact g2
  have hon := hb rfl
  have hlen : ∀ w, pBuiltin P .len #[9] 3 [strB r.text] w = some (i64 r.text.length, w) := fun w => len_strB und9
  try simp (maxDischargeDepth := 8) [↓sC, sB, sM, hm2]
  by_cases k1 : r.kind = 1
  · have k4 : ¬ r.kind = 4 := by omega
    rcases (Decidable.em (r.text.length ≤ 64)).symm with t1 | t1
    · have t1i : (64 : Int) < r.text.length := by omega
      try simp (maxDischargeDepth := 8) [↓sC, sB, sM, k1, t1i, hm2, hlen]
      exact g2
    have t1i : ¬ (64 : Int) < r.text.length := by omega
    try simp (maxDischargeDepth := 8) [↓sC, sB, sM, k1, t1i, hm2, hlen]
    refine (refProper_spec hr.2.2.2.2.2.1).call ?_
    rintro _ w3 ⟨rfl, f3⟩
    have hm3 : mm w3 (sz w) = rcV r (.slice a r.list.length c) := by rw [f3.mm hs2 (by simp), hm2]
    have g3 := g2.trans0 f3
    have hs3 := f3.lt hs2
    rcases (Decidable.em (r.real = canon r.real)).symm with p | p
    · try simp (maxDischargeDepth := 8) [↓sC, sB, sM, p]
      exact g3
    rw [decide_eq_true p]
    have k8 : r.kind < 8 := by omega
    try simp (maxDischargeDepth := 8) [↓sC, sB, sM, hm3, k8, k1]
    exact ⟨⟨a1, a9, hon, fun _ => t1, fun h => absurd h k4, p, fun h => absurd h (by omega)⟩, g3⟩
  by_cases k4 : r.kind = 4
  · rcases (Decidable.em (-MP ≤ r.low)).symm with b1 | b1
    · have b1i : r.low < -2305843009213693952 := by unfold MP at b1; omega
      try simp (maxDischargeDepth := 8) [↓sC, sB, sM, k4, hm2, wneg_MP, b1i]
      exact g2
    have b1i : ¬ r.low < -2305843009213693952 := by unfold MP at b1; omega
    rcases (Decidable.em (r.high ≤ MP)).symm with b2 | b2
    · have b2i : 2305843009213693952 < r.high := by unfold MP at b2; omega
      try simp (maxDischargeDepth := 8) [↓sC, sB, sM, k4, hm2, wneg_MP, b1i, b2i]
      exact g2
    have b2i : ¬ 2305843009213693952 < r.high := by unfold MP at b2; omega
    rcases (Decidable.em (r.low ≤ r.num)).symm with b3 | b3
    · have b3i : r.num < r.low := by omega
      try simp (maxDischargeDepth := 8) [↓sC, sB, sM, k4, hm2, wneg_MP, b1i, b2i, b3i]
      exact g2
    have b3i : ¬ r.num < r.low := by omega
    rcases (Decidable.em (r.num ≤ r.high)).symm with b4 | b4
    · have b4i : r.high < r.num := by omega
      try simp (maxDischargeDepth := 8) [↓sC, sB, sM, k4, hm2, wneg_MP, b1i, b2i, b3i, b4i]
      exact g2
    have b4i : ¬ r.high < r.num := by omega
    try simp (maxDischargeDepth := 8) [↓sC, sB, sM, k4, hm2, wneg_MP, b1i, b2i, b3i, b4i]
    refine (refProper_spec hr.2.2.2.2.2.1).call ?_
    rintro _ w3 ⟨rfl, f3⟩
    have hm3 : mm w3 (sz w) = rcV r (.slice a r.list.length c) := by rw [f3.mm hs2 (by simp), hm2]
    have g3 := g2.trans0 f3
    have hs3 := f3.lt hs2
    rcases (Decidable.em (r.real = canon r.real)).symm with p | p
    · try simp (maxDischargeDepth := 8) [↓sC, sB, sM, p]
      exact g3
    rw [decide_eq_true p]
    have k8 : r.kind < 8 := by omega
    try simp (maxDischargeDepth := 8) [↓sC, sB, sM, hm3, k8, k4]
    exact ⟨⟨a1, a9, hon, fun h => absurd h k1, fun _ => ⟨b1, b2, b3, b4⟩, p, fun h => absurd h (by omega)⟩, g3⟩
  try simp (maxDischargeDepth := 8) [↓sC, sB, sM, k1, k4, hm2]
  refine (refProper_spec hr.2.2.2.2.2.1).call ?_
  rintro _ w3 ⟨rfl, f3⟩
  have hm3 : mm w3 (sz w) = rcV r (.slice a r.list.length c) := by rw [f3.mm hs2 (by simp), hm2]
  have g3 := g2.trans0 f3
  have hs3 := f3.lt hs2
  rcases (Decidable.em (r.real = canon r.real)).symm with p | p
  · try simp (maxDischargeDepth := 8) [↓sC, sB, sM, p]
    exact g3
  rw [decide_eq_true p]
  by_cases k8 : r.kind < 8
  · try simp (maxDischargeDepth := 8) [↓sC, sB, sM, hm3, k8]
    exact ⟨⟨a1, a9, hon, fun h => absurd h k1, fun h => absurd h k4, p, fun h => absurd h (by omega)⟩, g3⟩
  rcases (Decidable.em (1 ≤ r.cap)).symm with q1 | q1
  · have q1i : r.cap < 1 := by omega
    try simp (maxDischargeDepth := 8) [↓sC, sB, sM, hm3, k8, q1i]
    exact g3
  have q1i : ¬ r.cap < 1 := by omega
  rcases (Decidable.em (r.cap ≤ 32)).symm with q2 | q2
  · have q2i : 32 < r.cap := by omega
    try simp (maxDischargeDepth := 8) [↓sC, sB, sM, hm3, k8, q1i, q2i]
    exact g3
  have q2i : ¬ 32 < r.cap := by omega
  rcases (Decidable.em ((r.list.length : Int) ≤ r.cap)).symm with q3 | q3
  · have q3i : r.cap < (r.list.length : Int) := by omega
    try simp (maxDischargeDepth := 8) [↓sC, sB, sM, hm3, k8, q1i, q2i, q3i]
    exact g3
  have q3i : ¬ r.cap < (r.list.length : Int) := by omega
  try simp (maxDischargeDepth := 8) [↓sC, sB, sM, hm3, k8, q1i, q2i, q3i]
  have hl32 : r.list.length ≤ 32 := by omega
  refine refCheck_list (w := w) (r := r) (a := a) (c := c) (b := sz w) (Nat.le_refl _) hl32 (by simp [put_get]) (by simp [put_get]) hm3 hs3 (hr.fr0 g3) g3 (fun e' w' n hn hf e2 => ?_) (fun e' w' hf hall => ?_)
  · try simp (maxDischargeDepth := 8) [↓sC, sB, sM, e2, hn]
    exact hf
  · try simp (maxDischargeDepth := 8) [↓sC, sB, sM]
    exact ⟨⟨a1, a9, hon, fun h => absurd h k1, fun h => absurd h k4, p, fun _ => ⟨q1, q2, q3, hall⟩⟩, hf⟩
end Go.Proofs.YtieejbkbdfccdaaGreat

set_option linter.unusedVariables false
set_option linter.unusedSimpArgs false
namespace Go.Proofs.YtieejbkbdfccdaaGreat
open Go
theorem kinds_of {k : Int} (h1 : 1 ≤ k) (h9 : k ≤ 9) : k = 1 ∨ (k = 2 ∨ k = 3) ∨ k = 4 ∨ (k = 5 ∨ k = 6 ∨ k = 7) ∨ (k = 8 ∨ k = 9) := by omega
def shB (a b c d e : Bool) : List Value := [.bool a, .bool b, .bool c, .bool d, .bool e]
@[simp] theorem shlen {a b c d e : Bool} : (shB a b c d e).length = 5 := rfl
@[simp] theorem shg0 {a b c d e : Bool} : gt (shB a b c d e) 0 = .bool a := rfl
@[simp] theorem shg1 {a b c d e : Bool} : gt (shB a b c d e) 1 = .bool b := rfl
@[simp] theorem shg2 {a b c d e : Bool} : gt (shB a b c d e) 2 = .bool c := rfl
@[simp] theorem shg3 {a b c d e : Bool} : gt (shB a b c d e) 3 = .bool d := rfl
@[simp] theorem shg4 {a b c d e : Bool} : gt (shB a b c d e) 4 = .bool e := rfl
theorem shB_one {a b c d e : Bool} : (∀ v, v ∈ shB a b c d e → v.oneCell' = true) = True := by
  simp only [shB, eq_iff_iff, iff_true]
  intro v hv
  simp only [List.mem_cons, List.not_mem_nil, or_false] at hv
  rcases hv with rfl | rfl | rfl | rfl | rfl <;> rfl
theorem shC {a b c d e : Bool} : (Value.agg (shB a b c d e).toArray).cells.toList = shB a b c d e := rfl
/-- The five shapes, and what is zero in each. -/
theorem five_kinds {r : RecP} (h1 : 1 ≤ r.kind) (h9 : r.kind ≤ 9) (ho : onlyP r (fieldsR r.kind)) :
    (r.kind = 1 ∧ shapeV r.kind = shB true false false false false ∧ r.num = 0 ∧ r.low = 0 ∧ r.high = 0 ∧ key r.real = key 0 ∧ r.cap = 0 ∧ r.list = []) ∨
    ((r.kind = 2 ∨ r.kind = 3) ∧ shapeV r.kind = shB false true false false false ∧ r.text = [] ∧ r.low = 0 ∧ r.high = 0 ∧ key r.real = key 0 ∧ r.cap = 0 ∧ r.list = []) ∨
    (r.kind = 4 ∧ shapeV r.kind = shB false true true false false ∧ r.text = [] ∧ key r.real = key 0 ∧ r.cap = 0 ∧ r.list = []) ∨
    ((r.kind = 5 ∨ r.kind = 6 ∨ r.kind = 7) ∧ shapeV r.kind = shB false false false true false ∧ r.text = [] ∧ r.num = 0 ∧ r.low = 0 ∧ r.high = 0 ∧ r.cap = 0 ∧ r.list = []) ∨
    ((r.kind = 8 ∨ r.kind = 9) ∧ shapeV r.kind = shB false false false false true ∧ r.text = [] ∧ r.num = 0 ∧ r.low = 0 ∧ r.high = 0 ∧ key r.real = key 0) := by
  obtain ⟨o1, o2, o3, o4, o5⟩ := ho
  rcases kinds_of h1 h9 with h | (h | h) | h | (h | h | h) | (h | h) <;> rw [h] at o1 o2 o3 o4 o5 <;> simp [fieldsR, fieldL] at o1 o2 o3 o4 o5
  all_goals simp only [h, shapeV, shB]
  all_goals simp
  all_goals first | exact ⟨o2, o3.1, o3.2, o4, o5⟩ | exact ⟨o1, o3.1, o3.2, o4, o5⟩ | exact ⟨o1, o4, o5⟩ | exact ⟨o1, o2, o3.1, o3.2, o5⟩ | exact ⟨o1, o2, o3.1, o3.2, o4⟩
theorem bare_spec {w : World} {r : RecP} {a : Option Addr} {c : Nat} (h1 : 1 ≤ r.kind) (h9 : r.kind ≤ 9) (ho : onlyP r (fieldsR r.kind)) (hr : okR r) :
    Ret P 68 #[.agg (rcV r (.slice a r.list.length c)).toArray, .agg (shapeV r.kind).toArray] w fun v w' => v = .bool true ∧ Fr [] w w' := by
  refine F68ok ?_
  unfold F68
  have hne : ∀ l w, pBin P .eql 9 true (strB l) (Value.string { data := #[] }) w = some (.bool (decide (l = [])), w) := fun l w => eq_strB (m := [])
  have hr0 := hr.2.2.2.2.1
  rcases five_kinds h1 h9 ho with ⟨_, hs, c1, c2, c3, c4, c5, c6⟩ | ⟨_, hs, c1, c2, c3, c4, c5, c6⟩ | ⟨_, hs, c1, c4, c5, c6⟩ | ⟨_, hs, c1, c2, c3, c4, c5, c6⟩ | ⟨_, hs, c1, c2, c3, c4, c5⟩ <;> rw [hs]
  · try simp (maxDischargeDepth := 8) [↓sC, sB, sM, rcC, shC, hne, c1, c2, c3]
    refine (same_spec hr0 (b := 0) (by unfold H63; omega)).call ?_
    rintro _ w1 ⟨rfl, f1⟩
    have m1 : mm w1 (sz w) = rcV r (.slice a r.list.length c) := by rw [f1.mm (by simp only [sz_nw]; omega) (by simp)]; simp [mm_nw, sz_nw]
    have m2 : mm w1 (sz w + 1) = shB true false false false false := by rw [f1.mm (by simp only [sz_nw]; omega) (by simp)]; simp [mm_nw, sz_nw]
    try simp (maxDischargeDepth := 8) [↓sC, sB, sM, c4, c5, c6, c1, c2, c3, m1, m2]
    exact (((Fr.refl [] w).nw _ _).nw _ _).trans0 f1
  · try simp (maxDischargeDepth := 8) [↓sC, sB, sM, rcC, shC, hne, c1, c2, c3]
    refine (same_spec hr0 (b := 0) (by unfold H63; omega)).call ?_
    rintro _ w1 ⟨rfl, f1⟩
    have m1 : mm w1 (sz w) = rcV r (.slice a r.list.length c) := by rw [f1.mm (by simp only [sz_nw]; omega) (by simp)]; simp [mm_nw, sz_nw]
    have m2 : mm w1 (sz w + 1) = shB false true false false false := by rw [f1.mm (by simp only [sz_nw]; omega) (by simp)]; simp [mm_nw, sz_nw]
    try simp (maxDischargeDepth := 8) [↓sC, sB, sM, c4, c5, c6, c1, c2, c3, m1, m2]
    exact (((Fr.refl [] w).nw _ _).nw _ _).trans0 f1
  · try simp (maxDischargeDepth := 8) [↓sC, sB, sM, rcC, shC, hne, c1]
    refine (same_spec hr0 (b := 0) (by unfold H63; omega)).call ?_
    rintro _ w1 ⟨rfl, f1⟩
    have m1 : mm w1 (sz w) = rcV r (.slice a r.list.length c) := by rw [f1.mm (by simp only [sz_nw]; omega) (by simp)]; simp [mm_nw, sz_nw]
    have m2 : mm w1 (sz w + 1) = shB false true true false false := by rw [f1.mm (by simp only [sz_nw]; omega) (by simp)]; simp [mm_nw, sz_nw]
    try simp (maxDischargeDepth := 8) [↓sC, sB, sM, c4, c5, c6, c1, m1, m2]
    exact (((Fr.refl [] w).nw _ _).nw _ _).trans0 f1
  · try simp (maxDischargeDepth := 8) [↓sC, sB, sM, rcC, shC, hne, c1, c2, c3, c4, c5, c6]
  · try simp (maxDischargeDepth := 8) [↓sC, sB, sM, rcC, shC, hne, c1, c2, c3, c4]
    refine (same_spec hr0 (b := 0) (by unfold H63; omega)).call ?_
    rintro _ w1 ⟨rfl, f1⟩
    have m1 : mm w1 (sz w) = rcV r (.slice a r.list.length c) := by rw [f1.mm (by simp only [sz_nw]; omega) (by simp)]; simp [mm_nw, sz_nw]
    have m2 : mm w1 (sz w + 1) = shB false false false false true := by rw [f1.mm (by simp only [sz_nw]; omega) (by simp)]; simp [mm_nw, sz_nw]
    try simp (maxDischargeDepth := 8) [↓sC, sB, sM, c5, c1, c2, c3, c4, m1, m2]
    exact (((Fr.refl [] w).nw _ _).nw _ _).trans0 f1
end Go.Proofs.YtieejbkbdfccdaaGreat
