/- Records and acts: kinds, fields, shapes: the small functions. -/
import Derived.Test.YtieejbkbdfccdaaDoorSim
import Derived.Test.YtieejbkbdfccdaaDoorWRec
import Derived.Test.YtieejbkbdfccdaaDoorWAct
import Derived.Test.YtieejbkbdfccdaaDoorFloWalk
import Derived.Test.YtieejbkbdfccdaaDoorPackC
set_option linter.unusedVariables false
set_option linter.unusedSimpArgs false
namespace Go.Proofs.YtieejbkbdfccdaaDoor
open Go

def asB (s : List UInt8) : Value := strB s
def fieldL : List (List UInt8) := [[], [116], [110], [110], [110, 98], [114], [114], [114], [108], [108]]
def hasL : List (List UInt8) := [[], [109], [], [], [], [115], [115], [110], [110], [110], [110], [110], [110], [120], [120], [120], [120], [120], [115], [115], [115], [120, 115]]
def onL : List Int := [0, 0, 0, 0, 0, 1, 1, 2, 3, 3, 4, 4, 4, 5, 6, 7, 7, 7, 8, 8, 8, 9]
def wordL : List (List UInt8) := [[], [110, 101, 119], [100, 114, 111, 112], [105, 115], [108, 111, 111, 107], [112, 117, 116], [115, 119, 97, 112], [97, 100, 100], [112, 108, 117, 115], [114, 101, 97, 99, 104], [105, 110], [111, 117, 116], [101, 110, 111, 117, 103, 104], [114, 97, 105, 115, 101], [108, 111, 119, 101, 114], [115, 104, 105, 102, 116], [115, 99, 97, 108, 101], [102, 105, 120], [106, 111, 105, 110], [108, 101, 97, 118, 101], [104, 97, 115], [111, 102, 102, 101, 114]]
def fieldsR (k : Int) : List UInt8 := if k < 1 ∨ 9 < k then [] else fieldL.getD k.toNat []
def hasF (k : Int) : List UInt8 := if k < 0 ∨ 21 < k then [] else hasL.getD k.toNat []
def onF (k : Int) : Int := if k < 0 ∨ 21 < k then 0 else onL.getD k.toNat 0
def wordF (k : Int) : List UInt8 := if k < 0 ∨ 21 < k then [] else wordL.getD k.toNat []

theorem gt_map {α : Type} {f : α → Value} {L : List α} {i : Nat} (d : α) (h : i < L.length) : gt (L.map f) i = f (L.getD i d) := by
  show (L.map f).getD i undef = _
  rw [List.getD_eq_getElem?_getD, List.getElem?_map, List.getElem?_eq_getElem h, List.getD_eq_getElem?_getD, List.getElem?_eq_getElem h]
  rfl
theorem fields_spec {w : World} {k : Int} : Ret P 64 #[i64 k] w fun v w' => v = strB (fieldsR k) ∧ Fr [] w w' := by
  refine F64ok ?_
  unfold F64
  rw [show pBuildSlice P 131 10 _ w = some (sl (sz w) 0 10 10, nw w (fieldL.map strB) 9) from by rw [bsl131 (by omega) (by simp [Value.cells])]; rfl]
  by_cases h1 : k < 1
  · try simp (maxDischargeDepth := 8) [↓sC, sB, sM, h1]
    exact by simp [fieldsR, h1]; rfl
  by_cases h2 : 9 < k
  · try simp (maxDischargeDepth := 8) [↓sC, sB, sM, h1, h2]
    exact by simp [fieldsR, h1, h2]; rfl
  have h3 : 0 ≤ k := by omega
  have h4 : k < 10 := by omega
  have h5 : k.toNat < fieldL.length := by simp [fieldL]; omega
  have h6 : k.toNat < 10 := by omega
  have h7 := gt_map (f := strB) ([] : List UInt8) h5
  have h8 : fieldL.length = 10 := rfl
  try simp (maxDischargeDepth := 8) [↓sC, sB, sM, h1, h2, h3, h4, h6, h7, h8]
  simp [fieldsR, h1, h2, List.getElem?_eq_getElem h5]
theorem has_spec0 {w : World} {k : Int} : Ret P 59 #[i64 k] w fun v w' => v = strB (hasF k) ∧ Fr [] w w' := by
  refine F59ok ?_
  unfold F59
  rw [show pBuildSlice P 131 22 _ w = some (sl (sz w) 0 22 22, nw w (hasL.map strB) 9) from by rw [bsl131 (by omega) (by simp [Value.cells])]; rfl]
  by_cases h1 : k < 0
  · try simp (maxDischargeDepth := 8) [↓sC, sB, sM, h1]
    exact by simp [hasF, h1]; rfl
  by_cases h2 : 21 < k
  · try simp (maxDischargeDepth := 8) [↓sC, sB, sM, h1, h2]
    exact by simp [hasF, h1, h2]; rfl
  have h3 : 0 ≤ k := by omega
  have h4 : k < 22 := by omega
  have h5 : k.toNat < hasL.length := by simp [hasL]; omega
  have h6 : k.toNat < 22 := by omega
  have h7 := gt_map (f := strB) ([] : List UInt8) h5
  have h8 : hasL.length = 22 := rfl
  try simp (maxDischargeDepth := 8) [↓sC, sB, sM, h1, h2, h3, h4, h6, h7, h8]
  simp [hasF, h1, h2, List.getElem?_eq_getElem h5]
theorem on_spec0 {w : World} {k : Int} : Ret P 30 #[i64 k] w fun v w' => v = i64 (onF k) ∧ Fr [] w w' := by
  refine F30ok ?_
  unfold F30
  rw [show pBuildSlice P 35 22 _ w = some (sl (sz w) 0 22 22, nw w (onL.map i64) 3) from by rw [bsl35 (by omega) (by simp [Value.cells])]; rfl]
  by_cases h1 : k < 0
  · try simp (maxDischargeDepth := 8) [↓sC, sB, sM, h1]
    exact by simp [onF, h1]
  by_cases h2 : 21 < k
  · try simp (maxDischargeDepth := 8) [↓sC, sB, sM, h1, h2]
    exact by simp [onF, h1, h2]
  have h3 : 0 ≤ k := by omega
  have h4 : k < 22 := by omega
  have h5 : k.toNat < onL.length := by simp [onL]; omega
  have h6 : k.toNat < 22 := by omega
  have h7 := gt_map (f := i64) (0 : Int) h5
  have h8 : onL.length = 22 := rfl
  try simp (maxDischargeDepth := 8) [↓sC, sB, sM, h1, h2, h3, h4, h6, h7, h8]
  simp [onF, h1, h2, List.getElem?_eq_getElem h5]

/-! ### A byte in a text -/
theorem str_bound {l : List UInt8} {j : Nat} (h : j < l.length) : l[j]? = some (gb l j) := by
  unfold gb
  rw [List.getD_eq_getElem?_getD, List.getElem?_eq_getElem h]; rfl
theorem take_gb {l : List UInt8} {j : Nat} (h : j < l.length) : l.take (j + 1) = l.take j ++ [gb l j] := by
  rw [List.take_add_one, str_bound h]; rfl
theorem hasL_len : ∀ s ∈ hasL, s.length ≤ 2 := by decide
theorem hasF_len (k : Int) : (hasF k).length ≤ 2 := by
  unfold hasF
  split
  · simp
  · rw [List.getD_eq_getElem?_getD]
    rcases Nat.lt_or_ge k.toNat hasL.length with h | h
    · rw [List.getElem?_eq_getElem h]; exact hasL_len _ (List.getElem_mem h)
    · rw [List.getElem?_eq_none h]; simp
def HasI (w1 : World) (s : List UInt8) (c : UInt8) (m : Nat) (e : Env) (w' : World) : Prop := ∃ j : Nat, m = s.length - j ∧ j ≤ s.length ∧ (s.take j).contains c = false ∧ e 5 = strB s ∧ e 6 = i64 j ∧ e 1 = bv c ∧ w' = w1
theorem byte_eq (a b : UInt8) : ((a.toNat : Int) = (b.toNat : Int)) = (a = b) := by
  simp only [Int.natCast_inj, eq_iff_iff]
  exact ⟨fun h => UInt8.toNat_inj.1 h, fun h => by rw [h]⟩
theorem has_spec {w : World} {k : Int} {c : UInt8} : Ret P 28 #[i64 k, bv c] w fun v w' => v = .bool ((hasF k).contains c) ∧ Fr [] w w' := by
  refine F28ok ?_
  unfold F28
  refine has_spec0.call ?_
  rintro _ w1 ⟨rfl, f1⟩
  have hl := hasF_len k
  generalize hasF k = s at *
  try simp (maxDischargeDepth := 8) [↓sC, sB, sM]
  refine loopE_of (HasI w1 s c) s.length ⟨0, by omega, by omega, by simp, by simp [put_get], by simp [put_get], by simp [put_get, argE_get], rfl⟩ ?_
  rintro m e w2 ⟨j, rfl, hj, hc, e5, e6, e1, rfl⟩
  unfold F28B0
  have hlen : ∀ w, pBuiltin P .len #[9] 3 [strB s] w = some (i64 s.length, w) := fun w => len_strB und9
  by_cases hjl : j < s.length
  · have hji : (j : Int) < s.length := by omega
    have hix : ∀ w, pIndex P 9 (strB s) (i64 j) w = some (bv (gb s j), w) := fun w => ix_strB und9 hjl
    have hwj : IntKind.i64.wrap ((j : Int) + 1) = ((j + 1 : Nat) : Int) := wrap64 (by omega) (by omega)
    have hmem : gb s j ∈ s := List.mem_of_getElem? (str_bound hjl)
    by_cases hx : gb s j = c
    · try simp (maxDischargeDepth := 8) [↓sC, sB, sM, e5, e6, e1, hlen, hjl, hji, hix, hx]
      refine ⟨?_, f1⟩
      rw [hx] at hmem
      simpa using hmem
    · try simp (maxDischargeDepth := 8) [↓sC, sB, sM, e5, e6, e1, hlen, hjl, hji, hix, byte_eq, hx, hwj, -Int.natCast_add]
      refine ⟨s.length - (j + 1), by omega, j + 1, rfl, by omega, ?_, by simp [put_get, e5], by simp [put_get], by simp [put_get, e1], rfl⟩
      rw [take_gb hjl]
      simp at hc ⊢
      exact ⟨hc, fun h => hx h.symm⟩
  · have : j = s.length := by omega
    subst this
    rw [List.take_length] at hc
    try simp (maxDischargeDepth := 8) [↓sC, sB, sM, e5, e6, e1, hlen]
    exact ⟨by simpa using hc, f1⟩

/-! ### Kinds of acts, as the program holds them -/
abbrev KindT := List UInt8 × Int × List UInt8
def kindV (t : KindT) : List Value := [strB t.1, i64 t.2.1, strB t.2.2]
def kindT : List KindT := (List.range 22).map fun k => (wordL.getD k [], onL.getD k 0, hasL.getD k [])
def KW (w : World) : Prop := mm w 1 = flat kindV kindT ∧ 1 < sz w
theorem KW.fr {S : List Nat} {w w' : World} (h : KW w) (hf : Fr S w w') (hS : 1 ∉ S) : KW w' := ⟨by rw [hf.mm h.2 hS]; exact h.1, hf.lt h.2⟩
theorem KW.fr0 {w w' : World} (h : KW w) (hf : Fr [] w w') : KW w' := h.fr hf (by simp)
def kindF (k : Int) : KindT := if k ≤ 0 ∨ 22 ≤ k then ([], 0, []) else (wordF k, onF k, hasF k)
theorem kindV_one (t : KindT) : ∀ v ∈ kindV t, v.oneCell' = true := by
  intro v hv
  simp only [kindV, List.mem_cons, List.not_mem_nil, or_false] at hv
  rcases hv with rfl | rfl | rfl <;> first | exact oc_strB _ | rfl
theorem kindF_at {k : Int} (h1 : ¬ k ≤ 0) (h2 : ¬ 22 ≤ k) : kindT[k.toNat]? = some (kindF k) := by
  have h3 : k.toNat < 22 := by omega
  unfold kindT kindF
  rw [if_neg (by omega)]
  unfold wordF onF hasF
  rw [if_neg (by omega), if_neg (by omega), if_neg (by omega)]
  rw [List.getElem?_map, List.getElem?_range h3]
  rfl
theorem of_spec {w : World} {k : Int} (hw : KW w) : Ret P 46 #[i64 k] w fun v w' => v = .agg (kindV (kindF k)).toArray ∧ Fr [] w w' := by
  refine F46ok ?_
  unfold F46
  have hone : ∀ t, (∀ v, v ∈ kindV t → v.oneCell' = true) = True := fun t => by simpa using fun v hv => kindV_one t v hv
  have hz : kindV ([], 0, []) = [Value.string ByteArray.empty, i64 0, Value.string ByteArray.empty] := rfl
  by_cases h1 : k ≤ 0
  · have hk : kindF k = ([], 0, []) := by simp [kindF, h1]
    rw [hk, hz]
    try simp (maxDischargeDepth := 8) [↓sC, sB, sM, h1]
  by_cases h2 : 22 ≤ k
  · have hk : kindF k = ([], 0, []) := by simp [kindF, h2]
    rw [hk, hz]
    try simp (maxDischargeDepth := 8) [↓sC, sB, sM, h1, h2]
  have h3 : 0 ≤ k := by omega
  have h4 : k < 22 := by omega
  have hsz := hw.2
  have hne : ¬ 1 = sz w := by omega
  have hat := kindF_at h1 h2
  have hlen : (flat kindV kindT).length = 66 := by kernel_rfl
  have htk := flat_take_drop (f := kindV) (n := 3) (fun _ _ => rfl) hat
  have h5 : k.toNat * 3 + 3 ≤ 66 := by omega
  have hl3 : ∀ t, (kindV t).length = 3 := fun _ => rfl
  try simp (maxDischargeDepth := 8) [↓sC, sB, sM, h1, h2, h3, h4, hne, hw.1, hlen, htk, h5, hl3, hone]
  rfl

def FieldI (w0 w1 : World) (s : List UInt8) (c : UInt8) (b : Nat) (m : Nat) (e : Env) (w' : World) : Prop :=
  ∃ j : Nat, m = s.length - j ∧ j ≤ s.length ∧ (s.take j).contains c = false ∧ e 8 = i64 s.length ∧ e 9 = i64 j ∧ e 1 = bv c ∧ e 2 = pt b 0 ∧ w' = w1
theorem field_spec {w : World} {t : KindT} {c : UInt8} (hl : t.2.2.length ≤ 100) : Ret P 53 #[.agg (kindV t).toArray, bv c] w fun v w' => v = .bool (t.2.2.contains c) ∧ Fr [] w w' := by
  refine F53ok ?_
  unfold F53
  have hl3 : (kindV t).length = 3 := rfl
  have hg2 : gt (kindV t) 2 = strB t.2.2 := rfl
  have hlen : ∀ w, pBuiltin P .len #[9] 3 [strB t.2.2] w = some (i64 t.2.2.length, w) := fun w => len_strB und9
  obtain ⟨W, hW⟩ : ∃ W, W = nw w (kindV t) 97 := ⟨_, rfl⟩
  have fW : Fr [] w W := by rw [hW]; exact (Fr.refl [] w).nw _ _
  have hm : mm W (sz w) = kindV t := by rw [hW]; simp [mm_nw]
  try simp (maxDischargeDepth := 8) [↓sC, sB, sM, hl3, hg2, hlen, Value.cells, ← hW, hm]
  generalize t.2.2 = s at *
  refine loopE_of (FieldI w W s c (sz w)) s.length ⟨0, by omega, by omega, by simp, by simp [put_get], by simp [put_get], by simp [put_get, argE_get], by simp [put_get], rfl⟩ ?_
  rintro m e w2 ⟨j, rfl, hj, hc, e8, e9, e1, e2, rfl⟩
  unfold F53B0
  by_cases hjl : j < s.length
  · have hji : (j : Int) < s.length := by omega
    have hix : ∀ w, pIndex P 9 (strB s) (i64 j) w = some (bv (gb s j), w) := fun w => ix_strB und9 hjl
    have hwj : IntKind.i64.wrap ((j : Int) + 1) = ((j + 1 : Nat) : Int) := wrap64 (by omega) (by omega)
    have hmem : gb s j ∈ s := List.mem_of_getElem? (str_bound hjl)
    by_cases hx : gb s j = c
    · try simp (maxDischargeDepth := 8) [↓sC, sB, sM, e8, e9, e1, e2, hm, hl3, hg2, hjl, hji, hix, hx]
      refine ⟨?_, fW⟩
      rw [hx] at hmem
      simpa using hmem
    · try simp (maxDischargeDepth := 8) [↓sC, sB, sM, e8, e9, e1, e2, hm, hl3, hg2, hjl, hji, hix, byte_eq, hx, hwj, -Int.natCast_add]
      refine ⟨s.length - (j + 1), by omega, j + 1, rfl, by omega, ?_, by simp [put_get, e8], by simp [put_get], by simp [put_get, e1], by simp [put_get, e2], rfl⟩
      rw [take_gb hjl]
      simp at hc ⊢
      exact ⟨hc, fun h => hx h.symm⟩
  · have : j = s.length := by omega
    subst this
    rw [List.take_length] at hc
    try simp (maxDischargeDepth := 8) [↓sC, sB, sM, e8, e9, e1, e2]
    exact ⟨by simpa using hc, fW⟩
theorem most_spec {w : World} {t : KindT} : Ret P 48 #[.agg (kindV t).toArray] w fun v w' => v = i64 (if t.2.1 = 1 then 64 else 16) ∧ Fr [] w w' := by
  refine F48ok ?_
  unfold F48
  have hl3 : (kindV t).length = 3 := rfl
  have hg1 : gt (kindV t) 1 = i64 t.2.1 := rfl
  by_cases h : t.2.1 = 1
  · try simp (maxDischargeDepth := 8) [↓sC, sB, sM, hl3, hg1, Value.cells, h]
  · try simp (maxDischargeDepth := 8) [↓sC, sB, sM, hl3, hg1, Value.cells, h]

/-! ### Shapes of records -/
def shapeV (k : Int) : List Value := [.bool (decide (k = 1)), .bool (decide (k = 2 ∨ k = 3 ∨ k = 4)), .bool (decide (k = 4)), .bool (decide (k = 5 ∨ k = 6 ∨ k = 7)), .bool (decide (k = 8 ∨ k = 9))]
theorem shaped_spec {w : World} {k : Int} : Ret P 56 #[i64 k] w fun v w' => v = .agg (shapeV k).toArray ∧ Fr [] w w' := by
  refine F56ok ?_
  unfold F56
  unfold shapeV
  by_cases h1 : k = 1
  · subst h1; try simp (maxDischargeDepth := 8) [↓sC, sB, sM, splice]
  by_cases h2 : k = 2
  · subst h2; try simp (maxDischargeDepth := 8) [↓sC, sB, sM, splice]
  by_cases h3 : k = 3
  · subst h3; try simp (maxDischargeDepth := 8) [↓sC, sB, sM, splice]
  by_cases h4 : k = 4
  · subst h4; try simp (maxDischargeDepth := 8) [↓sC, sB, sM, splice]
  by_cases h5 : k = 5
  · subst h5; try simp (maxDischargeDepth := 8) [↓sC, sB, sM, splice]
  by_cases h6 : k = 6
  · subst h6; try simp (maxDischargeDepth := 8) [↓sC, sB, sM, splice]
  by_cases h7 : k = 7
  · subst h7; try simp (maxDischargeDepth := 8) [↓sC, sB, sM, splice]
  by_cases h8 : k = 8
  · subst h8; try simp (maxDischargeDepth := 8) [↓sC, sB, sM, splice]
  by_cases h9 : k = 9
  · subst h9; try simp (maxDischargeDepth := 8) [↓sC, sB, sM, splice]
  · try simp (maxDischargeDepth := 8) [↓sC, sB, sM, h1, h2, h3, h4, h5, h6, h7, h8, h9, splice]

/-! ### Items, one ahead of another -/
structure ItemP where
  score : Nat
  name : List UInt8
def itemV (x : ItemP) : List Value := [fl x.score, strB x.name]
theorem itemV_len : ∀ (L : List ItemP), ∀ p ∈ L, (itemV p).length = 2 := fun _ _ _ => rfl
theorem itemV_one (x : ItemP) : ∀ v ∈ itemV x, v.oneCell' = true := by
  intro v hv
  simp only [itemV, List.mem_cons, List.not_mem_nil, or_false] at hv
  rcases hv with rfl | rfl <;> first | exact oc_strB _ | rfl
theorem itemV_oneT (x : ItemP) : (∀ v, v ∈ itemV x → v.oneCell' = true) = True := by simpa using fun v hv => itemV_one x v hv
def okI (x : ItemP) : Prop := x.score < 2 * H63
def aheadB (a b : ItemP) : Bool := decide (key b.score < key a.score) || (decide (key a.score = key b.score) && Op.bytesLess a.name b.name)
theorem zero_spec {w : World} {a : Nat} (ha : a < 2 * H63) : Ret P 79 #[fl a] w fun v w' => v = .bool (decide (key a = key 0)) ∧ Fr [] w w' := by
  refine F79ok ?_
  unfold F79
  refine (refSame_spec ha (b := 0) (by unfold H63; omega)).call ?_
  rintro _ w1 ⟨rfl, f1⟩
  exact ⟨_, rfl, rfl, f1⟩
theorem refProper_spec {w : World} {a : Nat} (ha : a < 2 * H63) : Ret P 31 #[fl a] w fun v w' => v = .bool (decide (a = canon a)) ∧ Fr [] w w' := by
  refine F31ok ?_
  unfold F31
  refine none_spec.call ?_
  rintro _ w1 ⟨rfl, f1⟩
  cases h : isN a
  · have hc : a = canon a := by simp [canon, h]
    try simp (maxDischargeDepth := 8) [↓sC, sB, sM]
    exact ⟨by simpa using hc, f1⟩
  · have hN : ((a : Int) = 9221120237041090561) = (a = canon a) := by
      simp only [canon, h, if_true, NAN, eq_iff_iff]; omega
    try simp (maxDischargeDepth := 8) [↓sC, sB, sM, fbits, hN]
    exact f1
theorem ahead_spec {w : World} {a b : ItemP} (ha : okI a) (hb : okI b) : Ret P 80 #[.agg (itemV a).toArray, .agg (itemV b).toArray] w fun v w' => v = .bool (aheadB a b) ∧ Fr [] w w' := by
  refine F80ok ?_
  unfold F80
  have hl : ∀ a, (itemV a).length = 2 := fun _ => rfl
  have g0 : ∀ a, gt (itemV a) 0 = fl a.score := fun _ => rfl
  have g1 : ∀ a, gt (itemV a) 1 = strB a.name := fun _ => rfl
  have hlt : ∀ w, pBin P .lss 9 false (strB a.name) (strB b.name) w = some (.bool (Op.bytesLess a.name b.name), w) := fun w => lt_strB
  obtain ⟨W, hW⟩ : ∃ W, W = nw (nw w (itemV a) 80) (itemV b) 80 := ⟨_, rfl⟩
  have fW : Fr [] w W := by rw [hW]; exact ((Fr.refl [] w).nw _ _).nw _ _
  have hs : sz W = sz w + 2 := by rw [hW]; simp [sz_nw]
  have m1 : mm W (sz w) = itemV a := by rw [hW]; simp [mm_nw, sz_nw]
  have m2 : mm W (sz w + 1) = itemV b := by rw [hW]; simp [mm_nw, sz_nw]
  try simp (maxDischargeDepth := 8) [↓sC, sB, sM, Value.cells, hl, g0, g1, ← hW, m1, m2]
  refine (refLess_spec hb ha).call ?_
  rintro _ w1 ⟨rfl, f1⟩
  have n1 : mm w1 (sz w) = itemV a := by rw [f1.mm (by omega) (by simp), m1]
  have n2 : mm w1 (sz w + 1) = itemV b := by rw [f1.mm (by omega) (by simp), m2]
  have hs1 := f1.size
  by_cases hk : key b.score < key a.score
  · try simp (maxDischargeDepth := 8) [↓sC, sB, sM, hk]
    exact ⟨by simp [aheadB, hk], fW.trans0 f1⟩
  try simp (maxDischargeDepth := 8) [↓sC, sB, sM, hk, hl, g0, g1, n1, n2]
  refine (refSame_spec ha hb).call ?_
  rintro _ w2 ⟨rfl, f2⟩
  have p1 : mm w2 (sz w) = itemV a := by rw [f2.mm (by omega) (by simp), n1]
  have p2 : mm w2 (sz w + 1) = itemV b := by rw [f2.mm (by omega) (by simp), n2]
  by_cases hk2 : key a.score = key b.score
  · try simp (maxDischargeDepth := 8) [↓sC, sB, sM, hk2, hl, g0, g1, p1, p2, hlt]
    exact ⟨by simp [aheadB, hk, hk2], (fW.trans0 f1).trans0 f2⟩
  · try simp (maxDischargeDepth := 8) [↓sC, sB, sM, hk2, hl, g0, g1, p1, p2, hlt]
    exact ⟨by simp [aheadB, hk, hk2], (fW.trans0 f1).trans0 f2⟩
theorem better_spec {w : World} {a b : ItemP} (ha : okI a) (hb : okI b) : Ret P 77 #[.agg (itemV a).toArray, .agg (itemV b).toArray] w fun v w' => v = .bool (aheadB a b) ∧ Fr [] w w' := by
  refine F77ok ?_
  unfold F77
  have hl : ∀ a, (itemV a).length = 2 := fun _ => rfl
  have g0 : ∀ a, gt (itemV a) 0 = fl a.score := fun _ => rfl
  have g1 : ∀ a, gt (itemV a) 1 = strB a.name := fun _ => rfl
  have hlt : ∀ w, pBin P .lss 9 false (strB a.name) (strB b.name) w = some (.bool (Op.bytesLess a.name b.name), w) := fun w => lt_strB
  obtain ⟨W, hW⟩ : ∃ W, W = nw (nw w (itemV a) 80) (itemV b) 80 := ⟨_, rfl⟩
  have fW : Fr [] w W := by rw [hW]; exact ((Fr.refl [] w).nw _ _).nw _ _
  have hs : sz W = sz w + 2 := by rw [hW]; simp [sz_nw]
  have m1 : mm W (sz w) = itemV a := by rw [hW]; simp [mm_nw, sz_nw]
  have m2 : mm W (sz w + 1) = itemV b := by rw [hW]; simp [mm_nw, sz_nw]
  try simp (maxDischargeDepth := 8) [↓sC, sB, sM, Value.cells, hl, g0, g1, ← hW, m1, m2]
  refine (same_spec ha hb).call ?_
  rintro _ w1 ⟨rfl, f1⟩
  have n1 : mm w1 (sz w) = itemV a := by rw [f1.mm (by omega) (by simp), m1]
  have n2 : mm w1 (sz w + 1) = itemV b := by rw [f1.mm (by omega) (by simp), m2]
  have hs1 := f1.size
  by_cases hk2 : key a.score = key b.score
  · try simp (maxDischargeDepth := 8) [↓sC, sB, sM, hk2, hl, g0, g1, n1, n2, hlt]
    exact ⟨by simp [aheadB, hk2], fW.trans0 f1⟩
  · try simp (maxDischargeDepth := 8) [↓sC, sB, sM, hk2, hl, g0, g1, n1, n2, hlt]
    refine (less_spec hb ha).call ?_
    rintro _ w2 ⟨rfl, f2⟩
    try simp (maxDischargeDepth := 8) [↓sC, sB, sM]
    exact ⟨by simp [aheadB, hk2], (fW.trans0 f1).trans0 f2⟩
end Go.Proofs.YtieejbkbdfccdaaDoor
