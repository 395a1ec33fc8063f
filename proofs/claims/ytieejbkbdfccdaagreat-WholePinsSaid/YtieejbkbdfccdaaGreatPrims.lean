/- Each small operation of the walker, in terms of the memory's cells. -/
import Derived.Test.YtieejbkbdfccdaaGreatMem
set_option linter.unusedVariables false
set_option linter.unusedSimpArgs false
namespace Go.Proofs.YtieejbkbdfccdaaGreat
open Go
section
variable {P : Program} {t : TypeId} {w : World} {b i : Nat}
def isAggB (P : Program) (t : TypeId) : Bool := match P.underlying t with | some (.struct _) => true | some (.array _ _) => true | _ => false
def tyOk (P : Program) (t : TypeId) : Bool := (P.info? t).isSome && (P.underlying t).isSome
def zeroL (P : Program) (t : TypeId) : List Value := match (P.info? t).bind (·.zero) with | some z => z.cells.toList | none => []
def hasZero (P : Program) (t : TypeId) : Bool := ((P.info? t).bind (·.zero)).isSome
theorem tyOk_info (h : tyOk P t = true) : ∃ i, P.info? t = some i := by
  simp only [tyOk, Bool.and_eq_true] at h; exact Option.isSome_iff_exists.1 h.1
theorem tyOk_und (h : tyOk P t = true) : ∃ d, P.underlying t = some d := by
  simp only [tyOk, Bool.and_eq_true] at h; exact Option.isSome_iff_exists.1 h.2
theorem run_isAgg (ht : tyOk P t = true) (w : World) : (isAgg t).run P w = .ok (isAggB P t) w := by
  obtain ⟨d, hd⟩ := tyOk_und ht
  unfold isAgg isAggB
  simp only [Sem.run_bind, run_underlying hd, Result.andThen_ok, hd]
  cases d <;> rfl
theorem run_size (ht : tyOk P t = true) (w : World) : (sizeOf t).run P w = .ok (P.cellsOf t) w := by
  obtain ⟨i, hi⟩ := tyOk_info ht
  exact run_sizeOf w hi
theorem run_zeroV (h : hasZero P t = true) (w : World) : ∃ z, (zeroValue t).run P w = .ok z w ∧ z.cells.toList = zeroL P t := by
  unfold hasZero at h
  obtain ⟨z, hz⟩ := Option.isSome_iff_exists.1 h
  cases hi : P.info? t with
  | none => simp [hi] at hz
  | some i =>
    simp only [hi, Option.bind_some] at hz
    refine ⟨z, ?_, by simp [zeroL, hi, hz]⟩
    simp [zeroValue, run_typeInfo w hi, hz]
theorem noRfl {α : Type} {a b : α} (h : a = b) : a = b := h
def gt (l : List Value) (i : Nat) : Value := l.getD i undef
theorem gt_zero (a : Value) (l : List Value) : gt (a :: l) 0 = a := noRfl rfl
theorem gt_succ (a : Value) (l : List Value) (i : Nat) : gt (a :: l) (i + 1) = gt l i := noRfl rfl
theorem gt_set {l : List Value} {i : Nat} (h : i < l.length) (v : Value) (j : Nat) : gt (l.set i v) j = if j = i then v else gt l j := by
  unfold gt
  simp only [List.getD_eq_getElem?_getD, List.getElem?_set]
  by_cases hj : i = j
  · subst hj; simp [h]
  · have : ¬ j = i := fun e => hj e.symm
    simp [hj, this]
theorem run_loads (n : Nat) (h : i + n ≤ (mm w b).length) : (loadCells ⟨b, i, none⟩ n).run P w = .ok (((mm w b).drop i).take n).toArray w := by
  have hl : (((mm w b).drop i).take n).length = n := by simp; omega
  have := run_loadCells_list (P := P) w ⟨b, i, none⟩ (((mm w b).drop i).take n) (fun j v hj => by
    have hj' : j < n := by have := (List.getElem?_eq_some_iff.1 hj).1; omega
    rw [Addr.add_lit, cell_mm]
    rw [List.getElem?_take, if_pos hj', List.getElem?_drop] at hj
    exact hj)
  rwa [hl] at this
def splice (l : List Value) (i : Nat) (vs : List Value) : List Value := l.take i ++ vs ++ l.drop (i + vs.length)
theorem splice_length {l : List Value} {i : Nat} {vs : List Value} (h : i + vs.length ≤ l.length) : (splice l i vs).length = l.length := by
  simp [splice]; omega
theorem splice_full {l vs : List Value} (h : l.length = vs.length) : splice l 0 vs = vs := by
  simp [splice, h]
theorem splice_one {l : List Value} {i : Nat} (v : Value) (h : i < l.length) : splice l i [v] = l.set i v := by
  rw [List.set_eq_take_append_cons_drop]
  simp [splice, h]
theorem run_stores (vs : List Value) (hf : fz w b = false) (h : i + vs.length ≤ (mm w b).length) (h1 : ∀ v ∈ vs, v.oneCell' = true) :
    (storeCells ⟨b, i, none⟩ vs).run P w = .ok () (wr w b (splice (mm w b) i vs)) := by
  obtain ⟨e, he⟩ := heap_of_fz hf
  have := run_storeCells_at P b i e vs 0 (mm w b).toArray w he (by simpa using h) h1
  simpa [splice, wr] using this
theorem pLoad_scal (ht : tyOk P t = true) (ha : isAggB P t = false) (hi : i < (mm w b).length) :
    pLoad P t (pt b i) w = some (gt (mm w b) i, w) := by
  have hc : w.cell? ⟨b, i, none⟩ = some (gt (mm w b) i) := by rw [cell_mm]; simp [gt, hi]
  simp only [pLoad, runV, Instr.loadAt, Instr.sureAddr, Sem.run_bind, Sem.run_pure, Result.andThen_ok, loadVar, run_isAgg ht, ha, Bool.false_eq_true, if_false, run_load, hc]
theorem pLoad_agg (ht : tyOk P t = true) (ha : isAggB P t = true) (hi : i + P.cellsOf t ≤ (mm w b).length) :
    pLoad P t (pt b i) w = some (.agg (((mm w b).drop i).take (P.cellsOf t)).toArray, w) := by
  simp only [pLoad, runV, Instr.loadAt, Instr.sureAddr, Sem.run_bind, Sem.run_pure, Result.andThen_ok, loadVar, run_isAgg ht, ha, if_true, run_size ht, run_loads _ hi]
theorem pStore_one {v : Value} (ht : tyOk P t = true) (hs : P.cellsOf t = 1) (hv : v.oneCell' = true) (hf : fz w b = false) (hi : i < (mm w b).length) :
    pStore P t (pt b i) v w = some (wr w b ((mm w b).set i v)) := by
  have hc : v.cells = #[v] := by cases v <;> first | rfl | simp [Value.oneCell'] at hv
  have hst := run_stores (P := P) (i := i) [v] hf (by simp; omega) (by simpa using hv)
  simp only [pStore, runU, Instr.storeAt, Instr.sureAddr, Sem.run_bind, Sem.run_pure, Result.andThen_ok, storeVar, run_size ht, hs, hc]
  simp only [List.size_toArray, List.length_cons, List.length_nil, Nat.zero_add, ne_eq, not_true_eq_false, if_false, Sem.run_bind, Sem.run_pure, Result.andThen_ok, hst, splice_one v hi]
theorem pStore_agg {x : Array Value} (ht : tyOk P t = true) (hs : P.cellsOf t = x.size) (hv : ∀ v ∈ x.toList, v.oneCell' = true) (hf : fz w b = false) (hi : i + x.size ≤ (mm w b).length) :
    pStore P t (pt b i) (.agg x) w = some (wr w b (splice (mm w b) i x.toList)) := by
  have hst := run_stores (P := P) (i := i) x.toList hf (by simpa using hi) hv
  simp only [pStore, runU, Instr.storeAt, Instr.sureAddr, Sem.run_bind, Sem.run_pure, Result.andThen_ok, storeVar, run_size ht, hs, Value.cells, ne_eq, not_true_eq_false, if_false, hst]
theorem pAlloc_eq (h : hasZero P t = true) : pAlloc P t w = some (pt (sz w) 0, nw w (zeroL P t) t) := by
  obtain ⟨z, hz, hc⟩ := run_zeroV h w
  simp only [pAlloc, runV, Instr.alloc, Sem.run_bind, hz, Result.andThen_ok, newVar, newRow, run_newObj, Sem.run_pure, ← hc, nw, sz]
theorem pBox_eq (v : Value) : pBox P t v w = some (pt (sz w) 0, nw w v.cells.toList t) := by
  simp only [pBox, runV, Instr.box, newVar, newRow, Sem.run_bind, run_newObj, Sem.run_pure, Result.andThen_ok, nw, sz]
def fieldB (P : Program) (s : TypeId) (f : Nat) : Option (Nat × TypeId) :=
  match P.underlying s with | some (.struct fs) => (fs[f]?).map fun x => (x.offset, x.type) | _ => none
theorem pFieldAddr_eq {f o : Nat} {u : TypeId} (hf : fieldB P t f = some (o, u)) (hu : tyOk P u = true) (hs : (P.cellsOf u == 0) = false) :
    pFieldAddr P t (pt b i) f w = some (pt b (i + o), w) := by
  unfold fieldB at hf
  cases hd : P.underlying t with
  | none => simp [hd] at hf
  | some d =>
    cases d <;> simp [hd] at hf
    rename_i fs
    obtain ⟨x, hx, rfl, rfl⟩ := hf
    have hs' : P.cellsOf x.type ≠ 0 := by simpa using hs
    simp only [pFieldAddr, runV, Instr.fieldAt, Sem.run_bind, run_underlying hd, Result.andThen_ok, hx, Instr.sureAddr, Sem.run_pure, fieldPlace, run_size hu, if_neg hs', Addr.add_lit]
def sliceE (P : Program) (t : TypeId) : Option TypeId := match P.underlying t with | some (.slice e) => some e | _ => none
def arrE (P : Program) (t : TypeId) : Option (Nat × TypeId) := match P.underlying t with | some (.array n e) => some (n, e) | _ => none
theorem sliceE_und {e : TypeId} (h : sliceE P t = some e) : P.underlying t = some (.slice e) := by
  unfold sliceE at h
  cases hd : P.underlying t with
  | none => simp [hd] at h
  | some d => cases d <;> simp [hd] at h; rw [h]
theorem arrE_und {n e : Nat} (h : arrE P t = some (n, e)) : P.underlying t = some (.array n e) := by
  unfold arrE at h
  cases hd : P.underlying t with
  | none => simp [hd] at h
  | some d => cases d <;> simp [hd] at h; rw [h.1, h.2]
theorem pIndexAddr_slice {e : TypeId} {o n c : Nat} {k : IntKind} {j : Int} (hs : sliceE P t = some e) (he : tyOk P e = true) (h0 : 0 ≤ j) (h1 : j < n) :
    pIndexAddr P t (sl b o n c) (.int k j) w = some (pt b (o + j.toNat * P.cellsOf e), w) := by
  have hu := sliceE_und hs
  have hcond : 0 ≤ j ∧ j < (n : Int) := ⟨h0, h1⟩
  simp only [pIndexAddr, runV, Instr.indexAt, asIntOf, Sem.run_bind, Sem.run_pure, Result.andThen_ok, run_underlying hu]
  rw [if_pos hcond]
  simp only [Sem.run_bind, Sem.run_pure, Result.andThen_ok, run_size he, Addr.add_lit]
theorem pIndexAddr_arr {e : TypeId} {o n : Nat} {k : IntKind} {j : Int} (hs : arrE P t = some (n, e)) (he : tyOk P e = true) (h0 : 0 ≤ j) (h1 : j < n) :
    pIndexAddr P t (pt b o) (.int k j) w = some (pt b (o + j.toNat * P.cellsOf e), w) := by
  have hu := arrE_und hs
  have hcond : 0 ≤ j ∧ j < (n : Int) := ⟨h0, h1⟩
  simp only [pIndexAddr, runV, Instr.indexAt, asIntOf, Sem.run_bind, Sem.run_pure, Result.andThen_ok, run_underlying hu, Instr.sureAddr]
  rw [if_pos hcond]
  simp only [Sem.run_bind, Sem.run_pure, Result.andThen_ok, run_size he, Addr.add_lit]
/-! ### Slices of slices -/
theorem run_bound {v : Int} {k : IntKind} {y : Nat} {c : BoundsCode} (h0 : 0 ≤ v) (h1 : v ≤ y) : (Instr.sliceBound (.int k v) y c).run P w = .ok v.toNat w := by
  simp only [Instr.sliceBound, asIntOf, Sem.run_bind, Sem.run_pure, Result.andThen_ok, if_pos (And.intro h0 h1)]
def bLo : Option Value → Int
  | some (.int _ v) => v
  | _ => 0
def bHi (n : Nat) : Option Value → Int
  | some (.int _ v) => v
  | _ => n
def isB : Option Value → Bool
  | none => true
  | some (.int _ _) => true
  | _ => false
theorem run_bounds {lo hi : Option Value} {s : Bool} {n c : Nat} (hlo : isB lo = true) (hhi : isB hi = true) (h0 : 0 ≤ bLo lo) (h1 : bLo lo ≤ bHi n hi) (h2 : bHi n hi ≤ c) (hnc : n ≤ c) :
    (Instr.sliceBounds s n c lo hi none).run P w = .ok ((bLo lo).toNat, (bHi n hi).toNat, c) w := by
  unfold Instr.sliceBounds
  cases lo with
  | none =>
    cases hi with
    | none => simp [bLo, bHi]
    | some v =>
      cases v <;> simp [isB] at hhi
      simp only [bLo, bHi] at h1 h2 ⊢
      have := run_bound (P := P) (w := w) (k := ‹_›) (c := if s then .sliceAcap else .sliceAlen) h1 h2
      simp [this]
  | some u =>
    cases u <;> simp [isB] at hlo
    rename_i k a
    cases hi with
    | none =>
      simp only [bLo, bHi] at h0 h1 ⊢
      have := run_bound (P := P) (w := w) (k := k) (c := .sliceB) h0 h1
      simp [this]
    | some v =>
      cases v <;> simp [isB] at hhi
      rename_i k' v
      simp only [bLo, bHi] at h0 h1 h2 ⊢
      have h3 := run_bound (P := P) (w := w) (k := k') (c := if s then .sliceAcap else .sliceAlen) (Int.le_trans h0 h1) h2
      have h4 := run_bound (P := P) (w := w) (k := k) (y := v.toNat) (c := .sliceB) h0 (by omega)
      simp [h3, h4]
theorem pSlice_slice {e : TypeId} {o n c : Nat} {lo hi : Option Value} (hs : sliceE P t = some e) (he : tyOk P e = true) (hlo : isB lo = true) (hhi : isB hi = true)
    (h0 : 0 ≤ bLo lo) (h1 : bLo lo ≤ bHi n hi) (h2 : bHi n hi ≤ c) (hnc : n ≤ c) :
    pSlice P t (sl b o n c) lo hi none w = some (.slice (some ⟨b, if c = (bLo lo).toNat then o else o + (bLo lo).toNat * P.cellsOf e, none⟩) ((bHi n hi).toNat - (bLo lo).toNat) (c - (bLo lo).toNat), w) := by
  have hu := sliceE_und hs
  simp only [pSlice, runV, Instr.sliceAt, Sem.run_bind, run_underlying hu, Result.andThen_ok, Instr.slice, run_bounds hlo hhi h0 h1 h2 hnc, run_size he, Sem.run_pure, Option.map_some]
  split <;> simp_all [Addr.add_lit]
theorem pSlice_arr {e : TypeId} {o n : Nat} {lo hi : Option Value} (hs : arrE P t = some (n, e)) (he : tyOk P e = true) (hlo : isB lo = true) (hhi : isB hi = true)
    (h0 : 0 ≤ bLo lo) (h1 : bLo lo ≤ bHi n hi) (h2 : bHi n hi ≤ n) :
    pSlice P t (pt b o) lo hi none w = some (.slice (some ⟨b, if n = (bLo lo).toNat then o else o + (bLo lo).toNat * P.cellsOf e, none⟩) ((bHi n hi).toNat - (bLo lo).toNat) (n - (bLo lo).toNat), w) := by
  have hu := arrE_und hs
  simp only [pSlice, runV, Instr.sliceAt, Sem.run_bind, run_underlying hu, Result.andThen_ok, Instr.sureAddr, run_bounds hlo hhi h0 h1 h2 (Nat.le_refl n), run_size he, Sem.run_pure]
  split <;> simp_all [Addr.add_lit]
/-! ### Numbers and truth values -/
theorem pBin_int {op : BinOp} {lit : Bool} {k : IntKind} {x y : Int} {v : Value} (h : (binOp op t (.int k x) (.int k y)).run P w = .ok v w) :
    pBin P op t lit (.int k x) (.int k y) w = some (v, w) := by
  simp only [pBin, runV, eqGuard_at_int, Sem.run_bind, Sem.run_pure, Result.andThen_ok, h]
variable {lit : Bool} {k : IntKind} {x y : Int}
theorem pBin_add : pBin P .add t lit (.int k x) (.int k y) w = some (.int k (k.wrap (x + y)), w) := pBin_int (by simp [binOp, Op.intArith])
theorem pBin_sub : pBin P .sub t lit (.int k x) (.int k y) w = some (.int k (k.wrap (x - y)), w) := pBin_int (by simp [binOp, Op.intArith])
theorem pBin_mul : pBin P .mul t lit (.int k x) (.int k y) w = some (.int k (k.wrap (x * y)), w) := pBin_int (by simp [binOp, Op.intArith])
theorem pBin_eql : pBin P .eql t lit (.int k x) (.int k y) w = some (.bool (decide (x = y)), w) := pBin_int (by simp [binOp, Op.intCmp]; rfl)
theorem pBin_neq : pBin P .neq t lit (.int k x) (.int k y) w = some (.bool (decide (x ≠ y)), w) := pBin_int (by simp [binOp, Op.intCmp]; rfl)
theorem pBin_lss : pBin P .lss t lit (.int k x) (.int k y) w = some (.bool (decide (x < y)), w) := pBin_int (by simp [binOp, Op.intCmp])
theorem pBin_leq : pBin P .leq t lit (.int k x) (.int k y) w = some (.bool (decide (x ≤ y)), w) := pBin_int (by simp [binOp, Op.intCmp])
theorem pBin_gtr : pBin P .gtr t lit (.int k x) (.int k y) w = some (.bool (decide (y < x)), w) := pBin_int (by simp [binOp, Op.intCmp])
theorem pBin_geq : pBin P .geq t lit (.int k x) (.int k y) w = some (.bool (decide (y ≤ x)), w) := pBin_int (by simp [binOp, Op.intCmp])
theorem pBin_quo (h : y ≠ 0) : pBin P .quo t lit (.int k x) (.int k y) w = some (.int k (k.wrap (x.tdiv y)), w) := pBin_int (by simp [binOp, Op.intDiv, h])
theorem pBin_rem (h : y ≠ 0) : pBin P .rem t lit (.int k x) (.int k y) w = some (.int k (x.tmod y), w) := pBin_int (by simp [binOp, Op.intDiv, h])
theorem pBin_shl {k' : IntKind} (h : 0 ≤ y) : pBin P .shl t lit (.int k x) (.int k' y) w = some (.int k (k.wrap (x * 2 ^ (min y.toNat k.bits))), w) := by
  have : ¬ y < 0 := by omega
  simp only [pBin, runV, eqGuard_at_int, Sem.run_bind, Sem.run_pure, Result.andThen_ok]
  simp [binOp, Op.shift, this]
theorem pBin_shr {k' : IntKind} (h : 0 ≤ y) : pBin P .shr t lit (.int k x) (.int k' y) w = some (.int k (x.fdiv (2 ^ (min y.toNat k.bits))), w) := by
  have : ¬ y < 0 := by omega
  simp only [pBin, runV, eqGuard_at_int, Sem.run_bind, Sem.run_pure, Result.andThen_ok]
  simp [binOp, Op.shift, this]
theorem pBin_bits {op : BinOp} {v : Value} (h : (Op.intBits op k x y).run P w = .ok v w) (ho : op = .and ∨ op = .or ∨ op = .xor ∨ op = .andNot) :
    pBin P op t lit (.int k x) (.int k y) w = some (v, w) := pBin_int (by rcases ho with rfl | rfl | rfl | rfl <;> simpa [binOp] using h)
theorem pUn_not {p : Bool} : pUn P .not (.bool p) w = some (.bool (!p), w) := by simp [pUn, runV, Op.unary]
theorem pUn_neg : pUn P .neg (.int k x) w = some (.int k (k.wrap (0 - x)), w) := by simp [pUn, runV, Op.unary, Op.intArith]
theorem eqB {a c : Bool} (hu : P.underlying t = some .bool) : pBin P .eql t lit (.bool a) (.bool c) w = some (.bool (a == c), w) := by
  simp only [pBin, runV, eqGuard_at_bool, Sem.run_bind, Sem.run_pure, Result.andThen_ok]
  simp [binOp, run_equal_bool w t a c hu]
theorem neB {a c : Bool} (hu : P.underlying t = some .bool) : pBin P .neq t lit (.bool a) (.bool c) w = some (.bool (a != c), w) := by
  simp only [pBin, runV, eqGuard_at_bool, Sem.run_bind, Sem.run_pure, Result.andThen_ok]
  simp [binOp, run_equal_bool w t a c hu]
  cases a <;> cases c <;> rfl
theorem eqS {a c : ByteArray} : pBin P .eql t lit (.string a) (.string c) w = some (.bool (a == c), w) := by
  simp only [pBin, runV, eqGuard_at_string, Sem.run_bind, Sem.run_pure, Result.andThen_ok]
  simp [binOp, Op.stringOp, beq_toListBytes]
theorem neS {a c : ByteArray} : pBin P .neq t lit (.string a) (.string c) w = some (.bool (a != c), w) := by
  simp only [pBin, runV, eqGuard_at_string, Sem.run_bind, Sem.run_pure, Result.andThen_ok]
  simp [binOp, Op.stringOp, beq_toListBytes, bne]
def intK (P : Program) (t : TypeId) : Option IntKind := match P.underlying t with | some (.int k) => some k | _ => none
theorem intK_und {k : IntKind} (h : intK P t = some k) : P.underlying t = some (.int k) := by
  unfold intK at h
  cases hd : P.underlying t with
  | none => simp [hd] at h
  | some d => cases d <;> simp [hd] at h; rw [h]
theorem pConv_int {s d : TypeId} {k k' : IntKind} {x : Int} (hs : tyOk P s = true) (hd : intK P d = some k') : pConv P s d (.int k x) w = some (.int k' (k'.wrap x), w) := by
  obtain ⟨u, hu⟩ := tyOk_und hs
  have hd' := intK_und hd
  simp only [pConv, runV, convert, Sem.run_bind, run_underlying hu, run_underlying hd', Result.andThen_ok]
  simp [Conv.intToInt]
theorem pExtract0 {a : Value} {l : List Value} : pExtract P (.tuple (List.toArray (a :: l))) 0 w = some (a, w) := by simp [pExtract, runV, Instr.extract]
theorem pExtract1 {a c : Value} {l : List Value} : pExtract P (.tuple (List.toArray (a :: c :: l))) 1 w = some (c, w) := by simp [pExtract, runV, Instr.extract]
theorem pExtract2 {a c d : Value} {l : List Value} : pExtract P (.tuple (List.toArray (a :: c :: d :: l))) 2 w = some (d, w) := by simp [pExtract, runV, Instr.extract]
theorem len_slice {ty e : TypeId} {a : Option Addr} {n c : Nat} (hs : sliceE P t = some e) : pBuiltin P .len #[t] ty [.slice a n c] w = some (i64 n, w) := by
  have hu := sliceE_und hs
  simp [pBuiltin, runV, Builtin.len_, run_underlying hu, goInt]
theorem len_string {ty : TypeId} {s : ByteArray} (hu : P.underlying t = some .string) : pBuiltin P .len #[t] ty [.string s] w = some (i64 s.size, w) := by
  simp [pBuiltin, runV, Builtin.len_, run_underlying hu, goInt]
theorem max_int {ts : Array TypeId} {ty : TypeId} {k' : IntKind} : pBuiltin P .max ts ty [.int k x, .int k' y] w = some (.int k (max x y), w) := by
  have : (if y > x then y else x) = max x y := by split <;> omega
  simp [pBuiltin, runV, Builtin.max_, Builtin.max2, ← this]
theorem min_int {ts : Array TypeId} {ty : TypeId} {k' : IntKind} : pBuiltin P .min ts ty [.int k x, .int k' y] w = some (.int k (min x y), w) := by
  have : (if y < x then y else x) = min x y := by split <;> omega
  simp [pBuiltin, runV, Builtin.min_, Builtin.min2, ← this]
end
end Go.Proofs.YtieejbkbdfccdaaGreat
