/- Bytes, literals, comparisons of arrays, copies and appends, in terms of the memory's cells. -/
import Derived.Test.YtieejbkbdfccdaaGreatPrims
import Derived.Laws.BytesArg
import Derived.Laws.Pointers
import Derived.Laws.IdiomStrings
set_option linter.unusedVariables false
set_option linter.unusedSimpArgs false
namespace Go.Proofs.YtieejbkbdfccdaaGreat
open Go
abbrev bv (b : UInt8) : Value := .int .u8 (b.toNat : Int)
def bs (l : List UInt8) : List Value := l.map bv
/-- So many bytes that are nought. -/
def zb (n : Nat) : List UInt8 := List.replicate n 0
abbrev sec (l : List UInt8) : Value := .agg (bs l).toArray
@[simp] theorem bs_length (l : List UInt8) : (bs l).length = l.length := by simp [bs]
@[simp] theorem bv_one (b : UInt8) : (bv b).oneCell' = true := noRfl rfl
theorem bs_one {l : List UInt8} : ∀ v ∈ bs l, v.oneCell' = true := by
  intro v hv; obtain ⟨b, _, rfl⟩ := List.mem_map.1 hv; rfl
@[simp] theorem oc_int (k : IntKind) (n : Int) : (Value.int k n).oneCell' = true := noRfl rfl
@[simp] theorem oc_bool (b : Bool) : (Value.bool b).oneCell' = true := noRfl rfl
@[simp] theorem oc_float (k : FloatKind) (n : Nat) : (Value.float k n).oneCell' = true := noRfl rfl
@[simp] theorem oc_string (s : ByteArray) : (Value.string s).oneCell' = true := noRfl rfl
@[simp] theorem oc_pointer (a : Option Addr) : (Value.pointer a).oneCell' = true := noRfl rfl
@[simp] theorem oc_slice (a : Option Addr) (n c : Nat) : (Value.slice a n c).oneCell' = true := noRfl rfl
@[simp] theorem oc_iface (t : TypeId) (v : Value) : (Value.iface t v).oneCell' = true := noRfl rfl
@[simp] theorem oc_nilIface : Value.nilIface.oneCell' = true := noRfl rfl
@[simp] theorem cs_int (k : IntKind) (n : Int) : (Value.int k n).cells = #[Value.int k n] := noRfl rfl
@[simp] theorem cs_bool (b : Bool) : (Value.bool b).cells = #[Value.bool b] := noRfl rfl
@[simp] theorem cs_float (k : FloatKind) (n : Nat) : (Value.float k n).cells = #[Value.float k n] := noRfl rfl
@[simp] theorem cs_string (s : ByteArray) : (Value.string s).cells = #[Value.string s] := noRfl rfl
@[simp] theorem cs_pointer (a : Option Addr) : (Value.pointer a).cells = #[Value.pointer a] := noRfl rfl
@[simp] theorem cs_slice (a : Option Addr) (n c : Nat) : (Value.slice a n c).cells = #[Value.slice a n c] := noRfl rfl
@[simp] theorem cs_agg (a : Array Value) : (Value.agg a).cells = a := noRfl rfl
theorem bs_oneT (l : List UInt8) : (∀ v, v ∈ bs l → v.oneCell' = true) = True := by simpa using fun v hv => bs_one v hv
theorem bs_inj {a b : List UInt8} : bs a = bs b ↔ a = b := by
  constructor
  · intro h
    induction a generalizing b with
    | nil => cases b with
      | nil => rfl
      | cons y b => simp [bs] at h
    | cons x a ih => cases b with
      | nil => simp [bs] at h
      | cons y b =>
        simp only [bs, List.map_cons, List.cons.injEq, bv, Value.int.injEq, true_and, Int.natCast_inj] at h
        rw [UInt8.toNat_inj.1 h.1, ih h.2]
  · rintro rfl; rfl
theorem bs_append (a b : List UInt8) : bs (a ++ b) = bs a ++ bs b := by simp [bs]
theorem bs_take (a : List UInt8) (n : Nat) : (bs a).take n = bs (a.take n) := by simp [bs]
theorem bs_drop (a : List UInt8) (n : Nat) : (bs a).drop n = bs (a.drop n) := by simp [bs]
theorem bs_set (a : List UInt8) (n : Nat) (x : UInt8) : (bs a).set n (bv x) = bs (a.set n x) := by simp [bs, List.map_set]
def gb (l : List UInt8) (i : Nat) : UInt8 := l.getD i 0
theorem gt_bs {a : List UInt8} {n : Nat} (h : n < a.length) : gt (bs a) n = bv (gb a n) := by
  simp [bs, h, gt, gb]
theorem gb_zb (n i : Nat) : gb (zb n) i = 0 := by
  simp only [gb, zb, List.getD_eq_getElem?_getD, List.getElem?_replicate]
  split <;> rfl
section
variable {P : Program} {t : TypeId} {w : World} {b i : Nat}
theorem fold_splice (vs : List Value) : ∀ (off k : Nat) (cells : Array Value), off + k + vs.length ≤ cells.size →
    ((vs.zipIdx k).foldl (fun cs (x : Value × Nat) => cs.setIfInBounds (off + x.2) x.1) cells).toList = splice cells.toList (off + k) vs := by
  induction vs with
  | nil => intro off k cells _; simp [splice]
  | cons v r ih =>
    intro off k cells h
    simp only [List.length_cons] at h
    simp only [List.zipIdx_cons, List.foldl_cons]
    rw [ih off (k + 1) _ (by simp; omega)]
    simp only [Array.toList_setIfInBounds]
    have hlt : off + k < cells.toList.length := by simp; omega
    apply List.ext_getElem?
    intro j
    simp only [splice, List.length_cons, List.getElem?_append, List.length_append, List.length_take, List.length_set, List.getElem?_take, List.getElem?_drop, List.getElem?_set, List.getElem?_cons]
    grind
def offP (P : Program) (t : TypeId) (i : Nat) : Nat :=
  match P.underlying t with
  | some (.struct fs) => ((fs[i]?).map (·.offset)).getD 0
  | some (.array _ e) => i * P.cellsOf e
  | _ => 0
def partOk (P : Program) (t : TypeId) (n : Nat) (p : Nat × Value) : Prop :=
  match P.underlying t with
  | some (.struct fs) => ∃ f, fs[p.1]? = some f ∧ p.2.cells.size = P.cellsOf f.type ∧ f.offset + P.cellsOf f.type ≤ n
  | some (.array _ e) => p.2.cells.size = P.cellsOf e ∧ p.1 * P.cellsOf e + P.cellsOf e ≤ n
  | _ => False
theorem fill_eq (place : Nat → Option (Nat × Nat)) (off : Nat → Nat) : ∀ (ps : List (Nat × Value)) (cells : Array Value),
    (∀ p ∈ ps, place p.1 = some (off p.1, p.2.cells.size) ∧ off p.1 + p.2.cells.size ≤ cells.size) →
    ∃ r : Array Value, Instr.fill place cells ps = some r ∧ r.toList = ps.foldl (fun l p => splice l (off p.1) p.2.cells.toList) cells.toList := by
  intro ps
  induction ps with
  | nil => intro cells _; exact ⟨cells, rfl, rfl⟩
  | cons p r ih =>
    intro cells h
    obtain ⟨i, v⟩ := p
    obtain ⟨hp, hs⟩ := h _ List.mem_cons_self
    simp only at hp hs
    have hz : (v.cells.zipIdx.foldl (fun cs (x : Value × Nat) => cs.setIfInBounds (off i + x.2) x.1) cells).toList = splice cells.toList (off i) v.cells.toList := by
      rw [← Array.foldl_toList, Array.toList_zipIdx]
      exact fold_splice v.cells.toList (off i) 0 cells (by simpa using hs)
    obtain ⟨c2, hc2⟩ : ∃ c2, c2 = v.cells.zipIdx.foldl (fun cs (x : Value × Nat) => cs.setIfInBounds (off i + x.2) x.1) cells := ⟨_, rfl⟩
    rw [← hc2] at hz
    have hsz : c2.size = cells.size := by
      have := congrArg List.length hz
      rw [splice_length (by simpa using hs)] at this
      simpa using this
    obtain ⟨res, hr, hl⟩ := ih c2 (fun q hq => by
      have := h q (List.mem_cons_of_mem _ hq)
      rw [hsz]; exact this)
    refine ⟨res, ?_, by rw [hl, hz]; rfl⟩
    unfold Instr.fill
    simp only [hp]
    rw [if_neg (by simp; omega)]
    have heq : (v.cells.zipIdx.foldl (fun cs x => match x with | (c, j) => cs.setIfInBounds (off i + j) c) cells) = c2 := by
      rw [hc2]
    rw [← hr, ← heq]
theorem pBuild_eq {ps : List (Nat × Value)} (hz : hasZero P t = true) (hp : ∀ p ∈ ps, partOk P t (zeroL P t).length p) (hty : isAggB P t = true)
    (hf : ∀ fs, P.underlying t = some (.struct fs) → ∀ f ∈ fs, tyOk P f.type = true) (he : ∀ n e, P.underlying t = some (.array n e) → tyOk P e = true) :
    pBuild P t ps w = some (.agg (ps.foldl (fun l p => splice l (offP P t p.1) p.2.cells.toList) (zeroL P t)).toArray, w) := by
  obtain ⟨z, hzr, hzl⟩ := run_zeroV hz w
  have hzs : z.cells.size = (zeroL P t).length := by rw [← hzl]; simp
  unfold isAggB at hty
  cases hd : P.underlying t with
  | none => simp [hd] at hty
  | some d =>
    cases d <;> simp [hd] at hty
    case struct fs =>
      have hmap : ∀ (l : List Field), (∀ f ∈ l, tyOk P f.type = true) → (l.mapM (fun f => do pure (f.offset, ← sizeOf f.type)) : Sem (List (Nat × Nat))).run P w = .ok (l.map fun f => (f.offset, P.cellsOf f.type)) w := by
        intro l
        induction l with
        | nil => intro _; simp
        | cons f r ih =>
          intro hl
          simp only [List.mapM_cons, Sem.run_bind, run_size (hl f List.mem_cons_self), Result.andThen_ok, Sem.run_pure, ih fun g hg => hl g (List.mem_cons_of_mem _ hg), List.map_cons]
      have hm := hmap fs.toList (fun f hf' => hf fs hd f (by simpa using hf'))
      obtain ⟨r, hr, hrl⟩ := fill_eq (fun i => ((fs.toList.map fun f => (f.offset, P.cellsOf f.type)).toArray)[i]?) (offP P t) ps z.cells (fun p hp' => by
        have := hp p hp'
        simp only [partOk, hd] at this
        obtain ⟨f, hf1, hf2, hf3⟩ := this
        simp only [offP, hd, hf1, Option.map_some, Option.getD_some, hf2, hzs]
        refine ⟨?_, hf3⟩
        simp [hf1])
      simp only [pBuild, runV, Instr.build, Sem.run_bind, hzr, Result.andThen_ok, run_underlying hd, Array.mapM_eq_mapM_toList, Sem.run_map, hm, hr, Sem.run_pure]
      rw [← hzl, ← hrl]
    case array n e =>
      obtain ⟨r, hr, hrl⟩ := fill_eq (fun i => some (i * P.cellsOf e, P.cellsOf e)) (offP P t) ps z.cells (fun p hp' => by
        have := hp p hp'
        simp only [partOk, hd] at this
        simp only [offP, hd, this.1, hzs]
        exact ⟨by trivial, this.2⟩)
      simp only [pBuild, runV, Instr.build, Sem.run_bind, hzr, Result.andThen_ok, run_underlying hd, run_size (he n e hd), hr, Sem.run_pure]
      rw [← hzl, ← hrl]
/-! ### Arrays that are compared -/
theorem run_eqItems_int {e : TypeId} {k : IntKind} (he : intK P e = some k) (hs : P.cellsOf e = 1) (hty : tyOk P e = true) (ha : isAggB P e = false) {n d : Nat} (xs ys : List Int) (hx : xs.length = n) (hy : ys.length = n) (w : World) :
    ∀ is : List Nat, (∀ i ∈ is, i < n) → (Op.eqItems (d + 1) e 1 (xs.map (Value.int k)).toArray (ys.map (Value.int k)).toArray is).run P w = .ok (is.all fun i => decide (xs.getD i 0 = ys.getD i 0)) w := by
  intro is
  induction is with
  | nil => intro _; simp [Op.eqItems]
  | cons i r ih =>
    intro h
    have hi := h i List.mem_cons_self
    have hu := intK_und he
    simp only [Op.eqItems, Sem.run_bind, part, run_isAgg hty, ha, Result.andThen_ok, Bool.false_eq_true, if_false, Nat.mul_one]
    have e1 : ((xs.map (Value.int k)).toArray)[i]? = some (.int k (xs.getD i 0)) := by simp [hx ▸ hi]
    have e2 : ((ys.map (Value.int k)).toArray)[i]? = some (.int k (ys.getD i 0)) := by simp [hy ▸ hi]
    simp only [e1, e2, Sem.run_pure, Result.andThen_ok, run_equalIn_int w d e k k _ _ hu]
    rw [List.all_cons]
    by_cases hc : xs.getD i 0 = ys.getD i 0
    · simp only [hc, beq_self_eq_true, Bool.not_true, Bool.false_eq_true, if_false, decide_true, Bool.true_and]
      exact ih fun j hj => h j (List.mem_cons_of_mem _ hj)
    · have : (xs.getD i 0 == ys.getD i 0) = false := by simpa using hc
      simp only [this, Bool.not_false, if_true, Sem.run_pure]
      simp only [hc, decide_false, Bool.false_and]
theorem all_range_eq {n : Nat} {xs ys : List Int} (hx : xs.length = n) (hy : ys.length = n) : ((List.range n).all fun i => decide (xs.getD i 0 = ys.getD i 0)) = decide (xs = ys) := by
  rw [Bool.eq_iff_iff]
  simp only [List.all_eq_true, List.mem_range, decide_eq_true_eq]
  constructor
  · intro h
    apply List.ext_getElem (by omega)
    intro i h1 h2
    have := h i (by omega)
    simpa [h1, h2] using this
  · rintro rfl i _; rfl
theorem bs_ints (l : List UInt8) : bs l = (l.map fun b => (b.toNat : Int)).map (Value.int .u8) := by simp [bs, bv]
theorem bytes_ints_eq (a c : List UInt8) : decide ((a.map fun b => (b.toNat : Int)) = (c.map fun b => (b.toNat : Int))) = decide (a = c) := by
  rw [decide_eq_decide]
  constructor
  · intro h
    exact bs_inj.1 (by rw [bs_ints, bs_ints, h])
  · rintro rfl; rfl
theorem eql_sec {lit : Bool} {e : TypeId} {n : Nat} {a c : List UInt8} (h : arrE P t = some (n, e)) (he : intK P e = some .u8) (hs : P.cellsOf e = 1) (hty : tyOk P e = true) (ha : isAggB P e = false)
    (hg : P.eqGuardType P.depth t = false) (h1 : a.length = n) (h2 : c.length = n) :
    pBin P .eql t lit (sec a) (sec c) w = some (.bool (decide (a = c)), w) := by
  have hu := arrE_und h
  obtain ⟨inf, hi⟩ := tyOk_info hty
  simp only [pBin, runV, sec, Sem.run_bind, run_eqGuard_agg w _ _ _ _ _ _ hg, Result.andThen_ok, run_eql_struct]
  rw [run_equalIn_array (w := w) 9999 _ _ hu hi, hs, bs_ints, bs_ints, run_eqItems_int he hs hty ha (n := n) _ _ (by simpa using h1) (by simpa using h2) w _ (by simp)]
  simp only [Result.andThen_ok]
  rw [all_range_eq (by simpa using h1) (by simpa using h2), bytes_ints_eq]
/-! ### Slices that are read -/
/-- 'v' is a slice of 'n' elements whose cells are 'cs'. -/
def RdV (w : World) (v : Value) (n : Nat) (cs : List Value) : Prop :=
  (∃ a c, v = .slice a 0 c ∧ n = 0 ∧ cs = []) ∨
  ∃ b o c, v = sl b o n c ∧ n ≤ c ∧ c ≤ maxLen ∧ b < sz w ∧ o + cs.length ≤ (mm w b).length ∧ ((mm w b).drop o).take cs.length = cs
theorem RdV.fr {w w' : World} {S : List Nat} {v : Value} {n : Nat} {cs : List Value} (h : RdV w v n cs) (hf : Fr S w w') (hS : ∀ b, v.ownBlock = some b → b ∉ S) : RdV w' v n cs := by
  rcases h with h | ⟨b, o, c, rfl, h1, h2, h3, h4, h5⟩
  · exact .inl h
  · have hm := hf.mm h3 (hS b rfl)
    exact .inr ⟨b, o, c, rfl, h1, h2, hf.lt h3, by rw [hm]; exact h4, by rw [hm]; exact h5⟩
theorem RdV.fr0 {w w' : World} {v : Value} {n : Nat} {cs : List Value} (h : RdV w v n cs) (hf : Fr [] w w') : RdV w' v n cs := h.fr hf (by simp)
theorem drop_take_get {l cs : List Value} {o : Nat} (h : (l.drop o).take cs.length = cs) {j : Nat} (hj : j < cs.length) : l[o + j]? = some (cs.getD j undef) := by
  have h2 : ((l.drop o).take cs.length)[j]? = cs[j]? := by rw [h]
  rw [List.getElem?_take, if_pos hj, List.getElem?_drop] at h2
  rw [h2]
  simp [hj]
theorem rd_new (w : World) (l : List Value) (t : TypeId) {n : Nat} (h : n ≤ maxLen) : RdV (nw w l t) (sl (sz w) 0 n n) n l :=
  .inr ⟨sz w, 0, n, rfl, Nat.le_refl _, h, by rw [sz_nw]; omega, by simp [mm_nw], by simp [mm_nw]⟩
theorem RdV.cell {w : World} {b o n c : Nat} {cs : List Value} (h : RdV w (sl b o n c) n cs) {j : Nat} (hj : j < cs.length) : o + j < (mm w b).length ∧ (mm w b).getD (o + j) undef = cs.getD j undef := by
  rcases h with ⟨_, _, _, _, rfl⟩ | ⟨b', o', c', h, h1, h2, h3, h4, h5⟩
  · simp at hj
  · simp only [Value.slice.injEq, Option.some.injEq, Addr.mk.injEq] at h
    obtain ⟨⟨rfl, rfl, _⟩, _, rfl⟩ := h
    have := drop_take_get h5 hj
    have hl := (List.getElem?_eq_some_iff.1 this).1
    exact ⟨hl, by rw [List.getD_eq_getElem?_getD, this]; rfl⟩
theorem copy_bytes {t' ty e : TypeId} {o n c : Nat} {v : Value} {m : Nat} {cs : List Value} (hs : sliceE P t = some e) (he : tyOk P e = true) (hc : P.cellsOf e = 1)
    (hr : RdV w v m cs) (hm : cs.length = m) (h1 : ∀ v ∈ cs, v.oneCell' = true) (hf : fz w b = false) (hfit : o + n ≤ (mm w b).length) :
    pBuiltin P .copy #[t, t'] ty [sl b o n c, v] w = some (i64 ((min m n : Nat) : Int), wr w b (splice (mm w b) o (cs.take (min m n)))) := by
  have hu := sliceE_und hs
  have hlen : (cs.take (min m n)).length = min m n := by simp; omega
  have hst := run_stores (P := P) (w := w) (b := b) (i := o) (cs.take (min m n)) hf (by rw [hlen]; omega) (fun v hv => h1 v (List.mem_of_mem_take hv))
  rcases hr with ⟨a2, c2, rfl, rfl, rfl⟩ | ⟨b2, o2, c2, rfl, hmc, hmax, hlt, hin, hcs⟩
  · simp only [List.take_nil] at hst
    simp only [pBuiltin, runV, Builtin.copy_]
    cases a2 <;> simp [run_underlying hu, Builtin.lenOf, run_size he, hc, Builtin.firstCells, loadCells, loadCellsFrom, hst, goInt]
  · have hl := run_loads (P := P) (w := w) (b := b2) (i := o2) (min m n) (by omega)
    have htake : ((mm w b2).drop o2).take (min m n) = cs.take (min m n) := by
      rw [← hcs, List.take_take]; congr 1; omega
    rw [htake] at hl
    simp only [pBuiltin, runV, Builtin.copy_]
    have hmin : Nat.min m n = min m n := rfl
    simp [run_underlying hu, Builtin.lenOf, run_size he, hc, Builtin.firstCells, hst, goInt, hmin, hl]
/-- The bytes of a string. -/
def strB (l : List UInt8) : Value := .string ⟨l.toArray⟩
theorem conv_str {d e : TypeId} {v : Value} {l : List UInt8} (hs : sliceE P t = some e) (he : intK P e = some .u8) (hd : P.underlying d = some .string) (hr : RdV w v l.length (bs l)) :
    pConv P t d v w = some (strB l, w) := by
  have hu := sliceE_und hs
  have hue := intK_und he
  rcases hr with ⟨a2, c2, rfl, h0, _⟩ | ⟨b2, o2, c2, rfl, hmc, hmax, hlt, hin, hcs⟩
  · have : l = [] := List.eq_nil_of_length_eq_zero h0
    subst this
    simp only [pConv, runV, run_convert_bytes_string w t d e _ _ _ hu hue hd]
    cases a2 <;> simp [Conv.bytesToString, strB, loadCells, loadCellsFrom] <;> rfl
  · have hl := run_loads (P := P) (w := w) (b := b2) (i := o2) l.length (by simpa using hin)
    rw [bs_length] at hcs
    rw [hcs, bs_ints] at hl
    simp only [pConv, runV, run_convert_bytes_string w t d e _ _ _ hu hue hd, run_bytesToString w _ _ _ _ hl]
    rw [foldl_push_byteCells]
    simp [strB]
theorem str_eq (a c : List UInt8) : ((⟨a.toArray⟩ : ByteArray) == ⟨c.toArray⟩) = decide (a = c) := by
  rw [Bool.eq_iff_iff, beq_toListBytes, ByteArray.toList_eq, ByteArray.toList_eq]
  simp
/-! ### Slices that grow -/
theorem Fr.of_grown {w w' : World} {row : Option Nat} (h : w.grownBy w' row) : Fr row.toList w w' :=
  ⟨h.os, h.output, h.size, fun b hb hS => h.block b hb (by rintro rfl; simp at hS)⟩
theorem Fr.of_grown' {w w' : World} {v : Value} {base : Nat} (h : w.grownBy w' v.ownBlock) (hb : ∀ k, v.ownBlock = some k → base ≤ k) {S : List Nat} {w0 : World} (h0 : Fr S w0 w) (hbase : sz w0 ≤ base) : Fr S w0 w' :=
  h0.trans (Fr.of_grown h) (fun b hbm => .inr (by
    cases hv : v.ownBlock with
    | none => simp [hv] at hbm
    | some k =>
      rw [hv] at hbm
      have hbk : b = k := by simpa using hbm
      exact hbk ▸ Nat.le_trans hbase (hb k hv)))
theorem own_rd {base : Nat} {e size : Nat} {v : Value} {n : Nat} {xs : List Value} (h : w.ownsRow base e size v n xs) : RdV w v n xs := by
  obtain ⟨hl, h | h⟩ := h
  · obtain ⟨rfl, rfl⟩ := h
    exact .inl ⟨_, _, rfl, rfl, List.eq_nil_of_length_eq_zero (by simpa using hl)⟩
  · obtain ⟨g, cap, cur, rfl, hb, hg, hnc, hcm, hcs, ht⟩ := h
    have hm : mm w g = cur.toList := by simp [mm, hg]
    refine .inr ⟨g, 0, cap, rfl, hnc, hcm, (Array.getElem?_eq_some_iff.1 hg).1, ?_, ?_⟩
    · rw [hm, hl, Array.length_toList, hcs, Nat.zero_add]; exact Nat.mul_le_mul_right _ hnc
    · rw [hm, hl, List.drop_zero]; exact ht
theorem own_fr {base : Nat} {e size : Nat} {v : Value} {n : Nat} {xs : List Value} {S : List Nat} {w' : World} (h : w.ownsRow base e size v n xs) (hf : Fr S w w') (hS : ∀ b, v.ownBlock = some b → b ∉ S) :
    w'.ownsRow base e size v n xs := by
  refine ⟨h.1, ?_⟩
  rcases h.2 with hn | ⟨g, cap, cur, rfl, hb, hgg, rest⟩
  · exact .inl hn
  · refine .inr ⟨g, cap, cur, rfl, hb, ?_, rest⟩
    rw [hf.block g (Array.getElem?_eq_some_iff.1 hgg).1 (hS g rfl)]
    exact hgg
theorem own_lt {base : Nat} {e size : Nat} {v : Value} {n : Nat} {xs : List Value} (h : w.ownsRow base e size v n xs) : ∀ k, v.ownBlock = some k → base ≤ k ∧ k < sz w := h.lt
theorem own_made {base e size : Nat} (hb : base ≤ sz w) : (nw w [] e).ownsRow base e size (sl (sz w) 0 0 0) 0 [] :=
  ⟨by simp, .inr ⟨sz w, 0, #[], rfl, hb, by unfold nw sz; exact Array.getElem?_push_size, Nat.le_refl _, by simp [maxLen], by simp, by simp⟩⟩
theorem append_own {ty e : TypeId} {size : Nat} (base : Nat) (hs : sliceE P t = some e) (hz : hasZero P e = true) (hsz : P.cellsOf e = size) (hzl : (zeroL P e).length = size) (hpos : 0 < size)
    {v : Value} {n : Nat} {xs : List Value} (hown : w.ownsRow base e size v n xs) (hbase : base ≤ sz w)
    {x : Value} {m : Nat} {news : List Value} (hr : RdV w x m news) (hl : news.length = m * size) (h1 : ∀ u ∈ news, u.oneCell' = true)
    (h63 : n + m ≤ maxLen) (hbytes : (n + m) * P.bytesOf e ≤ 140737488355328) :
    ∃ v' w', pBuiltin P .append #[t, t] ty [v, x] w = some (v', w') ∧ w'.ownsRow base e size v' (n + m) (xs ++ news) ∧ w.grownBy w' v.ownBlock ∧
      (v' = .slice none 0 0 ↔ v = .slice none 0 0 ∧ m = 0) := by
  have hu := sliceE_und hs
  unfold hasZero at hz
  obtain ⟨z, hz⟩ := Option.isSome_iff_exists.1 hz
  cases hi : P.info? e with
  | none => simp [hi] at hz
  | some inf =>
    simp only [hi, Option.bind_some] at hz
    have hzc : z.cells.size = size := by simpa [zeroL, hi, hz] using hzl
    have his : inf.size = size := by simpa [Program.cellsOf, hi] using hsz
    have hib : inf.bytes = P.bytesOf e := by simp [Program.bytesOf, hi]
    rcases hr with ⟨a2, c2, rfl, rfl, rfl⟩ | ⟨b2, o2, c2, rfl, hmc, hmax, hlt, hin, hcs⟩
    · -- nothing is appended
      refine ⟨v, w, ?_, by simpa using hown, ⟨rfl, rfl, rfl, Nat.le_refl _, fun _ _ _ => rfl⟩, by simp⟩
      have hsize : (sizeOf e).run P w = .ok inf.size w := by simp [sizeOf, typeInfo, hi]
      rcases hown.2 with ⟨rfl, rfl⟩ | ⟨g, cap, cur, rfl, hbg, hg, hnc, hcm, hcs, htake⟩
      · cases a2 <;> simp [pBuiltin, runV, Builtin.append_, run_underlying hu, hsize, Builtin.lenOf, Builtin.firstCells, loadCells, loadCellsFrom]
      · cases a2 <;> simp [pBuiltin, runV, Builtin.append_, run_underlying hu, hsize, Builtin.lenOf, Builtin.firstCells, loadCells, loadCellsFrom, hnc, storeCells]
    · have hnews : ∀ j u, news[j]? = some u → w.cell? ((⟨b2, o2, none⟩ : Addr).add j) = some u := fun j u hj => by
        have hjl := (List.getElem?_eq_some_iff.1 hj).1
        rw [Addr.add_lit, cell_mm, drop_take_get hcs hjl]
        rw [List.getD_eq_getElem?_getD, hj]; rfl
      obtain ⟨v', w', hrun, hown', hgr, hnil⟩ := run_append_own (P := P) w base t ty e inf z size (P.bytesOf e) hu hi hz his hib hzc hpos v n xs hown ⟨b2, o2, none⟩ m c2 news hl hnews h1 h63 hbytes hbase
      exact ⟨v', w', by simp [pBuiltin, runV, hrun], hown', hgr, hnil⟩
theorem wrap64 {n : Int} (h1 : -9223372036854775808 ≤ n) (h2 : n < 9223372036854775808) : IntKind.i64.wrap n = n := by
  unfold IntKind.wrap
  simp only [IntKind.bits, IntKind.signed, Bool.true_and, ge_iff_le, decide_eq_true_eq]
  split <;> omega
@[simp] theorem wrap_byte (x : UInt8) : IntKind.i64.wrap (x.toNat : Int) = x.toNat := by
  have := x.toNat_lt
  exact wrap64 (by omega) (by omega)
theorem byte_eq0 (x : UInt8) : ((x.toNat : Int) = 0) = (x = 0) := by
  apply propext
  constructor
  · intro h; exact UInt8.toNat_inj.1 (by simpa using h)
  · rintro rfl; rfl
theorem byte_n0 (x : UInt8) : (x.toNat = 0) = (x = 0) := by
  apply propext
  constructor
  · intro h; exact UInt8.toNat_inj.1 (by simpa using h)
  · rintro rfl; rfl
theorem byte_n1 (x : UInt8) : (x.toNat = 1) = (x = 1) := by
  apply propext
  constructor
  · intro h; exact UInt8.toNat_inj.1 (by rw [h]; rfl)
  · rintro rfl; rfl
theorem byte_eq1 (x : UInt8) : ((x.toNat : Int) = 1) = (x = 1) := by
  apply propext
  constructor
  · intro h; exact UInt8.toNat_inj.1 (by have h2 : x.toNat = 1 := by omega
                                         rw [h2]; rfl)
  · rintro rfl; rfl
@[simp] theorem zb_length (n : Nat) : (zb n).length = n := by simp [zb]
theorem foldl_set (l : List Value) (f : Nat → Nat) (hf : ∀ i, f i = i) : ∀ (ps : List (Nat × Value)) (l : List Value), (∀ p ∈ ps, p.1 < l.length ∧ p.2.oneCell' = true) →
    ps.foldl (fun l p => splice l (f p.1) p.2.cells.toList) l = ps.foldl (fun l p => l.set p.1 p.2) l := by
  intro ps
  induction ps with
  | nil => intro l _; rfl
  | cons p r ih =>
    intro l h
    have hp := h p List.mem_cons_self
    have hc : p.2.cells.toList = [p.2] := by
      obtain ⟨i, v⟩ := p
      cases v <;> first | rfl | simp [Value.oneCell'] at hp
    simp only [List.foldl_cons, hf, hc, splice_one _ hp.1]
    simp only [hf] at ih
    exact ih _ fun q hq => by rw [List.length_set]; exact h q (List.mem_cons_of_mem _ hq)
theorem pBuild_arr {ps : List (Nat × Value)} {n e : Nat} (hz : hasZero P t = true) (ha : arrE P t = some (n, e)) (he : tyOk P e = true) (hs : P.cellsOf e = 1) (hn : (zeroL P t).length = n)
    (hp : ∀ p ∈ ps, p.1 < n ∧ p.2.oneCell' = true) :
    pBuild P t ps w = some (.agg (ps.foldl (fun l p => l.set p.1 p.2) (zeroL P t)).toArray, w) := by
  have hu := arrE_und ha
  rw [pBuild_eq hz (fun p hp' => ?_) (by simp [isAggB, hu]) (by rw [hu]; simp) (by rw [hu]; rintro n e ⟨⟩; exact he)]
  · rw [foldl_set [] _ (fun i => by simp [offP, hu, hs]) ps _ (by rw [hn]; exact hp)]
  · have := hp p hp'
    have hc : p.2.cells.size = 1 := by
      obtain ⟨i, v⟩ := p
      cases v <;> first | rfl | simp [Value.oneCell'] at this
    simp only [partOk, hu, hs, hc, hn, true_and]
    omega
theorem pBuildSlice_eq {ps : List (Nat × Value)} {n e size : Nat} (hs : sliceE P t = some e) (hz : hasZero P e = true) (hty : tyOk P e = true) (hc : P.cellsOf e = size) (hzl : (zeroL P e).length = size)
    (hbig : n * size ≤ 2 ^ 24) (hp : ∀ p ∈ ps, p.2.cells.size = size ∧ p.1 < n) :
    pBuildSlice P t n ps w = some (sl (sz w) 0 n n,
      nw w (ps.foldl (fun l p => splice l (p.1 * size) p.2.cells.toList) (List.replicate n (zeroL P e)).flatten) e) := by
  have hu := sliceE_und hs
  obtain ⟨z, hzr, hzc⟩ := run_zeroV hz w
  have hzs : z.cells.size = size := by rw [← hzl, ← hzc]; simp
  obtain ⟨Z, hZ⟩ : ∃ Z : Array Value, Z = (Array.range (n * size)).map (fun i => (if n * size = 0 then (#[] : Array Value) else z.cells)[i % (if n * size = 0 then (#[] : Array Value) else z.cells).size]!) := ⟨_, rfl⟩
  have hZs : Z.size = n * size := by rw [hZ]; simp
  have hZl : Z.toList = (List.replicate n (zeroL P e)).flatten := by
    rw [hZ]
    by_cases h0 : n * size = 0
    · have : (List.replicate n (zeroL P e)).flatten = [] := by
        apply List.eq_nil_of_length_eq_zero
        simp [hzl, h0]
      rw [this]; simp [h0]
    · simp only [if_neg h0, Array.toList_map, Array.toList_range]
      rw [← hzc]
      have hpos : 0 < size := by
        rcases Nat.eq_zero_or_pos size with h | h
        · simp [h] at h0
        · exact h
      apply List.ext_getElem
      · simp [hzs]
      · intro i h1 h2
        simp only [List.length_map, List.length_range] at h1
        have hmod : i % size < size := Nat.mod_lt _ hpos
        simp only [List.getElem_map, List.getElem_range, hzs]
        rw [getElem!_pos z.cells _ (by rw [hzs]; exact hmod)]
        have hfl : ∀ (n i : Nat) (l : List Value) (h : i < (List.replicate n l).flatten.length) (hl : i % l.length < l.length), (List.replicate n l).flatten[i] = l[i % l.length] := by
          intro n
          induction n with
          | zero => intro i l h; simp at h
          | succ n ih =>
            intro i l h hl
            simp only [List.replicate_succ, List.flatten_cons] at h ⊢
            by_cases hi : i < l.length
            · rw [List.getElem_append_left hi]
              congr 1
              exact (Nat.mod_eq_of_lt hi).symm
            · rw [List.getElem_append_right (by omega)]
              have hm : (i - l.length) % l.length = i % l.length := by
                rw [Nat.mod_eq_sub_mod (a := i) (by omega)]
              rw [ih (i - l.length) l _ (by rw [hm]; exact hl)]
              congr 1
        rw [hfl n i z.cells.toList h2 (by simp [hzs]; exact hmod)]
        simp [hzs]
  obtain ⟨r, hr, hrl⟩ := fill_eq (fun i => some (i * size, size)) (fun i => i * size) ps Z (fun p hp' => by
    obtain ⟨h1, h2⟩ := hp p hp'
    refine ⟨by rw [h1], ?_⟩
    rw [h1, hZs]
    have : (p.1 + 1) * size ≤ n * size := Nat.mul_le_mul_right _ h2
    rw [Nat.add_mul] at this
    simpa using this)
  have hb : ¬ (n * size > 2 ^ 24) := by omega
  simp only [pBuildSlice, runV, Instr.buildSlice, Sem.run_bind, run_underlying hu, Result.andThen_ok, run_size hty, hc, Sem.run_ite]
  rw [if_neg hb]
  by_cases h0 : n * size = 0
  · simp only [if_pos h0] at hZ
    simp only [Sem.run_pure, Result.andThen_ok, if_pos h0, ← hZ, hr, newRow, Sem.run_bind, run_newObj]
    rw [← hZl, ← hrl]
    simp [nw, sz]
  · simp only [if_neg h0] at hZ
    simp only [Sem.run_pure, Sem.run_bind, Result.andThen_ok, if_neg h0, hzr, ← hZ, hr, newRow, run_newObj]
    rw [← hZl, ← hrl]
    simp [nw, sz]
theorem eqNil {lit : Bool} {a : Option Addr} {e : TypeId} (hu : P.underlying t = some (.pointer e)) : pBin P .eql t lit (.pointer a) (.pointer none) w = some (.bool a.isNone, w) := by
  have hp : P.underlying t = some (.pointer (P.pointee t)) := by simp [Program.pointee, hu]
  simp only [pBin, runV, eqGuard_at_pointer, Sem.run_bind, Sem.run_pure, Result.andThen_ok]
  have h := fun q => run_equalIn_pointer_nil w 9999 t q hp
  cases a <;> simp [binOp, Op.equal, Op.maxDepth, h]
theorem neNil {lit : Bool} {a : Option Addr} {e : TypeId} (hu : P.underlying t = some (.pointer e)) : pBin P .neq t lit (.pointer a) (.pointer none) w = some (.bool a.isSome, w) := by
  have hp : P.underlying t = some (.pointer (P.pointee t)) := by simp [Program.pointee, hu]
  simp only [pBin, runV, eqGuard_at_pointer, Sem.run_bind, Sem.run_pure, Result.andThen_ok]
  have h := fun q => run_equalIn_pointer_nil w 9999 t q hp
  cases a <;> simp [binOp, Op.equal, Op.maxDepth, h]
/-! ### A string's bytes as a slice: the literal's row is marked -/
def mkS (w : World) (b : Nat) : World := match w.shape? b with | some (_, n) => w.freeze ⟨b, n, none⟩ 1 | none => w
theorem heap_freeze (w : World) (a : Addr) (n b : Nat) (h : b ≠ a.block) : (w.freeze a n).heap[b]? = w.heap[b]? := by
  unfold World.freeze
  split
  · rfl
  · simp only [Array.getElem?_modify]
    rw [if_neg (fun e => h e.symm)]
theorem sz_freeze (w : World) (a : Addr) (n : Nat) : sz (w.freeze a n) = sz w := by
  unfold World.freeze sz
  split <;> simp
theorem mm_freeze (w : World) (a : Addr) (n b : Nat) : mm (w.freeze a n) b = mm w b := by
  by_cases h : b = a.block
  · by_cases hn : n = 0
    · simp [World.freeze, hn]
    · unfold mm World.freeze
      rw [if_neg hn]
      simp only [Array.getElem?_modify]
      rw [if_pos h.symm]
      cases w.heap[b]? with
      | none => rfl
      | some o => cases o <;> rfl
  · unfold mm; rw [heap_freeze _ _ _ _ h]
theorem sz_mkS (w : World) (b : Nat) : sz (mkS w b) = sz w := by unfold mkS; split <;> first | exact sz_freeze _ _ _ | rfl
theorem mm_mkS (w : World) (b c : Nat) : mm (mkS w b) c = mm w c := by unfold mkS; split <;> first | exact mm_freeze _ _ _ _ | rfl
theorem fz_mkS {w : World} {b c : Nat} (h : (c = b) = False) : fz (mkS w b) c = fz w c := by
  have hne : c ≠ b := by simpa using h
  unfold mkS
  split
  · unfold fz; rw [heap_freeze _ _ _ _ hne]
  · rfl
theorem Fr.mkS {S : List Nat} {w w1 : World} (h : Fr S w w1) {b : Nat} (hb : b ∈ S ∨ sz w ≤ b) : Fr S w (mkS w1 b) := by
  refine ⟨?_, ?_, by rw [sz_mkS]; exact h.size, fun c hc hS => ?_⟩
  · rw [← h.os]; unfold Proofs.YtieejbkbdfccdaaGreat.mkS; split
    · unfold World.freeze; split <;> rfl
    · rfl
  · rw [← h.output]; unfold Proofs.YtieejbkbdfccdaaGreat.mkS; split
    · unfold World.freeze; split <;> rfl
    · rfl
  · rw [← h.block c hc hS]
    have hne : c ≠ b := by rintro rfl; exact hb.elim hS (fun h => absurd hc (Nat.not_lt.2 h))
    unfold Proofs.YtieejbkbdfccdaaGreat.mkS
    split
    · exact heap_freeze _ _ _ _ hne
    · rfl
end
end Go.Proofs.YtieejbkbdfccdaaGreat
