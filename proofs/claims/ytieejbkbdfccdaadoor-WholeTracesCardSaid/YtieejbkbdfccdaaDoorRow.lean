/- From a walk that writes nothing that was there to what a row asks. -/
import Derived.Test.YtieejbkbdfccdaaDoorPrims2
import Derived.ProofKit
import Derived.OpenShut
import Derived.Below
import Derived.Carry
import Derived.WideKeyArgs
import Derived.Laws.Cover2
set_option linter.unusedVariables false
set_option linter.unusedSimpArgs false
namespace Go.Proofs.YtieejbkbdfccdaaDoor
open Go Go.ChangeShapes Go.WideShapes Go.ChangeAt Go.RowKit

variable {H : Type} {enc : TypeId × Value → H} {P : Program}

theorem Fr.same {W W' : World} (h : Fr [] W W') {p : MemPlace} (hp : p.block < W.heap.size) : W.sameAt W' p := by
  cases p with
  | cell b o => exact World.cell?_of_block (w := W) (h.block b hp (by simp))
  | map b => exact h.block b hp (by simp)
theorem Fr.frame {W W' : World} (h : Fr [] W W') (may : MemPlace → Prop) : W.keptBut W' may := by
  refine ⟨h.os, h.output, fun i hi => ?_⟩
  rw [h.block i hi (by simp)]
  split <;> simp_all
theorem trodAll_stays (hl : laidOutB P = true) {W W' : World} {sp : Nat → Bool} (hfr : Fr [] W W') : ∀ (ts : List TypeId) (vs : List Value) (ds : List (DataW H)) (ps : List MemPlace),
    (∀ t ∈ ts, P.readableRec t = true ∧ t < P.types.size) → (∀ p ∈ ps, p.block < W.heap.size) → (∀ p ∈ ps, sp p.block = true) →
    DataW.TrodAll enc P W 0 (fun _ => true) true ts vs ds ps → DataW.TrodAll enc P W' 0 sp true ts vs ds ps := by
  intro ts
  induction ts with
  | nil => intro vs ds ps _ _ _ h; cases vs <;> cases ds <;> first | exact h | exact h.elim
  | cons t ts ih =>
    intro vs ds ps ht hlt hsp h
    cases vs with
    | nil => exact h.elim
    | cons v vs =>
      cases ds with
      | nil => exact h.elim
      | cons d ds =>
        obtain ⟨p, q, h1, h2, rfl⟩ := h
        obtain ⟨hr, hrow⟩ := ht t List.mem_cons_self
        refine ⟨p, q, WideElems.Trod_stays hl hr hrow h1 (fun x hx => hfr.same (hlt x (List.mem_append_left _ hx))) (fun x hx => hsp x (List.mem_append_left _ hx)), ?_, rfl⟩
        exact ih vs ds q (fun u hu => ht u (List.mem_cons_of_mem _ hu)) (fun x hx => hlt x (List.mem_append_right _ hx)) (fun x hx => hsp x (List.mem_append_right _ hx)) h2

/-- What a law's row asks behind the call: it returned true, and nothing that was there has turned. -/
theorem post_fr {f : Func} {s : ChangeSpec} {apart fresh handsOn again : Bool} {W W' : World} {args : Array Value} {ds gs : List (DataW H)} {before : List MemPlace} {tb : TypeId}
    (hl : laidOutB P = true) (hpar : ∀ t ∈ f.params.toList, P.readableRec t = true ∧ t < P.types.size) (hvars : s.vars = [])
    (hfn : s.fn H ds = { results := [.lit (.bool true)], args := ds }) (hrt : f.resultTypes = #[tb]) (hb : P.underlying tb = some .bool)
    (hW : DataW.Whole enc P f.params.toList s.vars apart W args.toList ds gs before) (hfr : Fr [] W W') :
    s.post enc P f apart fresh handsOn again W args (.bool true) W' := by
  have hlt : ∀ p ∈ before, p.block < W.heap.size := fun p hp => by simpa using hW.lt p hp
  have hW' := hW
  obtain ⟨p, q, hA, hV, rfl, hz, hn⟩ := hW
  rw [hvars] at hV
  have hgq : gs = [] ∧ q = [] := by
    cases gs with
    | nil => exact ⟨rfl, hV⟩
    | cons g gs => exact hV.elim
  obtain ⟨rfl, rfl⟩ := hgq
  simp only [List.append_nil] at hlt hz hn hW'
  have hfn' : s.fn H (ds ++ []) = { results := [.lit (.bool true)], args := ds } := by rw [List.append_nil]; exact hfn
  have hres : ∀ (b : Nat) (sp : Nat → Bool) (hd : Bool), DataW.TrodAll enc P W' b sp hd f.resultTypes.toList ((Value.bool true).resultList f.resultTypes.size) [.lit (.bool true)] [] := by
    intro b sp hd
    rw [hrt]
    refine ⟨[], [], ⟨1, ?_⟩, rfl, rfl⟩
    simp [DataW.trod, hb, Value.cells]
  have hargs : ∀ sp : Nat → Bool, (∀ x ∈ p, sp x.block = true) → DataW.TrodAll enc P W' 0 sp true f.params.toList args.toList ds p :=
    fun sp hsp => trodAll_stays hl hfr _ _ _ _ hpar hlt hsp hA
  have hvar : ∀ sp : Nat → Bool, DataW.TrodVars enc P W' sp s.vars [] [] := by intro sp; rw [hvars]; rfl
  refine ⟨ds, [], p, [], p, [], hW', ?_, ?_, ?_, World.keptBut_mono (fun x hx => ⟨hx, Or.inr (Or.inl hx)⟩) (hfr.frame _), fun _ => ?_⟩
  · rw [hfn']; exact hres _ _ _
  · rw [hfn']; exact hargs _ (fun x hx => by simpa using hlt x hx)
  · rw [hfn']; exact hvar _
  · refine ⟨?_, _, _, p, ⟨p, [], trodAll_append (hargs _ (fun _ _ => rfl)) (hres _ _ _), hvar _, by simp, ?_, ?_⟩, ?_⟩
    · intro j t r h1 h2
      rw [hrt] at h1 h2
      cases j with
      | zero =>
        simp only [List.getElem?_toArray, List.getElem?_cons_zero, Option.some.injEq] at h1
        simp [Value.resultList] at h2
        subst h1 h2
        simp [Value.okWide, hb, Cell.okWide, Cell.ok]
      | succ j => simp at h1
    · intro b off hp
      rw [World.frozen?_of_block (w := W) (a := ⟨b, off, none⟩) (hfr.block b (hlt _ hp) (by simp))]
      exact hz b off hp
    · exact fun ha => hn ha
    · intro x hx _; exact hx

/-! ### What came in, opened -/
theorem wf_u8 {n : Int} (h : (Lit.int .u8 n).wf = true) : 0 ≤ n ∧ n < 256 := by
  simp only [Lit.wf, Bool.and_eq_true, decide_eq_true_eq] at h
  have h1 : IntKind.u8.min = 0 := by decide
  have h2 : IntKind.u8.max = 255 := by decide
  rw [h1, h2] at h
  omega
theorem wf_i64 {n : Int} (h : (Lit.int .i64 n).wf = true) : -9223372036854775808 ≤ n ∧ n < 9223372036854775808 := by
  simp only [Lit.wf, Bool.and_eq_true, decide_eq_true_eq] at h
  have h1 : IntKind.i64.min = -9223372036854775808 := by decide
  have h2 : IntKind.i64.max = 9223372036854775807 := by decide
  rw [h1, h2] at h
  omega
theorem bytes_of {zs : List Int} (h : ∀ n ∈ zs, (Lit.int .u8 n).wf = true) : ∃ l : List UInt8, zs.map (Value.int .u8) = bs l ∧ l.length = zs.length := by
  refine ⟨zs.map fun n => UInt8.ofNat n.toNat, ?_, by simp⟩
  simp only [bs, List.map_map]
  apply List.map_congr_left
  intro n hn
  have := wf_u8 (h n hn)
  have h2 : n.toNat < 256 := by omega
  simp only [Function.comp, bv, Value.int.injEq, true_and, UInt8.toNat_ofNat']
  omega
/-- A slice of integers. -/
theorem open_rd {W : World} {r : Reach} {b0 : Nat} {t e : TypeId} {k : IntKind} {v : Value} {d : DataW H} {p : List MemPlace} (ht : P.underlying t = some (.slice e)) (he : P.underlying e = some (.int k)) (hc : P.cellsOf e = 1)
    (hval : Value.okWide P W r b0 t v) (h : DataW.Trod enc P W 0 (fun _ => true) true t v d p) :
    ∃ zs : List Int, RdV W v zs.length (zs.map (Value.int k)) ∧ (∀ n ∈ zs, (Lit.int k n).wf = true) := by
  obtain ⟨a, len, cap, rfl⟩ := okWide_slice ht hval
  obtain ⟨fuel, hf⟩ := h
  rcases open_ints ht he hc hf with ⟨h0, _⟩ | ⟨ad, len', cap', zs, hcs, _, hlc, hcm, hzl, _, hcell, hwf⟩
  · simp only [Value.cells, List.cons.injEq, and_true] at h0
    rw [h0]
    exact ⟨[], .inl ⟨none, 0, rfl, rfl, rfl⟩, by simp⟩
  · simp only [Value.cells, List.cons.injEq, and_true, Value.slice.injEq] at hcs
    obtain ⟨rfl, rfl, rfl⟩ := hcs
    simp only [if_true] at hzl
    by_cases h0 : len = 0
    · subst h0
      exact ⟨[], .inl ⟨_, _, rfl, rfl, rfl⟩, by simp⟩
    · have hc0 := hcell 0 (by omega)
      obtain ⟨b, o, spot⟩ := ad
      have hspot : spot = none := by simpa [Addr.add] using World.cell?_spot hc0
      subst hspot
      have hlt : b < sz W := World.block_lt_of_cell? W _ (by simpa [Addr.add] using hc0)
      have hget : ∀ j, j < cap → (mm W b)[o + j]? = some (.int k (zs.getD j 0)) := fun j hj => by
        have := hcell j (by omega)
        rw [Addr.add_lit, cell_mm] at this
        exact this
      refine ⟨zs.take len, ?_, fun n hn => hwf n (List.mem_of_mem_take hn)⟩
      have hl : (zs.take len).length = len := by simp; omega
      have hin : o + len ≤ (mm W b).length := by
        have := hget (len - 1) (by omega)
        have := (List.getElem?_eq_some_iff.1 this).1
        omega
      refine .inr ⟨b, o, cap, by rw [hl], by omega, hcm, hlt, by rw [List.length_map, hl]; exact hin, ?_⟩
      apply List.ext_getElem?
      intro j
      simp only [List.length_map, hl, List.getElem?_take, List.getElem?_drop, List.getElem?_map]
      by_cases hj : j < len
      · rw [if_pos hj, if_pos hj, hget j (by omega)]
        simp [show j < zs.length by omega]
      · simp [hj]
theorem open_bytes {W : World} {r : Reach} {b0 : Nat} {t e : TypeId} {v : Value} {d : DataW H} {p : List MemPlace} (ht : P.underlying t = some (.slice e)) (he : P.underlying e = some (.int .u8)) (hc : P.cellsOf e = 1)
    (hval : Value.okWide P W r b0 t v) (h : DataW.Trod enc P W 0 (fun _ => true) true t v d p) : ∃ l : List UInt8, RdV W v l.length (bs l) := by
  obtain ⟨zs, hr, hw⟩ := open_rd ht he hc hval h
  obtain ⟨l, hl, hll⟩ := bytes_of hw
  exact ⟨l, by rw [← hl, hll]; exact hr⟩
/-- A row of cells that is read. -/
theorem trod_cells_int {W : World} {e : TypeId} {k : IntKind} {fuel n : Nat} {cs : List Value} (he : P.underlying e = some (.int k)) (hc : P.cellsOf e = 1) {xs : List (DataW H × List MemPlace)}
    (hl : cs.length = n) (h : ((List.range n).mapM fun i => DataW.trod enc P W 0 (fun _ => true) true fuel e ((cs.drop (i * P.cellsOf e)).take (P.cellsOf e))) = some xs) :
    ∃ zs : List Int, cs = zs.map (Value.int k) ∧ ∀ n ∈ zs, (Lit.int k n).wf = true := by
  have key : ∀ i, i < n → ∃ m, cs[i]? = some (.int k m) ∧ (Lit.int k m).wf = true := by
    intro i hi
    have : ∃ x, DataW.trod enc P W 0 (fun _ => true) true fuel e ((cs.drop (i * P.cellsOf e)).take (P.cellsOf e)) = some x := by
      clear hl
      have hmem : i ∈ List.range n := List.mem_range.2 hi
      generalize List.range n = is at h hmem
      induction is generalizing xs with
      | nil => cases hmem
      | cons j is ih =>
        simp only [List.mapM_cons, Option.bind_eq_bind, Option.bind_eq_some_iff] at h
        obtain ⟨x, hx, ys, hys, _⟩ := h
        rcases List.mem_cons.1 hmem with rfl | hm
        · exact ⟨x, hx⟩
        · exact ih hys hm
    obtain ⟨x, hx⟩ := this
    rw [hc, Nat.mul_one] at hx
    have hlt : i < cs.length := by omega
    have h1 : (cs.drop i).take 1 = [cs[i]] := by rw [List.drop_eq_getElem_cons hlt]; rfl
    rw [h1] at hx
    cases fuel with
    | zero => simp [DataW.trod] at hx
    | succ fuel =>
      cases hci : cs[i] <;> simp [DataW.trod, he, hci] at hx
      rename_i k' m
      obtain ⟨⟨rfl, hw⟩, _⟩ := hx
      exact ⟨m, by rw [List.getElem?_eq_getElem hlt, hci], hw⟩
  refine ⟨cs.map fun v => match v with | .int _ m => m | _ => 0, ?_, fun m hm => ?_⟩
  · apply List.ext_getElem?
    intro i
    by_cases hi : i < n
    · obtain ⟨m, hm, _⟩ := key i hi
      simp [hm]
    · simp [List.getElem?_eq_none (show cs.length ≤ i by omega)]
  · obtain ⟨v, hv, rfl⟩ := List.mem_map.1 hm
    obtain ⟨i, hi⟩ := List.getElem?_of_mem hv
    have hlt : i < n := by have := (List.getElem?_eq_some_iff.1 hi).1; omega
    obtain ⟨m, hm, hw⟩ := key i hlt
    rw [hi] at hm
    cases hm
    exact hw
/-- A sector. -/
theorem open_sec {W : World} {r : Reach} {b0 : Nat} {t e : TypeId} {n : Nat} {v : Value} {d : DataW H} {p : List MemPlace} (ht : P.underlying t = some (.array n e)) (he : P.underlying e = some (.int .u8)) (hc : P.cellsOf e = 1) (hn : P.cellsOf t = n)
    (hval : Value.okWide P W r b0 t v) (h : DataW.Trod enc P W 0 (fun _ => true) true t v d p) : ∃ l : List UInt8, v = sec l ∧ l.length = n := by
  simp only [Value.okWide, ht] at hval
  obtain ⟨cs, rfl, hs, _⟩ := hval
  obtain ⟨fuel, hf⟩ := h
  cases fuel with
  | zero => simp [DataW.trod] at hf
  | succ fuel =>
    have hsz : cs.toList.length = P.cellsOf t := by simpa using hs
    unfold DataW.trod at hf
    simp only [ht, Value.cells, hsz, if_true, Option.map_eq_some_iff] at hf
    obtain ⟨xs, hxs, _⟩ := hf
    obtain ⟨zs, hz, hw⟩ := trod_cells_int he hc (by rw [hsz, hn]) hxs
    obtain ⟨l, hl, hll⟩ := bytes_of hw
    refine ⟨l, ?_, ?_⟩
    · show Value.agg cs = Value.agg (bs l).toArray
      rw [← hl, ← hz]
    · rw [hll, ← hn, ← hsz, hz]; simp
end Go.Proofs.YtieejbkbdfccdaaDoor
