/- Rows that came in, opened. -/
import Derived.Test.YtieejbkbdfccdaaGreatRow
import Derived.Test.YtieejbkbdfccdaaGreatPrims3
import Derived.Deep.Slices
import Derived.Deep.Grids
set_option linter.unusedVariables false
set_option linter.unusedSimpArgs false
namespace Go.Proofs.YtieejbkbdfccdaaGreat
open Go Go.ChangeShapes Go.WideShapes
variable {H : Type} {enc : TypeId × Value → H}
/-- A struct's fields: type and offset. -/
def fieldsB (P : Program) (t : TypeId) (l : List (TypeId × Nat)) : Bool := match P.underlying t with | some (.struct fs) => fs.toList.map (fun f => (f.type, f.offset)) == l | _ => false
theorem fieldsB_und {P : Program} {t : TypeId} {l : List (TypeId × Nat)} (h : fieldsB P t l = true) : ∃ fs, P.underlying t = some (.struct fs) ∧ fs.toList.map (fun f => (f.type, f.offset)) = l := by
  unfold fieldsB at h
  split at h
  · rename_i fs hu
    exact ⟨fs, hu, by simpa using h⟩
  · simp at h
theorem mapM_each {α β : Type} {g : α → Option β} : ∀ {l : List α} {xs : List β}, l.mapM g = some xs → ∀ a ∈ l, ∃ y, g a = some y := by
  intro l
  induction l with
  | nil => intro xs _ a ha; cases ha
  | cons b l ih =>
    intro xs h a ha
    simp only [List.mapM_cons, Option.bind_eq_bind, Option.bind_eq_some_iff] at h
    obtain ⟨y, hy, ys, hys, _⟩ := h
    rcases List.mem_cons.1 ha with rfl | hm
    · exact ⟨y, hy⟩
    · exact ih hys a hm
theorem open_fields {P : Program} {W : World} {base : Nat} {sp : Nat → Bool} {held : Bool} {fuel : Nat} {t : TypeId} {l : List (TypeId × Nat)} {cs : List Value} {x : DataW H × List MemPlace} (hl : fieldsB P t l = true) (h : DataW.trod enc P W base sp held fuel t cs = some x) :
    cs.length = P.cellsOf t ∧ ∀ f ∈ l, ∃ n y, DataW.trod enc P W base sp held n f.1 ((cs.drop f.2).take (P.cellsOf f.1)) = some y := by
  obtain ⟨fs, hu, rfl⟩ := fieldsB_und hl
  cases fuel with
  | zero => simp [DataW.trod] at h
  | succ fuel =>
    unfold DataW.trod at h
    simp only [hu] at h
    split at h
    · rename_i hlen
      refine ⟨hlen, fun f hf => ?_⟩
      simp only [Option.map_eq_some_iff] at h
      obtain ⟨xs, hxs, _⟩ := h
      obtain ⟨g, hg, rfl⟩ := List.mem_map.1 hf
      obtain ⟨y, hy⟩ := mapM_each hxs g hg
      exact ⟨fuel, y, hy⟩
    · simp at h
theorem open_int1 {P : Program} {W : World} {base : Nat} {sp : Nat → Bool} {held : Bool} {fuel : Nat} {t : TypeId} {k : IntKind} {v : Value} {x : DataW H × List MemPlace} (ht : P.underlying t = some (.int k)) (h : DataW.trod enc P W base sp held fuel t [v] = some x) :
    ∃ n, v = .int k n ∧ (Lit.int k n).wf = true := by
  cases fuel with
  | zero => simp [DataW.trod] at h
  | succ fuel =>
    cases v <;> simp [DataW.trod, ht] at h
    rename_i k' m
    obtain ⟨⟨rfl, hw⟩, _⟩ := h
    exact ⟨m, rfl, hw⟩
theorem open_slice_ints {P : Program} {W : World} {fuel : Nat} {t e : TypeId} {k : IntKind} {v : Value} {x : DataW H × List MemPlace} (ht : P.underlying t = some (.slice e)) (he : P.underlying e = some (.int k)) (hc : P.cellsOf e = 1) (hct : P.cellsOf t = 1)
    (h : DataW.trod enc P W 0 (fun _ => true) true fuel t [v] = some x) :
    ∃ zs : List Int, RdV W v zs.length (zs.map (Value.int k)) ∧ ∀ n ∈ zs, (Lit.int k n).wf = true := by
  have hv : ∃ a len cap, v = .slice a len cap := by
    cases fuel with
    | zero => simp [DataW.trod] at h
    | succ fuel => cases v <;> simp [DataW.trod, ht] at h ⊢
  obtain ⟨a, len, cap, rfl⟩ := hv
  have hf : DataW.trod enc P W 0 (fun _ => true) true fuel t (Value.slice a len cap).cells.toList = some x := h
  rcases open_ints ht he hc hf with ⟨h0, _⟩ | ⟨ad, len', cap', zs, hcs, _, hlc, hcm, hzl, _, hcell, hwf⟩
  · simp only [Value.cells, List.cons.injEq, and_true] at h0
    rw [h0]
    exact ⟨[], .inl ⟨none, 0, rfl, rfl, rfl⟩, by simp⟩
  · simp only [Value.cells, List.cons.injEq, and_true, Value.slice.injEq] at hcs
    obtain ⟨rfl, rfl, rfl⟩ := hcs
    simp only [if_true] at hzl
    by_cases h0 : len = 0
    · subst h0
      exact ⟨[], .inl ⟨_, _, rfl, rfl, rfl⟩, by simp⟩
    · have hc0 := hcell 0 (by omega)
      obtain ⟨b, o, spot⟩ := ad
      have hspot : spot = none := by simpa [Addr.add] using World.cell?_spot hc0
      subst hspot
      have hlt : b < sz W := World.block_lt_of_cell? W _ (by simpa [Addr.add] using hc0)
      have hget : ∀ j, j < cap → (mm W b)[o + j]? = some (.int k (zs.getD j 0)) := fun j hj => by
        have := hcell j (by omega)
        rw [Addr.add_lit, cell_mm] at this
        exact this
      refine ⟨zs.take len, ?_, fun n hn => hwf n (List.mem_of_mem_take hn)⟩
      have hl : (zs.take len).length = len := by simp; omega
      have hin : o + len ≤ (mm W b).length := by
        have := hget (len - 1) (by omega)
        have := (List.getElem?_eq_some_iff.1 this).1
        omega
      refine .inr ⟨b, o, cap, by rw [hl], by omega, hcm, hlt, by rw [List.length_map, hl]; exact hin, ?_⟩
      apply List.ext_getElem?
      intro j
      simp only [List.length_map, hl, List.getElem?_take, List.getElem?_drop, List.getElem?_map]
      by_cases hj : j < len
      · rw [if_pos hj, if_pos hj, hget j (by omega)]
        simp [show j < zs.length by omega]
      · simp [hj]
theorem rev_ind' {α : Type} {M : List α → Prop} (h0 : M []) (h1 : ∀ L a, M L → M (L ++ [a])) (L : List α) : M L := by
  have : ∀ K : List α, M K.reverse := by
    intro K
    induction K with
    | nil => exact h0
    | cons a K ih => rw [List.reverse_cons]; exact h1 _ _ ih
  simpa using this L.reverse
/-- Rows of a memory's block, one behind the other. -/
theorem rows_flat {α : Type} {f : α → List Value} {n : Nat} {m : List Value} {o : Nat} : ∀ {L : List α}, (∀ x ∈ L, (f x).length = n) → (∀ i x, L[i]? = some x → ∀ r, r < n → m[o + i * n + r]? = (f x)[r]?) →
    (m.drop o).take (L.length * n) = flat f L := by
  intro L
  refine rev_ind' (M := fun L => (∀ x ∈ L, (f x).length = n) → (∀ i x, L[i]? = some x → ∀ r, r < n → m[o + i * n + r]? = (f x)[r]?) → (m.drop o).take (L.length * n) = flat f L) ?_ ?_ L
  · intro _ _; simp [flat_nil]
  · intro L a ih hl hm
    have ih := ih (fun x hx => hl x (by simp [hx])) (fun i x hx => hm i x (by
      have hlt := (List.getElem?_eq_some_iff.1 hx).1
      rw [List.getElem?_append_left hlt]; exact hx))
    rw [flat_append, flat_one, List.length_append, List.length_singleton, Nat.add_mul, Nat.one_mul, List.take_add, ih]
    congr 1
    have ha := hl a (by simp)
    apply List.ext_getElem?
    intro r
    rw [List.getElem?_take, List.getElem?_drop, List.getElem?_drop]
    by_cases hr : r < n
    · rw [if_pos hr, ← hm L.length a (by simp) r hr, Nat.add_assoc]
    · rw [if_neg hr, List.getElem?_eq_none (by omega)]
theorem open_rows {α : Type} {P : Program} {fc : α → List Value} {Ok : α → Prop} {t e : TypeId} {n : Nat} {W : World} {fuel : Nat} {v : Value} {x : DataW H × List MemPlace} (x0 : α) (ht : P.underlying t = some (.slice e)) (hc : P.cellsOf e = n) (hn : 0 < n) (hlen : ∀ x, (fc x).length = n) (hct : ∃ a len cap, v = .slice a len cap)
    (hopen : ∀ {fuel : Nat} {cs : List Value} {x : DataW H × List MemPlace}, DataW.trod enc P W 0 (fun _ => true) true fuel e cs = some x → ∃ q, cs = fc q ∧ Ok q)
    (h : DataW.trod enc P W 0 (fun _ => true) true fuel t v.cells.toList = some x) : ∃ L : List α, RdV W v L.length (flat fc L) ∧ ∀ q ∈ L, Ok q := by
  letI : Inhabited α := ⟨x0⟩
  obtain ⟨a, len, cap, rfl⟩ := hct
  have hf : DataW.trod enc P W 0 (fun _ => true) true fuel t (Value.slice a len cap).cells.toList = some x := h
  rcases Deep.open_slice ht hf with ⟨h0, _⟩ | ⟨ad, len', cap', m, n', D, Pl, hcs, _, hlc, hcm, hm, _, hel⟩
  · simp only [Value.cells, List.cons.injEq, and_true] at h0
    rw [h0]
    exact ⟨[], .inl ⟨none, 0, rfl, rfl, rfl⟩, by simp⟩
  · simp only [Value.cells, List.cons.injEq, and_true, Value.slice.injEq] at hcs
    obtain ⟨rfl, rfl, rfl⟩ := hcs
    simp only [if_true] at hm
    subst hm
    by_cases h0 : len = 0
    · subst h0
      exact ⟨[], .inl ⟨_, _, rfl, rfl, rfl⟩, by simp⟩
    · obtain ⟨b, o, spot⟩ := ad
      rw [hc] at hel
      obtain ⟨f, hfs⟩ := Deep.choose_lt (n := len) (p := fun i q => W.cells? 0 ((⟨b, o, spot⟩ : Addr).add (i * n)) n = some (fc q) ∧ Ok q) (fun i hi => by
        obtain ⟨cs', h1, h2⟩ := hel i (by omega)
        obtain ⟨q, rfl, hq⟩ := hopen h2
        exact ⟨q, h1, hq⟩)
      have hcell : ∀ i, i < len → ∀ r, r < n → W.cell? ((⟨b, o, spot⟩ : Addr).add (i * n + r)) = (fc (f i))[r]? := fun i hi r hr => by
        have := (World.cells?_some (hfs i hi).1).2.2 r hr
        rw [Deep.add_add] at this
        exact this
      have hsome : ∀ i, i < len → ∀ r, r < n → ∃ c, (fc (f i))[r]? = some c := fun i hi r hr => ⟨_, List.getElem?_eq_getElem (by rw [hlen]; exact hr)⟩
      obtain ⟨c00, hc00⟩ := hsome 0 (by omega) 0 hn
      have hc0 : W.cell? ((⟨b, o, spot⟩ : Addr).add (0 * n + 0)) = some c00 := (hcell 0 (by omega) 0 hn).trans hc00
      have hspot : spot = none := by simpa [Addr.add] using World.cell?_spot hc0
      subst hspot
      have hlt : b < sz W := World.block_lt_of_cell? W _ (by simpa [Addr.add] using hc0)
      have hget : ∀ i, i < len → ∀ r, r < n → (mm W b)[o + i * n + r]? = (fc (f i))[r]? := fun i hi r hr => by
        have := hcell i hi r hr
        rw [Addr.add_lit, cell_mm, ← Nat.add_assoc] at this
        exact this
      have hLl : ((List.range len).map f).length = len := by simp
      have hLi : ∀ i x, ((List.range len).map f)[i]? = some x → i < len ∧ x = f i := fun i x hx => by
        have hlt := (List.getElem?_eq_some_iff.1 hx).1
        rw [hLl] at hlt
        refine ⟨hlt, ?_⟩
        simp [hlt] at hx
        exact hx.symm
      have hfl : (flat fc ((List.range len).map f)).length = len * n := by rw [flat_length (n := n) (fun x _ => hlen x), hLl]
      refine ⟨(List.range len).map f, ?_, fun q hq => ?_⟩
      · rw [hLl]
        refine .inr ⟨b, o, _, rfl, by omega, hcm, hlt, ?_, ?_⟩
        · rw [hfl]
          obtain ⟨c, hc⟩ := hsome (len - 1) (by omega) (n - 1) (by omega)
          have := hget (len - 1) (by omega) (n - 1) (by omega)
          rw [hc] at this
          have := (List.getElem?_eq_some_iff.1 this).1
          have e : (len - 1) * n + n = len * n := by
            rw [← Nat.succ_mul]; congr 1; omega
          omega
        · have := rows_flat (f := fc) (n := n) (m := mm W b) (o := o) (L := (List.range len).map f) (fun x _ => hlen x) (fun i x hx r hr => by
            obtain ⟨hi, rfl⟩ := hLi i x hx
            exact hget i hi r hr)
          rw [hfl]; rw [hLl] at this; exact this
      · obtain ⟨i, hi, rfl⟩ := List.mem_map.1 hq
        exact (hfs i (List.mem_range.1 hi)).2
theorem open_str1 {P : Program} {W : World} {base : Nat} {sp : Nat → Bool} {held : Bool} {fuel : Nat} {t : TypeId} {v : Value} {x : DataW H × List MemPlace} (ht : P.underlying t = some .string) (h : DataW.trod enc P W base sp held fuel t [v] = some x) :
    ∃ s, v = strB s ∧ s.length ≤ maxLen := by
  cases fuel with
  | zero => simp [DataW.trod] at h
  | succ fuel =>
    unfold DataW.trod at h
    rw [ht] at h
    cases v <;> simp only [reduceCtorEq] at h
    rename_i s
    by_cases hs : s.size ≤ maxLen
    · exact ⟨s.data.toList, rfl, hs⟩
    · rw [if_neg hs] at h; cases h
theorem open_float1 {P : Program} {W : World} {base : Nat} {sp : Nat → Bool} {held : Bool} {fuel : Nat} {t : TypeId} {k : FloatKind} {v : Value} {x : DataW H × List MemPlace} (ht : P.underlying t = some (.float k)) (h : DataW.trod enc P W base sp held fuel t [v] = some x) :
    ∃ n, v = .float k n ∧ (Lit.float k n).wf = true := by
  cases fuel with
  | zero => simp [DataW.trod] at h
  | succ fuel =>
    cases v <;> simp [DataW.trod, ht] at h
    rename_i k' m
    obtain ⟨⟨rfl, hw⟩, _⟩ := h
    exact ⟨m, rfl, hw⟩
end Go.Proofs.YtieejbkbdfccdaaGreat
