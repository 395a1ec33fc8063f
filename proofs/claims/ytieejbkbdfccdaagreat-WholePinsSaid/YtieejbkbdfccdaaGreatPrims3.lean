/- Rows of things that take several cells each; slices that are made, and that grow. -/
import Derived.Test.YtieejbkbdfccdaaGreatPrims2
import Derived.Laws.MakeOwn
set_option linter.unusedVariables false
set_option linter.unusedSimpArgs false
namespace Go.Proofs.YtieejbkbdfccdaaGreat
open Go
/-! ### Rows -/
def flat {α : Type} (f : α → List Value) (L : List α) : List Value := (L.map f).flatten
theorem flat_nil {α : Type} (f : α → List Value) : flat f [] = [] := rfl
theorem flat_append {α : Type} (f : α → List Value) (L M : List α) : flat f (L ++ M) = flat f L ++ flat f M := by simp [flat]
theorem flat_one {α : Type} (f : α → List Value) (x : α) : flat f [x] = f x := by simp [flat]
theorem flat_length {α : Type} {f : α → List Value} {n : Nat} : ∀ {L : List α}, (∀ x ∈ L, (f x).length = n) → (flat f L).length = L.length * n := by
  intro L
  induction L with
  | nil => intro _; simp [flat]
  | cons x L ih =>
    intro h
    have h1 := h x List.mem_cons_self
    have h2 := ih fun y hy => h y (List.mem_cons_of_mem _ hy)
    simp only [flat, List.map_cons, List.flatten_cons, List.length_append, List.length_cons] at h2 ⊢
    rw [h1, h2, Nat.add_mul]
    omega
theorem flat_take_drop {α : Type} {f : α → List Value} {n : Nat} : ∀ {L : List α} {i : Nat} {x : α}, (∀ x ∈ L, (f x).length = n) → L[i]? = some x → ((flat f L).drop (i * n)).take n = f x := by
  intro L
  induction L with
  | nil => intro i x _ hx; simp at hx
  | cons y L ih =>
    intro i x h hx
    have h1 := h y List.mem_cons_self
    cases i with
    | zero =>
      simp only [List.getElem?_cons_zero, Option.some.injEq] at hx
      subst hx
      simp [flat, ← h1]
    | succ i =>
      simp only [List.getElem?_cons_succ] at hx
      have := ih (fun z hz => h z (List.mem_cons_of_mem _ hz)) hx
      simp only [flat, List.map_cons, List.flatten_cons] at this ⊢
      rw [Nat.add_mul, Nat.one_mul, Nat.add_comm, List.drop_append, List.drop_eq_nil_of_le (by omega), List.nil_append, h1]
      rw [Nat.add_sub_cancel_left]
      exact this
theorem flat_set {α : Type} {f : α → List Value} {n : Nat} : ∀ {L : List α} {i : Nat} {vs : List Value} {y : α}, (∀ x ∈ L, (f x).length = n) → i < L.length → (f y).length = n → vs = f y →
    splice (flat f L) (i * n) vs = flat f (L.set i y) := by
  intro L
  induction L with
  | nil => intro i vs y _ hi; simp at hi
  | cons z L ih =>
    intro i vs y h hi hy hvs
    have h1 := h z List.mem_cons_self
    subst hvs
    cases i with
    | zero =>
      simp only [flat, List.map_cons, List.flatten_cons, Nat.zero_mul, List.set_cons_zero, splice, List.take_zero, List.nil_append, Nat.zero_add]
      rw [List.drop_append, hy, ← h1, List.drop_length, Nat.sub_self, List.drop_zero, List.nil_append]
    | succ i =>
      have := ih (y := y) (fun x hx => h x (List.mem_cons_of_mem _ hx)) (by simpa using hi) hy rfl
      simp only [flat, List.map_cons, List.flatten_cons, List.set_cons_succ, splice] at this ⊢
      rw [← this]
      have e1 : (i + 1) * n = (f z).length + i * n := by rw [Nat.add_mul, h1]; omega
      rw [e1, List.take_append, List.take_of_length_le (by omega), Nat.add_sub_cancel_left, Nat.add_assoc, List.drop_append, List.drop_eq_nil_of_le (by omega), List.nil_append,
        Nat.add_sub_cancel_left]
      simp only [List.append_assoc]
theorem splice_append {l r vs : List Value} {i : Nat} (h : i + vs.length ≤ l.length) : splice (l ++ r) i vs = splice l i vs ++ r := by
  simp only [splice]
  rw [List.take_append_of_le_length (by omega), List.drop_append_of_le_length h]
  simp only [List.append_assoc]
section
variable {P : Program} {t : TypeId} {w : World} {b i : Nat}
theorem pMake_eq {e : TypeId} {n : Nat} (hs : sliceE P t = some e) (hz : hasZero P e = true) (hty : tyOk P e = true) (hzl : (zeroL P e).length = P.cellsOf e) (hn : n * P.bytesOf e ≤ 2 ^ 47) (hn2 : n < 2 ^ 62) :
    pMake P t (i64 n) (i64 n) w = some (sl (sz w) 0 n n, nw w (List.replicate n (zeroL P e)).flatten e) := by
  have hu := sliceE_und hs
  obtain ⟨z, hzr, hzc⟩ := run_zeroV hz w
  obtain ⟨inf, hi⟩ := tyOk_info hty
  have hb : inf.bytes = P.bytesOf e := by simp [Program.bytesOf, hi]
  have hzs : z.cells.size = P.cellsOf e := by rw [← hzl, ← hzc]; simp
  have hwr : IntKind.i64.wrap (n : Int) = n := wrap64 (by omega) (by omega)
  have hcond : ¬ (((n : Int) < 0 ∨ (281474976710656 : Int) < (P.bytesOf e : Int) * (n : Int)) ∨ (n : Int) < 0) := by
    have : ((n * P.bytesOf e : Nat) : Int) ≤ 140737488355328 := by omega
    rw [Nat.mul_comm] at this
    push_cast at this
    omega
  simp only [pMake, runV, Instr.makeSlice, Sem.run_bind, run_underlying hu, Result.andThen_ok, asInt, asIntOf, Sem.run_pure, run_typeInfo w hi, hb, hwr]
  have hc2 : ((decide ((n : Int) < 0) || decide ((P.bytesOf e : Int) * (n : Int) > 2 ^ 48)) || decide ((n : Int) < 0) || decide ((n : Int) > (n : Int))) = false := by
    simp only [Bool.or_eq_false_iff, decide_eq_false_iff_not]
    refine ⟨⟨⟨by omega, ?_⟩, by omega⟩, by omega⟩
    intro h
    exact hcond (.inl (.inr (by omega)))
  simp only [Sem.run_ite, Sem.run_bind]
  rw [if_neg (by rw [hc2]; simp)]
  simp only [run_askRoom, Result.andThen_ok, run_size hty, Sem.run_bind, Sem.run_ite, Sem.run_pure]
  have hnt : (n : Int).toNat = n := by omega
  by_cases h0 : n * P.cellsOf e = 0
  · have hz0 : (List.replicate n (zeroL P e)).flatten = [] := by
      apply List.eq_nil_of_length_eq_zero
      simp [hzl, h0]
    rw [hz0]
    have hr0 : ∀ f : Nat → Value, (Array.range 0).map f = #[] := fun f => by rw [Array.range_zero', List.map_toArray, List.map_nil]
    simp [hnt, h0, newRow, nw, sz, hr0]
  · simp only [hnt, if_neg h0, hzr, Result.andThen_ok, Sem.run_pure, newRow, Sem.run_bind, run_newObj]
    have hrow : (Array.range (n * P.cellsOf e)).map (fun i => z.cells[i % z.cells.size]!) = (List.replicate n (zeroL P e)).flatten.toArray := by
      apply Array.ext'
      simp only [Array.toList_map, Array.toList_range]
      rw [← hzc]
      have hpos : 0 < P.cellsOf e := by
        rcases Nat.eq_zero_or_pos (P.cellsOf e) with h | h
        · simp [h] at h0
        · exact h
      apply List.ext_getElem
      · simp [hzs]
      · intro i h1 h2
        have hmod : i % P.cellsOf e < P.cellsOf e := Nat.mod_lt _ hpos
        simp only [List.getElem_map, List.getElem_range, hzs]
        rw [getElem!_pos z.cells _ (by rw [hzs]; exact hmod)]
        have hfl : ∀ (n i : Nat) (l : List Value) (h : i < (List.replicate n l).flatten.length) (hl : i % l.length < l.length), (List.replicate n l).flatten[i] = l[i % l.length] := by
          intro n
          induction n with
          | zero => intro i l h; simp at h
          | succ n ih =>
            intro i l h hl
            simp only [List.replicate_succ, List.flatten_cons] at h ⊢
            by_cases hi : i < l.length
            · rw [List.getElem_append_left hi]
              congr 1
              exact (Nat.mod_eq_of_lt hi).symm
            · rw [List.getElem_append_right (by omega)]
              have hm : (i - l.length) % l.length = i % l.length := by
                rw [Nat.mod_eq_sub_mod (a := i) (by omega)]
              rw [ih (i - l.length) l _ (by rw [hm]; exact hl)]
              congr 1
        rw [hfl n i z.cells.toList h2 (by simp [hzs]; exact hmod)]
        simp [hzs]
    rw [hrow]
    rfl
def fieldsOk (P : Program) (t : TypeId) : Bool := match P.underlying t with | some (.struct fs) => fs.all fun f => tyOk P f.type | _ => false
def offF (P : Program) (t : TypeId) (i : Nat) : Nat := ((fieldB P t i).map (·.1)).getD 0
theorem pBuild_struct {ps : List (Nat × Value)} (hz : hasZero P t = true) (hf : fieldsOk P t = true)
    (hp : ∀ p ∈ ps, ∃ o u, fieldB P t p.1 = some (o, u) ∧ p.2.cells.size = P.cellsOf u ∧ o + P.cellsOf u ≤ (zeroL P t).length) :
    pBuild P t ps w = some (.agg (ps.foldl (fun l p => splice l (offF P t p.1) p.2.cells.toList) (zeroL P t)).toArray, w) := by
  unfold fieldsOk at hf
  cases hd : P.underlying t with
  | none => simp [hd] at hf
  | some d =>
    cases d <;> simp only [hd] at hf
    case struct fs =>
      have hoff : ∀ i, offP P t i = offF P t i := fun i => by
        simp only [offP, offF, fieldB, hd]
        cases fs[i]? <;> rfl
      rw [pBuild_eq hz (fun p hp' => ?_) (by unfold isAggB; rw [hd]) (fun fs' h f hf' => ?_) (by rw [hd]; simp)]
      · have : (fun (l : List Value) (p : Nat × Value) => splice l (offP P t p.1) p.2.cells.toList) = fun l p => splice l (offF P t p.1) p.2.cells.toList := by
          funext l p; rw [hoff]
        rw [this]
      · obtain ⟨o, u, h1, h2, h3⟩ := hp p hp'
        simp only [partOk, hd]
        simp only [fieldB, hd, Option.map_eq_some_iff, Prod.mk.injEq] at h1
        obtain ⟨f, hf1, rfl, rfl⟩ := h1
        exact ⟨f, hf1, h2, h3⟩
      · rw [hd] at h
        cases h
        exact Array.all_eq_true_iff_forall_mem.1 hf f hf'
    all_goals exact absurd hf (by simp)
/-- An own slice that grows: its row stays where it is, or is new. -/
theorem append_own2 {ty e : TypeId} {size : Nat} (base : Nat) (hs : sliceE P t = some e) (hz : hasZero P e = true) (hsz : P.cellsOf e = size) (hzl : (zeroL P e).length = size) (hpos : 0 < size)
    {v : Value} {n : Nat} {xs : List Value} (hown : w.ownsRow base e size v n xs) (hbase : base ≤ sz w)
    {x : Value} {m : Nat} {news : List Value} (hr : RdV w x m news) (hl : news.length = m * size) (h1 : ∀ u ∈ news, u.oneCell' = true)
    (h63 : n + m ≤ maxLen) (hbytes : (n + m) * P.bytesOf e ≤ 140737488355328) :
    ∃ v' w', pBuiltin P .append #[t, t] ty [v, x] w = some (v', w') ∧ w'.ownsRow base e size v' (n + m) (xs ++ news) ∧ w.grownBy w' v.ownBlock ∧
      (v'.ownBlock = v.ownBlock ∨ v'.ownBlock = some (sz w)) := by
  obtain ⟨v', w', hrun, hown', hgr, hnil⟩ := append_own base (ty := ty) hs hz hsz hzl hpos hown hbase hr hl h1 h63 hbytes
  refine ⟨v', w', hrun, hown', hgr, ?_⟩
  have hu := sliceE_und hs
  unfold hasZero at hz
  obtain ⟨z, hz⟩ := Option.isSome_iff_exists.1 hz
  cases hi : P.info? e with
  | none => simp [hi] at hz
  | some inf =>
    simp only [hi, Option.bind_some] at hz
    have hzc : z.cells.size = size := by simpa [zeroL, hi, hz] using hzl
    have his : inf.size = size := by simpa [Program.cellsOf, hi] using hsz
    have hib : inf.bytes = P.bytesOf e := by simp [Program.bytesOf, hi]
    rcases hr with ⟨a2, c2, rfl, rfl, rfl⟩ | ⟨b2, o2, c2, rfl, hmc, hmax, hlt, hin, hcs⟩
    · left
      have hsize : (sizeOf e).run P w = .ok inf.size w := by simp [sizeOf, typeInfo, hi]
      have hvv : v' = v := by
        rcases hown.2 with ⟨rfl, rfl⟩ | ⟨g, cap, cur, rfl, hbg, hg, hnc, hcm, hcs, htake⟩
        · cases a2 <;> simp [pBuiltin, runV, Builtin.append_, run_underlying hu, hsize, Builtin.lenOf, Builtin.firstCells, loadCells, loadCellsFrom] at hrun <;> exact hrun.1.symm
        · cases a2 <;> simp [pBuiltin, runV, Builtin.append_, run_underlying hu, hsize, Builtin.lenOf, Builtin.firstCells, loadCells, loadCellsFrom, hnc, storeCells] at hrun <;> exact hrun.1.symm
      rw [hvv]
    · have hnews : ∀ j u, news[j]? = some u → w.cell? ((⟨b2, o2, none⟩ : Addr).add j) = some u := fun j u hj => by
        have hjl := (List.getElem?_eq_some_iff.1 hj).1
        rw [Addr.add_lit, cell_mm, drop_take_get hcs hjl]
        rw [List.getD_eq_getElem?_getD, hj]; rfl
      have hsmall : n + m ≤ 9223372036854775807 := by simp only [maxLen] at h63; omega
      rcases hown.2 with ⟨rfl, rfl⟩ | ⟨g, cap, cur, rfl, hbg, hg, hnc, hcm, hcsz, htake⟩
      · by_cases hm0 : m = 0
        · left; rw [(hnil).2 ⟨rfl, hm0⟩]
        · right
          have hr := run_append_nil (P := P) w t ty e inf z hu hi hz ⟨b2, o2, none⟩ m c2 news (by rw [hl, his]) hnews (by omega) (by omega) (by rw [hib]; have hb := hbytes; simp only [Nat.zero_add] at hb; omega)
          simp only [pBuiltin, runV, hr, Option.some.injEq, Prod.mk.injEq] at hrun
          rw [← hrun.1]
          rfl
      · by_cases hroom : n + m ≤ cap
        · left
          have hfit : n * inf.size + news.length ≤ cur.size := by rw [hl, hcsz, his, ← Nat.add_mul]; exact Nat.mul_le_mul_right _ hroom
          have hr := run_append_room (P := P) w t ty e inf hu hi g n cap cur hg ⟨b2, o2, none⟩ m c2 news (by rw [hl, his]) hnews h1 hroom hfit
          simp only [pBuiltin, runV, hr, Option.some.injEq, Prod.mk.injEq] at hrun
          rw [← hrun.1]
          rfl
        · right
          have hg2 : v'.ownBlock = some (sz w) := by
            have hxl : xs.length = n * inf.size := by rw [hown.1, his]
            have holds : ∀ j u, xs[j]? = some u → w.cell? ((⟨g, 0, none⟩ : Addr).add j) = some u := hown.cells (g := g) rfl
            have hr := run_append_grow (P := P) w t ty e inf z hu hi hz ⟨g, 0, none⟩ n cap xs hxl holds ⟨b2, o2, none⟩ m c2 news (by rw [hl, his]) hnews (by omega) (by omega)
              (growslice_fits (by omega) (by rw [hib]; exact hbytes))
            simp only [pBuiltin, runV, hr, Option.some.injEq, Prod.mk.injEq] at hrun
            rw [← hrun.1]
            rfl
          exact hg2
end
/-! ### Slices that came in, and what is owned -/
theorem sl_of {w : World} {v : Value} {n : Nat} {cs : List Value} (h : RdV w v n cs) : ∃ a c, v = .slice a n c := by
  rcases h with ⟨a, c, rfl, rfl, _⟩ | ⟨b, o, c, rfl, _⟩
  · exact ⟨a, c, rfl⟩
  · exact ⟨_, _, rfl⟩
theorem own_val {w : World} {base e size : Nat} {v : Value} {n : Nat} {xs : List Value} (h : w.ownsRow base e size v n xs) : ∃ a c, v = .slice a n c := by
  rcases h.2 with ⟨rfl, rfl⟩ | ⟨g, cap, cur, rfl, _⟩
  · exact ⟨_, _, rfl⟩
  · exact ⟨_, _, rfl⟩
structure Own (w0 w : World) (F : List Nat) : Prop where
  fr : Fr [] w0 w
  own : ∀ k ∈ F, sz w0 ≤ k
theorem Own.step {w0 w w' : World} {F F' : List Nat} (h : Own w0 w F) (hf : Fr F w w') (hF : ∀ k ∈ F', k ∈ F ∨ sz w ≤ k) : Own w0 w' F' :=
  ⟨h.fr.trans hf fun k hk => .inr (h.own k hk), fun k hk => (hF k hk).elim (h.own k) fun h2 => Nat.le_trans h.fr.size h2⟩
theorem Own.same {w0 w w' : World} {F : List Nat} (h : Own w0 w F) (hf : Fr F w w') : Own w0 w' F := h.step hf fun k hk => .inl hk
theorem Own.calm {w0 w w' : World} {F : List Nat} (h : Own w0 w F) (hf : Fr [] w w') : Own w0 w' F := ⟨h.fr.trans0 hf, h.own⟩
theorem flat_len {α : Type} {f : α → List Value} {n : Nat} {L : List α} (h : ∀ x ∈ L, (f x).length = n) : (flat f L).length = L.length * n := flat_length h
/-- The j-th of the things that a slice has, each of which takes n cells. -/
theorem flat_at {α : Type} {w : World} {v : Value} {f : α → List Value} {n : Nat} {L : List α} (h : RdV w v L.length (flat f L)) (hf : ∀ x ∈ L, (f x).length = n) (hn : 0 < n) {j : Nat} {x : α} (hx : L[j]? = some x) :
    ∃ b o c, v = sl b o L.length c ∧ b < sz w ∧ o + j * n + n ≤ (mm w b).length ∧ ((mm w b).drop (o + j * n)).take n = f x := by
  have hj : j < L.length := (List.getElem?_eq_some_iff.1 hx).1
  rcases h with ⟨_, _, _, h0, _⟩ | ⟨b, o, c, rfl, h1, h2, h3, h4, h5⟩
  · omega
  · have hl := flat_length hf
    have hjn : j * n + n ≤ L.length * n := by
      have := Nat.mul_le_mul_right n (show j + 1 ≤ L.length by omega)
      rw [Nat.add_mul] at this; omega
    refine ⟨b, o, c, rfl, h3, by omega, ?_⟩
    have h6 := flat_take_drop hf hx
    rw [← h5, List.drop_take, List.drop_drop, List.take_take] at h6
    rw [← h6]
    congr 1
    omega
theorem cell_of {l cs : List Value} {k n : Nat} (h : (l.drop k).take n = cs) {i : Nat} (hi : i < n) : gt l (k + i) = gt cs i := by
  unfold gt
  rw [← h]
  simp only [List.getD_eq_getElem?_getD, List.getElem?_take, List.getElem?_drop, if_pos hi]
section
variable {P : Program} {t : TypeId} {w : World}
def flatOk (P : Program) (t : TypeId) : Bool :=
  match P.underlying t with
  | some (.struct fs) => fs.toList.all (fun f => Nat.beq (P.cellsOf f.type) 1) && Nat.beq fs.size (zeroL P t).length && (fs.toList.map (·.offset) == List.range fs.size)
  | _ => false
theorem pBuild_flat {ps : List (Nat × Value)} (hz : hasZero P t = true) (hf : fieldsOk P t = true) (hfl : flatOk P t = true) (hp : ∀ p ∈ ps, p.1 < (zeroL P t).length ∧ p.2.oneCell' = true) :
    pBuild P t ps w = some (.agg (ps.foldl (fun l p => l.set p.1 p.2) (zeroL P t)).toArray, w) := by
  unfold flatOk at hfl
  cases hd : P.underlying t with
  | none => simp [hd] at hfl
  | some d =>
    cases d <;> simp only [hd] at hfl
    case struct fs =>
      simp only [Bool.and_eq_true, List.all_eq_true, beq_iff_eq] at hfl
      obtain ⟨⟨h1, h2⟩, h3⟩ := hfl
      have h2 := Nat.eq_of_beq_eq_true h2
      have off : ∀ i, (h : i < fs.size) → fs[i].offset = i := fun i h => by
        have : (fs.toList.map (·.offset))[i]? = (List.range fs.size)[i]? := by rw [h3]
        simpa [h] using this
      have hcell : ∀ p ∈ ps, p.2.cells.toList = [p.2] := fun p hp' => by
        have := (hp p hp').2
        obtain ⟨i, v⟩ := p
        cases v <;> first | rfl | simp [Value.oneCell'] at this
      have hfb : ∀ p ∈ ps, ∃ u, fieldB P t p.1 = some (p.1, u) ∧ P.cellsOf u = 1 := fun p hp' => by
        have hlt : p.1 < fs.size := by rw [h2]; exact (hp p hp').1
        refine ⟨fs[p.1].type, ?_, Nat.eq_of_beq_eq_true (h1 _ (by simp))⟩
        simp only [fieldB, hd]
        simp [hlt, off p.1 hlt]
      rw [pBuild_struct hz hf (fun p hp' => ?_)]
      · congr 3
        have hgen : ∀ (qs : List (Nat × Value)) (l : List Value), (∀ p ∈ qs, p ∈ ps) → l.length = (zeroL P t).length →
            qs.foldl (fun l p => splice l (offF P t p.1) p.2.cells.toList) l = qs.foldl (fun l p => l.set p.1 p.2) l := by
          intro qs
          induction qs with
          | nil => intro l _ _; rfl
          | cons p qs ih =>
            intro l hq hll
            obtain ⟨u, hu, _⟩ := hfb p (hq p List.mem_cons_self)
            have ho : offF P t p.1 = p.1 := by simp [offF, hu]
            rw [List.foldl_cons, List.foldl_cons, ho, hcell p (hq p List.mem_cons_self), splice_one _ (by rw [hll]; exact (hp p (hq p List.mem_cons_self)).1)]
            exact ih _ (fun q h => hq q (List.mem_cons_of_mem _ h)) (by simpa using hll)
        exact congrArg List.toArray (hgen ps _ (fun p h => h) rfl)
      · obtain ⟨u, hu, hc⟩ := hfb p hp'
        refine ⟨p.1, u, hu, ?_, by rw [hc]; exact (hp p hp').1⟩
        have := congrArg List.length (hcell p hp')
        rw [hc]
        simpa using this
    all_goals exact absurd hfl (by simp)
end
end Go.Proofs.YtieejbkbdfccdaaGreat
